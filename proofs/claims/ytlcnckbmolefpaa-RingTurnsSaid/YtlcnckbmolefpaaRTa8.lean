/- Walks and laws of several statements of this seat, joined into one text; no condition. -/
import Derived.Test.YtlcnckbmolefpaaProg
import Derived.Below
import Derived.Deep.Draws
import Derived.Deep.AppendLies
import Derived.Maps.AppendAt
import Derived.OwnWalk
import Derived.Laws.BytesArg
import Derived.Laws.MakeOwn
import Derived.Laws.OwnMore
import Derived.Deep.OwnRows
import Derived.Tactics
import Derived.Lib.ConvBytes
import Derived.Laws.Slices
import Derived.WalkKit
import Derived.KernelRfl
import Derived.RowKit3
import Derived.Deep.LoopGhost
import Derived.Deep.QuietTactic
import Derived.BigQuiet
import Derived.WideLaws
import Derived.Deep.DeepCutAuto
import Derived.Deep.CutBlock
import Derived.Deep.RegionHeld3
import Derived.Laws.Rows
import Derived.Lib.AppendStr
import Derived.ArgAppend
import Derived.Laws.IdiomCopy
import Derived.OrdersHeld
import Derived.Laws.BitsLemmas
import Derived.RowKit
import Derived.Laws.StructEq
import Derived.Maps.RangeWalk
import Derived.Maps.OwnRows
import Derived.Maps.Views
import Derived.Maps.OwnSet
import Derived.IntWalk
import Derived.Shelf.SlMaps.Clone
import Derived.Deep.RegionHeldLaw
import Derived.Maps.GroupsBeside
import Derived.Laws.CopyOwn
import Derived.Deep.RegionLaw
import Derived.LoopTactic
import Derived.Outline
import Derived.Lib.BufferMore
import Derived.Deep.CutRange
import Derived.Lib.Zigzag
import Derived.Laws.EntriesVeiled
import Derived.Lib.Builder
import Derived.LaidEqlPtr
import Derived.Deep.Slices
import Derived.SizedLaws
import Derived.OpenShut
import Derived.Lib.SmallJoins
import Derived.Test.YtlcnckbmolefpaaRTa0
import Derived.Test.YtlcnckbmolefpaaRTa1
import Derived.Test.YtlcnckbmolefpaaRTa2
import Derived.Test.YtlcnckbmolefpaaRTa3
import Derived.Test.YtlcnckbmolefpaaRTa6
import Derived.Test.YtlcnckbmolefpaaRTa7
section
namespace Go.Proofs.Ytlcnckbmolefpaa.P
open Go.RowKit Go.Maps Go.Proofs.Ytlcnckbmolefpaa.CK Go.Proofs.YtlcnckbmolefpaaW.PrintWords Go.Proofs.YtlcnckbmolefpaaW.PrintLast Go.Proofs.YtlcnckbmolefpaaW.PrintMore
attribute [local go_sem] max2_int min2_int max_two min_two
set_option linter.unusedVariables false
set_option linter.unusedSimpArgs false
set_option maxRecDepth 100000
def rk (f : Nat) : Int := if f = 95 ∨ f = 94 then 0 else if f = 114 ∨ f = 113 then 1 else 2
theorem rk_le (f : Nat) : 0 ≤ rk f ∧ rk f ≤ 2 := by unfold rk; split <;> (try split) <;> omega
theorem meas1000 {i : Nat} (h : i < 1000) : (2000 - ((i : Int) + 1)).toNat < (2000 - (i : Int)).toNat := by omega
structure RT (W w : World) (gr gq gm nn ns n : Nat) (l1 : List (List S140)) (i at_ : Nat) (own ownq : Nat → Prop) (a P Q : Nat) (M : MS) (R : RC) (vL : Value) (hs : List Hd) (q : List (List S143)) (s0 s1 : Stage) (v0 v1 : Value) (c0 c1 : Int) : Prop where
  ts : TS W w own gr gq ownq n a P Q M R vL hs q q s0 s1 v0 v1
  ar : AR w W.heap.size own ownq gr nn ns v0 v1 c0 c1
  gm : R.gm = gm
  lg : M.log.length ≤ i
  lq : a + q.length ≤ i
  la : at_ ≤ i
  k0 : ∀ f bl, s0 = some (f, bl) → 1 ≤ at_ ∧ at_ ≤ l1.length ∧ bl = fixR (rd_L11 l1 ((at_ - 1 : Nat) : Int)) ∧ c0 = rk f
  k1 : ∀ f bl, s1 = some (f, bl) → c1 = rk f ∧ bl.length ≤ 12
theorem RT.start {W w : World} {own : Nat → Prop} {gr gm n : Nat} {l1 : List (List S140)} (h : RB w W.heap.size own gr (RingM n) (RC.start gm (n : Int))) (hn : n = 1 ∨ n = 2 ∨ n = 4 ∨ n = 8 ∨ n = 16) (hb : Below W.heap.size W w) :
    RT W (((w.alloc (.cells #[.pointer none, .pointer none] 123)).alloc (.cells #[.int .i64 0, .int .i64 0] 28)).alloc (.cells #[.slice none 0 0, .int .i64 (n : Int)] 93)) gr (w.heap.size + 1 + 1) gm w.heap.size (w.heap.size + 1) n l1 0 0 own (fun k => k = w.heap.size + 1 + 1) 0 0 0 (RingM n) (RC.start gm (n : Int)) (.slice none 0 0) [] [] none none (.pointer none) (.pointer none) 0 0 := by
  have b1 := below_alloc (Below.refl w.heap.size w) (.cells #[.pointer none, .pointer none] 123)
  have s1 : (w.alloc (.cells #[.pointer none, .pointer none] 123)).heap.size = w.heap.size + 1 := by simp
  have b2 := below_alloc (Below.refl _ (w.alloc (.cells #[.pointer none, .pointer none] 123))) (.cells #[.int .i64 0, .int .i64 0] 28)
  have s2 : ((w.alloc (.cells #[.pointer none, .pointer none] 123)).alloc (.cells #[.int .i64 0, .int .i64 0] 28)).heap.size = w.heap.size + 1 + 1 := by simp
  have b3 := below_alloc (Below.refl _ ((w.alloc (.cells #[.pointer none, .pointer none] 123)).alloc (.cells #[.int .i64 0, .int .i64 0] 28))) (.cells #[.slice none 0 0, .int .i64 (n : Int)] 93)
  have s3 : (((w.alloc (.cells #[.pointer none, .pointer none] 123)).alloc (.cells #[.int .i64 0, .int .i64 0] 28)).alloc (.cells #[.slice none 0 0, .int .i64 (n : Int)] 93)).heap.size = w.heap.size + 3 := by simp
  have bb := below_step (below_step b1 b2) b3
  have hB := hb.size
  have hgr := blk_lt h.ring
  have q1 := blk_below (blk_below (blk_new w (.cells #[.pointer none, .pointer none] 123)) b2) b3
  have q2 := blk_below (blk_new (w.alloc (.cells #[.pointer none, .pointer none] 123)) (.cells #[.int .i64 0, .int .i64 0] 28)) b3
  have q3 := blk_new ((w.alloc (.cells #[.pointer none, .pointer none] 123)).alloc (.cells #[.int .i64 0, .int .i64 0] 28)) (.cells #[.slice none 0 0, .int .i64 (n : Int)] 93)
  rw [s1] at q2
  rw [s2] at q3
  refine ⟨⟨h.below bb, TI.start n gm (QI.start n gm hn), ⟨rfl, .inl rfl⟩, ⟨rfl, .inl rfl⟩, ⟨q3, rfl, by omega, Kd.R_nil _ _ _ _ _, rfl, fun j hj => absurd hj (by simp)⟩, fun k hk => ?_, fun k hk => ⟨fun e => (by cases e), fun e => (by cases e)⟩, below_step hb bb⟩, ⟨q1, q2, ⟨fun ho => (by have := h.mem.2 _ ho; omega), fun ho => (by have := h.mem.2 _ ho; omega)⟩, ⟨fun e => (by omega), fun e => (by omega)⟩, ⟨by omega, by omega⟩, ⟨by omega, by omega⟩, by omega⟩, rfl, by simp [RingM], by simp, by omega, fun f bl e => (by cases e), fun f bl e => (by cases e)⟩
  have hk : k = w.heap.size + 1 + 1 := hk
  subst hk
  exact ⟨fun ho => by have := h.mem.2 _ ho; omega, by omega, by omega⟩
set_option maxHeartbeats 16000000 in
theorem RTurns_calls (s : Int) (A1 A2 : Option Addr) (c1 c2 : Nat) (l1 : List (List S140)) (l2 : List Int) (W : World) (h1 : Kd.C (Kd.slice 140 k140) W A1 l1.length l1) (h2 : Kd.C (Kd.int .i64) W A2 l2.length l2) :
    Calls Try.prog 15 #[.int .i64 s, .slice A1 l1.length c1, .slice A2 l2.length c2] W fun e w' => e = .returned (.bool true) ∧ Below W.heap.size W w' := by
  obtain ⟨n, hn, hsz⟩ := size_C s
  have H1 := Aside0.mk h1
  have H2 := Aside0.mk h2
  have HN := Aside0.mk hn
  have m1 := h1.2.1
  have m2 := h2.2.1
  have SZ := Aside0.mk (marchlandref11_Size.calls s (n : Int) W hsz)
  clear h1 h2 hn hsz
  go_enter Try.func15, Try.ntmps15
  go_upto_region 8 with (first | (go_at_call 53; ((with_reducible refine SZ.out.mono ?_); rintro e w1 ⟨rfl, hb⟩; have HB1 := Aside0.mk hb; clear hb)) | (go_at_call 54; ((refine (rbegin_C n HN.out w1).mono ?_); rintro e w2 ⟨gm, gr, own, rfl, hrb, -, hb⟩; have HR := Aside0.mk hrb; have HBY := Aside0.mk hb; clear hrb hb)) | (go_at_call 55; ((with_reducible refine (told11_C _).mono ?_); rintro e w3 ⟨rfl, hb⟩; have HR3 := Aside0.mk (HR.out.below hb); have HBX := Aside0.mk (below_step HBY.out hb); clear hb)))
  have HA0 := Aside0.mk (RT.start (W := w1) (l1 := l1) HR3.out HN.out HBX.out)
  generalize ew : ((w3.alloc (Obj.cells #[Value.pointer none, Value.pointer none] 123)).alloc (Obj.cells #[Value.int IntKind.i64 0, Value.int IntKind.i64 0] 28)).alloc (Obj.cells #[Value.slice none 0 0, Value.int IntKind.i64 (n : Int)] 93) = w4 at HA0 ⊢
  generalize eg : w3.heap.size + 1 + 1 = gq at HA0 ⊢
  generalize es : w3.heap.size + 1 = ns at HA0 ⊢
  generalize en : w3.heap.size = nn at HA0 ⊢
  clear HR HR3 HBY HBX SZ ew eg es en
  go_wp2
  go_loopw [13, 14] (fun v13 v14 wr => ∃ i at_ : Nat, v14 = .int .i64 (i : Int) ∧ v13 = .int .i64 (at_ : Int) ∧ Aside0 (i ≤ l2.length ∧ i ≤ 1000 ∧ ∃ own ownq a P Q M R vL hs q s0 s1 v0 v1 c0 c1, RT w1 wr gr gq gm nn ns n l1 i at_ own ownq a P Q M R vL hs q s0 s1 v0 v1 c0 c1)) (fun v13 v14 _ => (2000 - intOf v14).toNat)
  case atStart => exact ⟨0, 0, rfl, rfl, ⟨by omega, by omega, _, _, _, _, _, _, _, _, _, _, _, _, _, _, _, _, HA0.out⟩⟩
  case round =>
    clear HA0
    obtain ⟨i, at_, rfl, rfl, HI⟩ := hrel
    obtain ⟨hi1, hi2, own1, ownq, a, P, Q, M, R, vL, hs, q, s0, s1, v0, v1, k0, k1, hrt⟩ := HI.out
    have HT := Aside0.mk hrt.ts
    have HAR := Aside0.mk hrt.ar
    have HGM := Aside0.mk hrt.gm
    have HL := Aside0.mk (show _ ∧ _ ∧ _ ∧ _ from ⟨hrt.lg, hrt.lq, hi2, hrt.la⟩)
    have HK0 := Aside0.mk hrt.k0
    have HK1 := Aside0.mk hrt.k1
    clear hrt HI
    by_cases hil : i < l2.length ∧ i < 1000
    · obtain ⟨p1, p2⟩ := hil
      have d1 := decide_eq_true (show (i : Int) < (l2.length : Int) by omega)
      have d2 := decide_eq_true (show (i : Int) < (1000 : Int) by omega)
      have q0 : (0 : Int) ≤ (i : Int) := by omega
      have q1 : (i : Int) < (l2.length : Int) := by omega
      have hw : IntKind.i64.wrap ((i : Int) + 1) = (i : Int) + 1 := by rw [IntKind.wrap_i64]; omega
      have HBW := Aside0.mk (below_step HB1.out HT.out.bel)
      obtain ⟨ad2, rfl, hx2⟩ := Kd.at_int (Kd.C_below H2.out HBW.out) (i : Int) q0 q1
      rw [Int.toNat_natCast] at hx2
      have HP2 := Aside0.mk (show _ ∧ _ from ⟨p1, p2⟩)
      clear p1 p2
      have hkk2 : Int.tmod (IntKind.u64.wrap (rd l2 (i : Int))) 2 = 0 ∨ Int.tmod (IntKind.u64.wrap (rd l2 (i : Int))) 2 = 1 := by
        have x1 := Int.tmod_nonneg 2 (u64_pos (rd l2 (i : Int)))
        have x2 := Int.tmod_lt_of_pos (IntKind.u64.wrap (rd l2 (i : Int))) (show (0 : Int) < 2 by omega)
        omega
      rcases hkk2 with hkk | hkk
      · obtain ⟨hxn0, hxn1⟩ : _ ∧ _ := ⟨(blk_cell HAR.out.hn 0).trans rfl, (blk_cell HAR.out.hn 1).trans rfl⟩
        replace hxn0 : _ = some v0 := hxn0
        clear hxn1
        have hwa : IntKind.i64.wrap ((at_ : Int) + 1) = (at_ : Int) + 1 := by have := HL.out; rw [IntKind.wrap_i64]; omega
        cases s0 with
        | none =>
          obtain ⟨rfl, heo⟩ : v0 = .pointer none ∧ EndOk _ _ _ _ R.ai := HT.out.x0
          clear heo
          by_cases hat : at_ < l1.length
          · have hat2 := decide_eq_true (show (at_ : Int) < (l1.length : Int) by omega)
            have q5 : (0 : Int) ≤ (at_ : Int) := by omega
            have q6 : (at_ : Int) < (l1.length : Int) := by omega
            have hwb : IntKind.i64.wrap (at_ : Int) = (at_ : Int) := by have := HL.out; rw [IntKind.wrap_i64]; omega
            obtain ⟨ad0, A3, c3, rfl, hx1, hl1, hC1⟩ := at_L11 (Kd.C_below H1.out HBW.out) (at_ : Int) q5 q6
            rw [Int.toNat_natCast] at hx1
            obtain ⟨X, hX⟩ : ∃ X, fixR (rd_L11 l1 (at_ : Int)) = X := ⟨_, rfl⟩
            have HXL := Aside0.mk (show X.length ≤ 12 by rw [← hX]; exact fixR_len _)
            have FC0 := Fix_C A3 c3 _ _ hC1 hl1
            rw [hX] at FC0
            have FC := Aside0.mk FC0
            have HX := Aside0.mk hX.symm
            have HAT := Aside0.mk hat
            clear hC1 hl1 FC0 hX hat
            go_upto_region 19 with (first | (go_at_call 33; ((refine FC.out.mono ?_); rintro e w5 ⟨v5, rfl, hr, hb⟩; obtain ⟨A5, n5, c5, rfl⟩ := R_any hr; obtain ⟨e5, h5, hC5⟩ := Kd.R_reads' hr; obtain rfl : n5 = X.length := e5.trans (List.length_map ..); have HT5 := Aside0.mk (HT.out.below hb); have HAR5 := Aside0.mk (HAR.out.below hb); have TC0 := To_C A5 c5 X (by unfold Pure.Short; have := HXL.out; omega) w5 hC5 (by rw [List.length_map]; exact h5); rw [List.length_map] at TC0; have TC := Aside0.mk TC0; clear hr hb e5 h5 hC5 TC0)) | (go_at_call 35; ((refine TC.out.mono ?_); rintro e w6 ⟨v6, rfl, hr, hb⟩; obtain ⟨A6, n6, c6, rfl⟩ := R_any hr; obtain ⟨e6, h6, hC6⟩ := Kd.R_reads' hr; subst e6; have HT6 := Aside0.mk (HT5.out.below hb); have HAR6 := Aside0.mk (HAR5.out.below hb); have PU := Aside0.mk (Push_ok (gr := gr) (bl := X) 0 A6 c6 HT6.out.rb hC6 (by have := HXL.out; omega) (fun w1 hb => (AtEnd.endOk HT6.out.x0).over hb)); clear hr hb h6 hC6)) | (go_at_call 63; ((refine PU.out.mono ?_); rintro e w7 ⟨na, v7, rfl, hna, hrg, hk, hb⟩; have HT7 := Aside0.mk (TS.begin0 HT6.out hrg hna hk hb HXL.out); have HAR7 := Aside0.mk (HAR6.out.keep (own' := own1) (ownq' := ownq) hk ⟨HAR6.out.gn.1, HAR6.out.gn.2⟩ (fun k => .inl) (fun k => .inl)); have hy0 : w7.cell? ⟨nn, 0, none⟩ = some (.pointer none) := (blk_cell HAR7.out.hn 0).trans rfl; have hyz := blk_frozen HAR7.out.hn 0; clear hna hrg hk hb)))
            have HS7 := HAR7.out.setN false (.pointer (some ⟨na, 0, none⟩))
            have HT8 := Aside0.mk (HT7.out.still HS7.2.1 HS7.2.2 HAR7.out.hn (by decide) (HAR7.out.noUn ⟨_, rfl⟩ HT7.out.x1.val) HAR7.out.on.1 HAR7.out.gn.1 HAR7.out.oq.1)
            have HAR8 := Aside0.mk HS7.1
            replace HT8 : Aside0 (TS w1 (w7.setCell ⟨nn, 0, none⟩ (.pointer (some ⟨na, 0, none⟩))) own1 gr gq ownq n a P Q M { R with ai := .pointer (some ⟨na, 0, none⟩) } vL hs q q (some (95, X)) s1 (.pointer (some ⟨na, 0, none⟩)) v1) := HT8
            replace HAR8 : Aside0 (AR (w7.setCell ⟨nn, 0, none⟩ (.pointer (some ⟨na, 0, none⟩))) w1.heap.size own1 ownq gr nn ns (.pointer (some ⟨na, 0, none⟩)) v1 k0 k1) := HAR8
            clear HS7 HT5 HT6 HT7 HAR5 HAR6 HAR7 hy0 hyz HT HAR PU TC FC hxn0 hx1
            generalize World.setCell _ _ _ = w10 at HT8 HAR8 ⊢
            have hx1s : w10.cell? ⟨ns, 0, none⟩ = some (.int .i64 k0) := (blk_cell HAR8.out.hs 0).trans rfl
            have hz1s := blk_frozen HAR8.out.hs 0
            go_upto_region 20 with fail
            have HS9 := HAR8.out.setS false 0
            have HT9 := Aside0.mk (HT8.out.still HS9.2.1 HS9.2.2 HAR8.out.hs (by decide) HAR8.out.noUs HAR8.out.on.2 HAR8.out.gn.2 HAR8.out.oq.2)
            have HAR9 := Aside0.mk HS9.1
            replace HT9 : Aside0 (TS w1 (w10.setCell ⟨ns, 0, none⟩ (.int .i64 0)) own1 gr gq ownq n a P Q M { R with ai := .pointer (some ⟨na, 0, none⟩) } vL hs q q (some (95, X)) s1 (.pointer (some ⟨na, 0, none⟩)) v1) := HT9
            replace HAR9 : Aside0 (AR (w10.setCell ⟨ns, 0, none⟩ (.int .i64 0)) w1.heap.size own1 ownq gr nn ns (.pointer (some ⟨na, 0, none⟩)) v1 0 k1) := HAR9
            clear HS9 HT8 HAR8 hx1s hz1s
            generalize World.setCell _ _ _ = w7 at HT9 HAR9 ⊢
            have HJ := Aside0.mk (show at_ < l1.length ∧ at_ ≤ 1000 ∧ at_ + 1 ≤ i + 1 from ⟨HAT.out, by have := HL.out; omega, by have := HL.out; omega⟩)
            have HRK := Aside0.mk (show (0 : Int) = rk 95 by decide)
            have HBL := HXL
            have HGMc := HGM
            clear HGM HAT
            obtain ⟨Rc, hRc⟩ : ∃ Rc, ({ R with ai := .pointer (some ⟨na, 0, none⟩) } : RC) = Rc := ⟨_, rfl⟩
            have HGMd := Aside0.mk (show Rc.gm = gm by rw [← hRc]; exact HGMc.out)
            rw [hRc] at HT9
            clear hRc HGMc
            obtain ⟨f, ef⟩ : ∃ f : Nat, f = 95 := ⟨_, rfl⟩
            obtain ⟨kc, ek9⟩ : ∃ kc : Int, kc = 0 := ⟨_, rfl⟩
            rw [← ef] at HT9
            rw [← ef, ← ek9] at HRK
            rw [← ek9] at HAR9
            obtain ⟨v0c, hv0c⟩ : ∃ v0c : Value, v0c = .pointer (some ⟨na, 0, none⟩) := ⟨_, rfl⟩
            rw [← hv0c] at HT9 HAR9
            clear ef ek9 hv0c
            have HT7 := HT9
            have HAR7 := HAR9
            clear HT9 HAR9
            obtain ⟨bl, hbl⟩ : ∃ bl, bl = X := ⟨_, rfl⟩
            rw [← hbl] at HT7 HBL HX
            clear hbl HXL
            have dA : IntKind.i64.wrap ((at_ : Int) + 1 - 1) = (at_ : Int) := by have := HJ.out; rw [IntKind.wrap_i64]; omega
            obtain ⟨nb, A, hv1, hao, hge, hheld, hout, hwho, hst, hok, hmk, hdf⟩ := HT7.out.act0
            have HV1 := Aside0.mk hv1
            have hxn : w7.cell? ⟨nn, 0, none⟩ = some (.pointer (some ⟨nb, 0, none⟩)) := (blk_cell HAR7.out.hn 0).trans (congrArg some hv1)
            have TM0 := Time_C HT7.out.rb.mem
            rw [HGMd.out] at TM0
            have TMa := Aside0.mk TM0
            have ST := Aside0.mk (turn0_C (hheld.rg HT7.out.rb hge) HT7.out.ti hst hout hwho hok (by have := HL.out; omega) (by have := HL.out; omega))
            have HH := Aside0.mk (show _ ∧ _ ∧ _ ∧ _ ∧ _ ∧ _ ∧ _ ∧ _ ∧ _ from ⟨hheld, hge, hao, (⟨f, hst⟩ : ∃ f, A.st = stg f), hdf, hout, hwho, hok, hmk⟩)
            have HNS := Aside0.mk (show (¬ (own1 nn ∨ nn = gr ∨ nn = nb)) ∧ ¬ (own1 ns ∨ ns = gr ∨ ns = nb) from ⟨fun e => e.elim HAR7.out.on.1 (fun e => e.elim HAR7.out.gn.1 (hheld.act.ne_of HAR7.out.hn (by decide))), fun e => e.elim HAR7.out.on.2 (fun e => e.elim HAR7.out.gn.2 (hheld.act.ne_of HAR7.out.hs (by decide)))⟩)
            clear TM0 hv1 hao hge hheld hout hwho hst hok hmk hdf
            go_upto_region 23 with (first | (go_at_call 43; ((refine TMa.out.mono ?_); rintro e w6 ⟨rfl, hw6⟩; obtain rfl := hw6)) | (go_at_call 78; ((refine ST.out.mono ?_); rintro e w9 ⟨over, ok, v, M9, R9, P9, Q9, f9, rfl, hT, hti, hlg, e1, e2, e3, g1, g2⟩; obtain ⟨own9, htm, hs9, hk9⟩ := TM.made0 HT7.out HH.out.1 HH.out.2.1 HH.out.2.2.1 HH.out.2.2.2.1 HH.out.2.2.2.2.1 hT hti e1 e2; have HTM := Aside0.mk htm; have HAR9 := Aside0.mk (HAR7.out.keep (ownq' := ownq) hk9 HNS.out hs9 (fun k => .inl)); have HF := Aside0.mk (show _ ∧ _ ∧ _ ∧ _ from ⟨hlg, e3.trans HGMd.out, g1, g2⟩); have HQL := Aside0.mk HT7.out.ti.qi.le; clear hT hti hlg e1 e2 e3 g1 g2 htm hs9 hk9)))
            clear ST TMa HT7 HAR7 HNS hxn
            have hxs : w9.cell? ⟨ns, 0, none⟩ = some (.int .i64 kc) := (blk_cell HAR9.out.hs 0).trans rfl
            have hzs := blk_frozen HAR9.out.hs 0
            have hwk : IntKind.i64.wrap (kc + 1) = kc + 1 := by have := HRK.out; have := rk_le f; rw [IntKind.wrap_i64]; omega
            have hwl : IntKind.i64.wrap ((M.log.length : Int) + 1) = (M.log.length : Int) + 1 := by have := HL.out; rw [IntKind.wrap_i64]; omega
            have h8 : ¬ (8 < kc + 1) := by have := HRK.out; have := rk_le f; omega
            have hlt9 : ¬ ((M.log.length : Int) + 1 < (M9.log.length : Int)) := by have := HF.out.1; omega
            cases over
            · have HF9 := Aside0.mk (HF.out.2.2.2 rfl)
              go_upto_region 24 with fail
              have HS := HAR9.out.setS false (kc + 1)
              have HT8 := Aside0.mk (HTM.out.still HS.2.1 HS.2.2 HAR9.out.hs (by decide) HAR9.out.noUs HAR9.out.on.2 HAR9.out.gn.2 HAR9.out.oq.2)
              have HAR8 := Aside0.mk HS.1
              replace HT8 : Aside0 (TM w1 (w9.setCell ⟨ns, 0, none⟩ (.int .i64 (kc + 1))) own9 gr gq false nb ownq n a P9 Q9 M9 R9 (A.turned false ok v f9 M9.log.length) bl vL hs q q (some (f9, bl)) s1 v1) := HT8
              replace HAR8 : Aside0 (AR (w9.setCell ⟨ns, 0, none⟩ (.int .i64 (kc + 1))) w1.heap.size own9 ownq gr nn ns v0c v1 (kc + 1) k1) := HAR8
              clear HS HTM HAR9 hxs hzs
              generalize World.setCell _ _ _ = w8 at HT8 HAR8 ⊢
              have TM1 := Time_C HT8.out.rg.mem
              rw [HF.out.2.1] at TM1
              have TMb := Aside0.mk TM1
              have OV := Aside0.mk (Over_on (f := f9) HT8.out.rg.act rfl)
              have MK0 := Mark_C HT8.out.rg.act
              rw [show (A.turned false ok v f9 M9.log.length).mark = 0 from HH.out.2.2.2.2.2.2.2.2] at MK0
              have OK0 := Ok_C HT8.out.rg.act
              rw [show (A.turned false ok v f9 M9.log.length).ok = false from HH.out.2.2.2.2.2.2.2.1] at OK0
              have MK := Aside0.mk MK0
              have OKC := Aside0.mk OK0
              have hxs : w8.cell? ⟨ns, 0, none⟩ = some (.int .i64 (kc + 1)) := (blk_cell HAR8.out.hs 0).trans rfl
              clear TM1 MK0 OK0
              go_wp2_with (first | (go_at_call 43; ((refine TMb.out.mono ?_); rintro e w6 ⟨rfl, hw6⟩; obtain rfl := hw6)) | (go_at_call 57; ((refine OV.out.mono ?_); rintro e w6 ⟨rfl, hw6⟩; obtain rfl := hw6)) | (go_at_call 62; ((refine MK.out.mono ?_); rintro e w6 ⟨rfl, hw6⟩; obtain rfl := hw6)) | (go_at_call 60; ((refine OKC.out.mono ?_); rintro e w6 ⟨rfl, hw6⟩; obtain rfl := hw6)))
              go_roundw
              case rel =>
                have HAR10 := HAR8.out
                rw [HV1.out] at HAR10
                refine ⟨i + 1, at_ + 1, by first | rfl | exact congrArg _ hw, by first | rfl | exact congrArg _ hwa, ⟨by have := HP2.out; omega, by have := HP2.out; omega, own9, ownq, a, P9, Q9, M9, R9, vL, hs, q, some (f9, bl), s1, .pointer (some ⟨nb, 0, none⟩), v1, kc + 1, k1, ⟨HT8.out.on (f := f9) rfl HH.out.2.2.2.2.2.1 HH.out.2.2.2.2.2.2.1 rfl HH.out.2.2.2.2.2.2.2.1 HH.out.2.2.2.2.2.2.2.2, HAR10, HF.out.2.1, by have := HF.out.1; have := HL.out; omega, by have := HL.out; omega, by have := HL.out; omega, fun f' bl' e => ?_, HK1.out⟩⟩⟩
                injection e with e
                injection e with e1 e2
                rw [← e1, HRK.out, ← e2]
                refine ⟨by omega, by have := HJ.out; omega, ?_, ?_⟩
                · rw [HX.out]
                  rfl
                · rcases HF9.out with ⟨x1, x2⟩ | ⟨x1, x2⟩ <;> (rw [x1, x2]; decide)
              case measure => exact meas1000 HP2.out.2
            · by_cases hroom : q.length < n
              · skip
                obtain rfl : ok = true := (HF.out.2.2.1 rfl).trans (decide_eq_true hroom)
                go_upto_region 24 with fail
                have HS := HAR9.out.setS false (kc + 1)
                have HT8 := Aside0.mk (HTM.out.still HS.2.1 HS.2.2 HAR9.out.hs (by decide) HAR9.out.noUs HAR9.out.on.2 HAR9.out.gn.2 HAR9.out.oq.2)
                have HAR8 := Aside0.mk HS.1
                replace HT8 : Aside0 (TM w1 (w9.setCell ⟨ns, 0, none⟩ (.int .i64 (kc + 1))) own9 gr gq false nb ownq n a P9 Q9 M9 R9 (A.turned true true v f9 M9.log.length) bl vL hs (q ++ [bl]) q none s1 v1) := HT8
                replace HAR8 : Aside0 (AR (w9.setCell ⟨ns, 0, none⟩ (.int .i64 (kc + 1))) w1.heap.size own9 ownq gr nn ns v0c v1 (kc + 1) k1) := HAR8
                clear HS HTM HAR9 hxs hzs
                generalize World.setCell _ _ _ = w8 at HT8 HAR8 ⊢
                have TM1 := Time_C HT8.out.rg.mem
                rw [HF.out.2.1] at TM1
                have TMb := Aside0.mk TM1
                have OV := Aside0.mk (Over_done HT8.out.rg.act rfl)
                have hxs : w8.cell? ⟨ns, 0, none⟩ = some (.int .i64 (kc + 1)) := (blk_cell HAR8.out.hs 0).trans rfl
                clear TM1
                have HBV := Aside0.mk (below_step HB1.out HT8.out.bel)
                have q7 : (0 : Int) ≤ (at_ : Int) := by omega
                have q8 : (at_ : Int) < (l1.length : Int) := by have := HJ.out; omega
                obtain ⟨ad1, A3, c3, eA, hx0, hl1, hC0⟩ := at_L11 H1.out (at_ : Int) q7 q8
                obtain rfl := (Option.some.inj eA).symm
                rw [Int.toNat_natCast] at hx0
                have hlt0 := World.block_lt_of_cell? W _ hx0
                have HLW := Aside0.mk (show (ad1.add at_).block < w1.heap.size by have := HB1.out.size; omega)
                have hx1 : w8.cell? (ad1.add at_) = some (.slice A3 (rd_L11 l1 (at_ : Int)).length c3) := (HBV.out.cell (p := ad1.add at_) hlt0).trans hx0
                have hC1 := Kd.C_below hC0 HBV.out
                clear hx0 hlt0 hC0
                have FC0 := Fix_C A3 c3 _ w8.drew (Kd.C_below hC1 (below_drew (Below.refl _ w8))) hl1
                rw [← HX.out] at FC0
                have FC := Aside0.mk FC0
                have HTd := Aside0.mk (HT8.out.below (below_drew (Below.refl _ w8)))
                have HARd := Aside0.mk (HAR8.out.below (below_drew (Below.refl _ w8)))
                have OKC := Aside0.mk (show Calls Try.prog 60 #[.pointer (some ⟨nb, 0, none⟩)] w8.drew (fun e w' => e = .returned (.bool true) ∧ w' = w8.drew) from Ok_C HTd.out.rg.act)
                have hbq : (bq bl).length = bl.length := List.length_map ..
                clear FC0 hC1 hl1
                go_upto_region 33 with (first | (go_at_call 43; ((refine TMb.out.mono ?_); rintro e w6 ⟨rfl, hw6⟩; obtain rfl := hw6.symm)) | (go_at_call 57; ((refine OV.out.mono ?_); rintro e w6 ⟨rfl, hw6⟩; obtain rfl := hw6.symm)))
                go_region_held3 (fun w' => w'.cell? (ad1.add at_) = some (.slice A3 (rd_L11 l1 (at_ : Int)).length c3))
                  (first | exact hx1 | exact hN12 | exact hN13)
                  (first | (go_at_call 60; ((with_reducible refine OKC.out.mono ?_); rintro e w11 ⟨rfl, hw11⟩; obtain rfl := hw11.symm)) | (go_at_call 33; ((with_reducible refine FC.out.mono ?_); rintro e w12 ⟨v12, rfl, hr, hb⟩; obtain ⟨A12, n12, c12, rfl⟩ := R_any hr; obtain ⟨e12, h12, hC12⟩ := Kd.R_reads' hr; obtain rfl : n12 = bl.length := e12.trans (List.length_map ..); have htk := HTd.out.take (X := bq bl) hb (by rw [hbq]; exact hr); have HTK := Aside0.mk htk; have HAR12 := Aside0.mk (HARd.out.keep (own' := own9) (ownq' := fun k => ownq k ∨ (w8.drew.heap.size ≤ k ∧ k < w12.heap.size)) (S := fun k => w8.drew.heap.size ≤ k) ⟨hb.size, fun i hi _ => hb.block i hi⟩ ⟨by have := blk_lt HARd.out.hn; omega, by have := blk_lt HARd.out.hs; omega⟩ (fun k => .inl) (fun k hk => hk.imp id And.left)); have hN12 : w12.cell? (ad1.add at_) = some (.slice A3 (rd_L11 l1 (at_ : Int)).length c3) := pw_cell_below hb hx1; have QP := Aside0.mk (show Calls Try.prog 64 #[.pointer (some ⟨gq, 0, none⟩), .slice A12 bl.length c12] _ _ from (by have hq1 := QPush_ok (b := bl) HTK.out.1.qo (by omega) (by have := HL.out; omega) A12 c12 (by rw [hbq]; exact h12) HTK.out.2; rw [hbq] at hq1; exact hq1)); clear hr hb e12 h12 hC12 htk)) | (go_at_call 64; ((with_reducible refine QP.out.mono ?_); rintro e w13 ⟨rfl, vL9, hs9, hq9, hk9, hb9⟩; obtain ⟨ownq9, hr9, hoq9⟩ := HTK.out.1.queue hq9 hk9 hb9; have HT13 := Aside0.mk hr9; have HAR13 := Aside0.mk (HAR12.out.keep (own' := own9) hk9 ⟨fun e => HAR12.out.oq.1 (e ▸ HTK.out.1.qo.og), fun e => HAR12.out.oq.2 (e ▸ HTK.out.1.qo.og)⟩ (fun k => .inl) hoq9); have hN13 : w13.cell? (ad1.add at_) = some (.slice A3 (rd_L11 l1 (at_ : Int)).length c3) := (hb9.cell (p := ad1.add at_) HLW.out).trans hN12; clear hq9 hk9 hb9 hr9 hoq9)))
                have TM2 := Time_C HT13.out.rg.mem
                rw [HF.out.2.1] at TM2
                have TMc := Aside0.mk TM2
                have MK := Aside0.mk (show Calls Try.prog 62 #[.pointer (some ⟨nb, 0, none⟩)] w13 (fun e w' => e = .returned (.int .i64 (M9.log.length : Int)) ∧ w' = w13) from Mark_C HT13.out.rg.act)
                have hxn : w13.cell? ⟨nn, 0, none⟩ = some v0c := (blk_cell HAR13.out.hn 0).trans rfl
                have hzn := blk_frozen HAR13.out.hn 0
                clear TM2
                go_wp2_with (first | (go_at_call 62; ((refine MK.out.mono ?_); rintro e w6 ⟨rfl, hw6⟩; obtain rfl := hw6)) | (go_at_call 43; ((refine TMc.out.mono ?_); rintro e w6 ⟨rfl, hw6⟩; obtain rfl := hw6)))
                go_roundw
                case rel =>
                  have HTS := HT13.out.off rfl rfl
                  have HS := HAR13.out.setN false (.pointer none)
                  have HT15 := HTS.still HS.2.1 HS.2.2 HAR13.out.hn (by decide) (HAR13.out.noUn ⟨_, HV1.out⟩ HTS.x1.val) HAR13.out.on.1 HAR13.out.gn.1 HAR13.out.oq.1
                  exact ⟨i + 1, at_ + 1, by first | rfl | exact congrArg _ hw, by first | rfl | exact congrArg _ hwa, ⟨by have := HP2.out; omega, by have := HP2.out; omega, own9, _, a, P9, Q9, M9, R9, _, _, (q ++ [bl]), none, s1, .pointer none, v1, kc + 1, k1, ⟨HT15, HS.1, HF.out.2.1, by have := HF.out.1; have := HL.out; omega, by have := HL.out; (try simp only [List.length_append, List.length_cons, List.length_nil]); omega, by have := HL.out; omega, fun f' bl' e => (by cases e), HK1.out⟩⟩⟩
                case measure => exact meas1000 HP2.out.2
              · skip
                obtain rfl : ok = false := (HF.out.2.2.1 rfl).trans (decide_eq_false hroom)
                go_upto_region 24 with fail
                have HS := HAR9.out.setS false (kc + 1)
                have HT8 := Aside0.mk (HTM.out.still HS.2.1 HS.2.2 HAR9.out.hs (by decide) HAR9.out.noUs HAR9.out.on.2 HAR9.out.gn.2 HAR9.out.oq.2)
                have HAR8 := Aside0.mk HS.1
                replace HT8 : Aside0 (TM w1 (w9.setCell ⟨ns, 0, none⟩ (.int .i64 (kc + 1))) own9 gr gq false nb ownq n a P9 Q9 M9 R9 (A.turned true false v f9 M9.log.length) bl vL hs q q none s1 v1) := HT8
                replace HAR8 : Aside0 (AR (w9.setCell ⟨ns, 0, none⟩ (.int .i64 (kc + 1))) w1.heap.size own9 ownq gr nn ns v0c v1 (kc + 1) k1) := HAR8
                clear HS HTM HAR9 hxs hzs
                generalize World.setCell _ _ _ = w8 at HT8 HAR8 ⊢
                have TM1 := Time_C HT8.out.rg.mem
                rw [HF.out.2.1] at TM1
                have TMb := Aside0.mk TM1
                have OV := Aside0.mk (Over_done HT8.out.rg.act rfl)
                have hxs : w8.cell? ⟨ns, 0, none⟩ = some (.int .i64 (kc + 1)) := (blk_cell HAR8.out.hs 0).trans rfl
                clear TM1
                have HBV := Aside0.mk (below_step HB1.out HT8.out.bel)
                have q7 : (0 : Int) ≤ (at_ : Int) := by omega
                have q8 : (at_ : Int) < (l1.length : Int) := by have := HJ.out; omega
                obtain ⟨ad1, A3, c3, eA, hx0, hl1, hC0⟩ := at_L11 H1.out (at_ : Int) q7 q8
                obtain rfl := (Option.some.inj eA).symm
                rw [Int.toNat_natCast] at hx0
                have hlt0 := World.block_lt_of_cell? W _ hx0
                have HLW := Aside0.mk (show (ad1.add at_).block < w1.heap.size by have := HB1.out.size; omega)
                have hx1 : w8.cell? (ad1.add at_) = some (.slice A3 (rd_L11 l1 (at_ : Int)).length c3) := (HBV.out.cell (p := ad1.add at_) hlt0).trans hx0
                have hC1 := Kd.C_below hC0 HBV.out
                clear hx0 hlt0 hC0
                have FC0 := Fix_C A3 c3 _ w8.drew (Kd.C_below hC1 (below_drew (Below.refl _ w8))) hl1
                rw [← HX.out] at FC0
                have FC := Aside0.mk FC0
                have HTd := Aside0.mk (HT8.out.below (below_drew (Below.refl _ w8)))
                have HARd := Aside0.mk (HAR8.out.below (below_drew (Below.refl _ w8)))
                have OKC := Aside0.mk (show Calls Try.prog 60 #[.pointer (some ⟨nb, 0, none⟩)] w8.drew (fun e w' => e = .returned (.bool false) ∧ w' = w8.drew) from Ok_C HTd.out.rg.act)
                have hbq : (bq bl).length = bl.length := List.length_map ..
                clear FC0 hC1 hl1
                go_upto_region 33 with (first | (go_at_call 43; ((refine TMb.out.mono ?_); rintro e w6 ⟨rfl, hw6⟩; obtain rfl := hw6.symm)) | (go_at_call 57; ((refine OV.out.mono ?_); rintro e w6 ⟨rfl, hw6⟩; obtain rfl := hw6.symm)))
                go_region_held3 (fun w' => w'.cell? (ad1.add at_) = some (.slice A3 (rd_L11 l1 (at_ : Int)).length c3))
                  (first | exact hx1 | exact hN12 | exact hN13)
                  (first | (go_at_call 60; ((with_reducible refine OKC.out.mono ?_); rintro e w11 ⟨rfl, hw11⟩; obtain rfl := hw11.symm)) | (go_at_call 33; ((with_reducible refine FC.out.mono ?_); rintro e w12 ⟨v12, rfl, hr, hb⟩; obtain ⟨A12, n12, c12, rfl⟩ := R_any hr; obtain ⟨e12, h12, hC12⟩ := Kd.R_reads' hr; obtain rfl : n12 = bl.length := e12.trans (List.length_map ..); have htk := HTd.out.take (X := bq bl) hb (by rw [hbq]; exact hr); have HTK := Aside0.mk htk; have HAR12 := Aside0.mk (HARd.out.keep (own' := own9) (ownq' := fun k => ownq k ∨ (w8.drew.heap.size ≤ k ∧ k < w12.heap.size)) (S := fun k => w8.drew.heap.size ≤ k) ⟨hb.size, fun i hi _ => hb.block i hi⟩ ⟨by have := blk_lt HARd.out.hn; omega, by have := blk_lt HARd.out.hs; omega⟩ (fun k => .inl) (fun k hk => hk.imp id And.left)); have hN12 : w12.cell? (ad1.add at_) = some (.slice A3 (rd_L11 l1 (at_ : Int)).length c3) := pw_cell_below hb hx1; have QP := Aside0.mk (QPush_no HTK.out.1.qo (by have := HQL.out; omega) (.slice A12 bl.length c12)); clear hr hb e12 h12 hC12 htk)) | (go_at_call 64; ((with_reducible refine QP.out.mono ?_); rintro e w13 ⟨rfl, hb⟩; have HT13 := Aside0.mk (HTK.out.1.below hb); have HAR13 := Aside0.mk (HAR12.out.below hb); have hN13 : w13.cell? (ad1.add at_) = some (.slice A3 (rd_L11 l1 (at_ : Int)).length c3) := pw_cell_below hb hN12; clear hb)))
                have TM2 := Time_C HT13.out.rg.mem
                rw [HF.out.2.1] at TM2
                have TMc := Aside0.mk TM2
                have MK := Aside0.mk (show Calls Try.prog 62 #[.pointer (some ⟨nb, 0, none⟩)] w13 (fun e w' => e = .returned (.int .i64 (M9.log.length : Int)) ∧ w' = w13) from Mark_C HT13.out.rg.act)
                have hxn : w13.cell? ⟨nn, 0, none⟩ = some v0c := (blk_cell HAR13.out.hn 0).trans rfl
                have hzn := blk_frozen HAR13.out.hn 0
                clear TM2
                go_wp2_with (first | (go_at_call 62; ((refine MK.out.mono ?_); rintro e w6 ⟨rfl, hw6⟩; obtain rfl := hw6)) | (go_at_call 43; ((refine TMc.out.mono ?_); rintro e w6 ⟨rfl, hw6⟩; obtain rfl := hw6)))
                go_roundw
                case rel =>
                  have HTS := HT13.out.off rfl rfl
                  have HS := HAR13.out.setN false (.pointer none)
                  have HT15 := HTS.still HS.2.1 HS.2.2 HAR13.out.hn (by decide) (HAR13.out.noUn ⟨_, HV1.out⟩ HTS.x1.val) HAR13.out.on.1 HAR13.out.gn.1 HAR13.out.oq.1
                  exact ⟨i + 1, at_ + 1, by first | rfl | exact congrArg _ hw, by first | rfl | exact congrArg _ hwa, ⟨by have := HP2.out; omega, by have := HP2.out; omega, own9, _, a, P9, Q9, M9, R9, _, _, q, none, s1, .pointer none, v1, kc + 1, k1, ⟨HT15, HS.1, HF.out.2.1, by have := HF.out.1; have := HL.out; omega, by have := HL.out; (try simp only [List.length_append, List.length_cons, List.length_nil]); omega, by have := HL.out; omega, fun f' bl' e => (by cases e), HK1.out⟩⟩⟩
                case measure => exact meas1000 HP2.out.2
          · have hat2 := decide_eq_false (show ¬ (at_ : Int) < (l1.length : Int) by omega)
            have hat3 : ¬ (at_ : Int) < (l1.length : Int) := by omega
            go_wp2
            go_roundw
            case rel => exact ⟨i + 1, at_, by first | rfl | exact congrArg _ hw, rfl, ⟨by have := HP2.out; omega, by have := HP2.out; omega, own1, ownq, a, P, Q, M, R, vL, hs, q, none, s1, .pointer none, v1, k0, k1, ⟨HT.out, HAR.out, HGM.out, by have := HL.out; omega, by have := HL.out; omega, by have := HL.out; omega, HK0.out, HK1.out⟩⟩⟩
            case measure => exact meas1000 HP2.out.2
        | some sb =>
          obtain ⟨f, bl⟩ := sb
          obtain ⟨j, hj⟩ : ∃ j, at_ = j + 1 := ⟨at_ - 1, by have := (HK0.out f bl rfl).1; omega⟩
          have HRK := Aside0.mk (HK0.out f bl rfl).2.2.2
          have HX := Aside0.mk (show bl = fixR (rd_L11 l1 (j : Int)) by have := (HK0.out f bl rfl).2.2.1; rw [hj] at this; exact this)
          have HBL := Aside0.mk (show bl.length ≤ 12 by rw [HX.out]; exact fixR_len _)
          have HJ := Aside0.mk (show j < l1.length ∧ j ≤ 1000 ∧ j + 1 ≤ i + 1 from ⟨by have := (HK0.out f bl rfl).2.1; omega, by have := HL.out; omega, by have := HL.out; omega⟩)
          clear hxn0
          have dA : IntKind.i64.wrap ((at_ : Int) - 1) = (j : Int) := by have := HJ.out; rw [IntKind.wrap_i64]; omega
          have HJJ := Aside0.mk hj
          clear hj
          obtain ⟨nb, A, hv1, hao, hge, hheld, hout, hwho, hst, hok, hmk, hdf⟩ := HT.out.act0
          have HV1 := Aside0.mk hv1
          have hxn : wr.cell? ⟨nn, 0, none⟩ = some (.pointer (some ⟨nb, 0, none⟩)) := (blk_cell HAR.out.hn 0).trans (congrArg some hv1)
          have TM0 := Time_C HT.out.rb.mem
          rw [HGM.out] at TM0
          have TMa := Aside0.mk TM0
          have ST := Aside0.mk (turn0_C (hheld.rg HT.out.rb hge) HT.out.ti hst hout hwho hok (by have := HL.out; omega) (by have := HL.out; omega))
          have HH := Aside0.mk (show _ ∧ _ ∧ _ ∧ _ ∧ _ ∧ _ ∧ _ ∧ _ ∧ _ from ⟨hheld, hge, hao, (⟨f, hst⟩ : ∃ f, A.st = stg f), hdf, hout, hwho, hok, hmk⟩)
          have HNS := Aside0.mk (show (¬ (own1 nn ∨ nn = gr ∨ nn = nb)) ∧ ¬ (own1 ns ∨ ns = gr ∨ ns = nb) from ⟨fun e => e.elim HAR.out.on.1 (fun e => e.elim HAR.out.gn.1 (hheld.act.ne_of HAR.out.hn (by decide))), fun e => e.elim HAR.out.on.2 (fun e => e.elim HAR.out.gn.2 (hheld.act.ne_of HAR.out.hs (by decide)))⟩)
          clear TM0 hv1 hao hge hheld hout hwho hst hok hmk hdf
          go_upto_region 23 with (first | (go_at_call 43; ((refine TMa.out.mono ?_); rintro e w6 ⟨rfl, hw6⟩; obtain rfl := hw6)) | (go_at_call 78; ((refine ST.out.mono ?_); rintro e w9 ⟨over, ok, v, M9, R9, P9, Q9, f9, rfl, hT, hti, hlg, e1, e2, e3, g1, g2⟩; obtain ⟨own9, htm, hs9, hk9⟩ := TM.made0 HT.out HH.out.1 HH.out.2.1 HH.out.2.2.1 HH.out.2.2.2.1 HH.out.2.2.2.2.1 hT hti e1 e2; have HTM := Aside0.mk htm; have HAR9 := Aside0.mk (HAR.out.keep (ownq' := ownq) hk9 HNS.out hs9 (fun k => .inl)); have HF := Aside0.mk (show _ ∧ _ ∧ _ ∧ _ from ⟨hlg, e3.trans HGM.out, g1, g2⟩); have HQL := Aside0.mk HT.out.ti.qi.le; clear hT hti hlg e1 e2 e3 g1 g2 htm hs9 hk9)))
          clear ST TMa HT HAR HNS hxn
          have hxs : w9.cell? ⟨ns, 0, none⟩ = some (.int .i64 k0) := (blk_cell HAR9.out.hs 0).trans rfl
          have hzs := blk_frozen HAR9.out.hs 0
          have hwk : IntKind.i64.wrap (k0 + 1) = k0 + 1 := by have := HRK.out; have := rk_le f; rw [IntKind.wrap_i64]; omega
          have hwl : IntKind.i64.wrap ((M.log.length : Int) + 1) = (M.log.length : Int) + 1 := by have := HL.out; rw [IntKind.wrap_i64]; omega
          have h8 : ¬ (8 < k0 + 1) := by have := HRK.out; have := rk_le f; omega
          have hlt9 : ¬ ((M.log.length : Int) + 1 < (M9.log.length : Int)) := by have := HF.out.1; omega
          cases over
          · have HF9 := Aside0.mk (HF.out.2.2.2 rfl)
            go_upto_region 24 with fail
            have HS := HAR9.out.setS false (k0 + 1)
            have HT8 := Aside0.mk (HTM.out.still HS.2.1 HS.2.2 HAR9.out.hs (by decide) HAR9.out.noUs HAR9.out.on.2 HAR9.out.gn.2 HAR9.out.oq.2)
            have HAR8 := Aside0.mk HS.1
            replace HT8 : Aside0 (TM w1 (w9.setCell ⟨ns, 0, none⟩ (.int .i64 (k0 + 1))) own9 gr gq false nb ownq n a P9 Q9 M9 R9 (A.turned false ok v f9 M9.log.length) bl vL hs q q (some (f9, bl)) s1 v1) := HT8
            replace HAR8 : Aside0 (AR (w9.setCell ⟨ns, 0, none⟩ (.int .i64 (k0 + 1))) w1.heap.size own9 ownq gr nn ns v0 v1 (k0 + 1) k1) := HAR8
            clear HS HTM HAR9 hxs hzs
            generalize World.setCell _ _ _ = w8 at HT8 HAR8 ⊢
            have TM1 := Time_C HT8.out.rg.mem
            rw [HF.out.2.1] at TM1
            have TMb := Aside0.mk TM1
            have OV := Aside0.mk (Over_on (f := f9) HT8.out.rg.act rfl)
            have MK0 := Mark_C HT8.out.rg.act
            rw [show (A.turned false ok v f9 M9.log.length).mark = 0 from HH.out.2.2.2.2.2.2.2.2] at MK0
            have OK0 := Ok_C HT8.out.rg.act
            rw [show (A.turned false ok v f9 M9.log.length).ok = false from HH.out.2.2.2.2.2.2.2.1] at OK0
            have MK := Aside0.mk MK0
            have OKC := Aside0.mk OK0
            have hxs : w8.cell? ⟨ns, 0, none⟩ = some (.int .i64 (k0 + 1)) := (blk_cell HAR8.out.hs 0).trans rfl
            clear TM1 MK0 OK0
            go_wp2_with (first | (go_at_call 43; ((refine TMb.out.mono ?_); rintro e w6 ⟨rfl, hw6⟩; obtain rfl := hw6)) | (go_at_call 57; ((refine OV.out.mono ?_); rintro e w6 ⟨rfl, hw6⟩; obtain rfl := hw6)) | (go_at_call 62; ((refine MK.out.mono ?_); rintro e w6 ⟨rfl, hw6⟩; obtain rfl := hw6)) | (go_at_call 60; ((refine OKC.out.mono ?_); rintro e w6 ⟨rfl, hw6⟩; obtain rfl := hw6)))
            go_roundw
            case rel =>
              have HAR10 := HAR8.out
              rw [HV1.out] at HAR10
              refine ⟨i + 1, at_, by first | rfl | exact congrArg _ hw, rfl, ⟨by have := HP2.out; omega, by have := HP2.out; omega, own9, ownq, a, P9, Q9, M9, R9, vL, hs, q, some (f9, bl), s1, .pointer (some ⟨nb, 0, none⟩), v1, k0 + 1, k1, ⟨HT8.out.on (f := f9) rfl HH.out.2.2.2.2.2.1 HH.out.2.2.2.2.2.2.1 rfl HH.out.2.2.2.2.2.2.2.1 HH.out.2.2.2.2.2.2.2.2, HAR10, HF.out.2.1, by have := HF.out.1; have := HL.out; omega, by have := HL.out; omega, by have := HL.out; omega, fun f' bl' e => ?_, HK1.out⟩⟩⟩
              injection e with e
              injection e with e1 e2
              rw [← e1, HRK.out, ← e2]
              refine ⟨by have := HJJ.out; omega, by have := HJJ.out; have := HJ.out; omega, ?_, ?_⟩
              · rw [HX.out]
                rw [HJJ.out]; rfl
              · rcases HF9.out with ⟨x1, x2⟩ | ⟨x1, x2⟩ <;> (rw [x1, x2]; decide)
            case measure => exact meas1000 HP2.out.2
          · by_cases hroom : q.length < n
            · skip
              obtain rfl : ok = true := (HF.out.2.2.1 rfl).trans (decide_eq_true hroom)
              go_upto_region 24 with fail
              have HS := HAR9.out.setS false (k0 + 1)
              have HT8 := Aside0.mk (HTM.out.still HS.2.1 HS.2.2 HAR9.out.hs (by decide) HAR9.out.noUs HAR9.out.on.2 HAR9.out.gn.2 HAR9.out.oq.2)
              have HAR8 := Aside0.mk HS.1
              replace HT8 : Aside0 (TM w1 (w9.setCell ⟨ns, 0, none⟩ (.int .i64 (k0 + 1))) own9 gr gq false nb ownq n a P9 Q9 M9 R9 (A.turned true true v f9 M9.log.length) bl vL hs (q ++ [bl]) q none s1 v1) := HT8
              replace HAR8 : Aside0 (AR (w9.setCell ⟨ns, 0, none⟩ (.int .i64 (k0 + 1))) w1.heap.size own9 ownq gr nn ns v0 v1 (k0 + 1) k1) := HAR8
              clear HS HTM HAR9 hxs hzs
              generalize World.setCell _ _ _ = w8 at HT8 HAR8 ⊢
              have TM1 := Time_C HT8.out.rg.mem
              rw [HF.out.2.1] at TM1
              have TMb := Aside0.mk TM1
              have OV := Aside0.mk (Over_done HT8.out.rg.act rfl)
              have hxs : w8.cell? ⟨ns, 0, none⟩ = some (.int .i64 (k0 + 1)) := (blk_cell HAR8.out.hs 0).trans rfl
              clear TM1
              have HBV := Aside0.mk (below_step HB1.out HT8.out.bel)
              have q7 : (0 : Int) ≤ (j : Int) := by omega
              have q8 : (j : Int) < (l1.length : Int) := by have := HJ.out; omega
              obtain ⟨ad1, A3, c3, eA, hx0, hl1, hC0⟩ := at_L11 H1.out (j : Int) q7 q8
              subst eA
              rw [Int.toNat_natCast] at hx0
              have hlt0 := World.block_lt_of_cell? W _ hx0
              have HLW := Aside0.mk (show (ad1.add j).block < w1.heap.size by have := HB1.out.size; omega)
              have hx1 : w8.cell? (ad1.add j) = some (.slice A3 (rd_L11 l1 (j : Int)).length c3) := (HBV.out.cell (p := ad1.add j) hlt0).trans hx0
              have hC1 := Kd.C_below hC0 HBV.out
              clear hx0 hlt0 hC0
              have FC0 := Fix_C A3 c3 _ w8.drew (Kd.C_below hC1 (below_drew (Below.refl _ w8))) hl1
              rw [← HX.out] at FC0
              have FC := Aside0.mk FC0
              have HTd := Aside0.mk (HT8.out.below (below_drew (Below.refl _ w8)))
              have HARd := Aside0.mk (HAR8.out.below (below_drew (Below.refl _ w8)))
              have OKC := Aside0.mk (show Calls Try.prog 60 #[.pointer (some ⟨nb, 0, none⟩)] w8.drew (fun e w' => e = .returned (.bool true) ∧ w' = w8.drew) from Ok_C HTd.out.rg.act)
              have hbq : (bq bl).length = bl.length := List.length_map ..
              clear FC0 hC1 hl1
              go_upto_region 33 with (first | (go_at_call 43; ((refine TMb.out.mono ?_); rintro e w6 ⟨rfl, hw6⟩; obtain rfl := hw6.symm)) | (go_at_call 57; ((refine OV.out.mono ?_); rintro e w6 ⟨rfl, hw6⟩; obtain rfl := hw6.symm)))
              go_region_held3 (fun w' => w'.cell? (ad1.add j) = some (.slice A3 (rd_L11 l1 (j : Int)).length c3))
                (first | exact hx1 | exact hN12 | exact hN13)
                (first | (go_at_call 60; ((with_reducible refine OKC.out.mono ?_); rintro e w11 ⟨rfl, hw11⟩; obtain rfl := hw11.symm)) | (go_at_call 33; ((with_reducible refine FC.out.mono ?_); rintro e w12 ⟨v12, rfl, hr, hb⟩; obtain ⟨A12, n12, c12, rfl⟩ := R_any hr; obtain ⟨e12, h12, hC12⟩ := Kd.R_reads' hr; obtain rfl : n12 = bl.length := e12.trans (List.length_map ..); have htk := HTd.out.take (X := bq bl) hb (by rw [hbq]; exact hr); have HTK := Aside0.mk htk; have HAR12 := Aside0.mk (HARd.out.keep (own' := own9) (ownq' := fun k => ownq k ∨ (w8.drew.heap.size ≤ k ∧ k < w12.heap.size)) (S := fun k => w8.drew.heap.size ≤ k) ⟨hb.size, fun i hi _ => hb.block i hi⟩ ⟨by have := blk_lt HARd.out.hn; omega, by have := blk_lt HARd.out.hs; omega⟩ (fun k => .inl) (fun k hk => hk.imp id And.left)); have hN12 : w12.cell? (ad1.add j) = some (.slice A3 (rd_L11 l1 (j : Int)).length c3) := pw_cell_below hb hx1; have QP := Aside0.mk (show Calls Try.prog 64 #[.pointer (some ⟨gq, 0, none⟩), .slice A12 bl.length c12] _ _ from (by have hq1 := QPush_ok (b := bl) HTK.out.1.qo (by omega) (by have := HL.out; omega) A12 c12 (by rw [hbq]; exact h12) HTK.out.2; rw [hbq] at hq1; exact hq1)); clear hr hb e12 h12 hC12 htk)) | (go_at_call 64; ((with_reducible refine QP.out.mono ?_); rintro e w13 ⟨rfl, vL9, hs9, hq9, hk9, hb9⟩; obtain ⟨ownq9, hr9, hoq9⟩ := HTK.out.1.queue hq9 hk9 hb9; have HT13 := Aside0.mk hr9; have HAR13 := Aside0.mk (HAR12.out.keep (own' := own9) hk9 ⟨fun e => HAR12.out.oq.1 (e ▸ HTK.out.1.qo.og), fun e => HAR12.out.oq.2 (e ▸ HTK.out.1.qo.og)⟩ (fun k => .inl) hoq9); have hN13 : w13.cell? (ad1.add j) = some (.slice A3 (rd_L11 l1 (j : Int)).length c3) := (hb9.cell (p := ad1.add j) HLW.out).trans hN12; clear hq9 hk9 hb9 hr9 hoq9)))
              have TM2 := Time_C HT13.out.rg.mem
              rw [HF.out.2.1] at TM2
              have TMc := Aside0.mk TM2
              have MK := Aside0.mk (show Calls Try.prog 62 #[.pointer (some ⟨nb, 0, none⟩)] w13 (fun e w' => e = .returned (.int .i64 (M9.log.length : Int)) ∧ w' = w13) from Mark_C HT13.out.rg.act)
              have hxn : w13.cell? ⟨nn, 0, none⟩ = some v0 := (blk_cell HAR13.out.hn 0).trans rfl
              have hzn := blk_frozen HAR13.out.hn 0
              clear TM2
              go_wp2_with (first | (go_at_call 62; ((refine MK.out.mono ?_); rintro e w6 ⟨rfl, hw6⟩; obtain rfl := hw6)) | (go_at_call 43; ((refine TMc.out.mono ?_); rintro e w6 ⟨rfl, hw6⟩; obtain rfl := hw6)))
              go_roundw
              case rel =>
                have HTS := HT13.out.off rfl rfl
                have HS := HAR13.out.setN false (.pointer none)
                have HT15 := HTS.still HS.2.1 HS.2.2 HAR13.out.hn (by decide) (HAR13.out.noUn ⟨_, HV1.out⟩ HTS.x1.val) HAR13.out.on.1 HAR13.out.gn.1 HAR13.out.oq.1
                exact ⟨i + 1, at_, by first | rfl | exact congrArg _ hw, rfl, ⟨by have := HP2.out; omega, by have := HP2.out; omega, own9, _, a, P9, Q9, M9, R9, _, _, (q ++ [bl]), none, s1, .pointer none, v1, k0 + 1, k1, ⟨HT15, HS.1, HF.out.2.1, by have := HF.out.1; have := HL.out; omega, by have := HL.out; (try simp only [List.length_append, List.length_cons, List.length_nil]); omega, by have := HL.out; omega, fun f' bl' e => (by cases e), HK1.out⟩⟩⟩
              case measure => exact meas1000 HP2.out.2
            · skip
              obtain rfl : ok = false := (HF.out.2.2.1 rfl).trans (decide_eq_false hroom)
              go_upto_region 24 with fail
              have HS := HAR9.out.setS false (k0 + 1)
              have HT8 := Aside0.mk (HTM.out.still HS.2.1 HS.2.2 HAR9.out.hs (by decide) HAR9.out.noUs HAR9.out.on.2 HAR9.out.gn.2 HAR9.out.oq.2)
              have HAR8 := Aside0.mk HS.1
              replace HT8 : Aside0 (TM w1 (w9.setCell ⟨ns, 0, none⟩ (.int .i64 (k0 + 1))) own9 gr gq false nb ownq n a P9 Q9 M9 R9 (A.turned true false v f9 M9.log.length) bl vL hs q q none s1 v1) := HT8
              replace HAR8 : Aside0 (AR (w9.setCell ⟨ns, 0, none⟩ (.int .i64 (k0 + 1))) w1.heap.size own9 ownq gr nn ns v0 v1 (k0 + 1) k1) := HAR8
              clear HS HTM HAR9 hxs hzs
              generalize World.setCell _ _ _ = w8 at HT8 HAR8 ⊢
              have TM1 := Time_C HT8.out.rg.mem
              rw [HF.out.2.1] at TM1
              have TMb := Aside0.mk TM1
              have OV := Aside0.mk (Over_done HT8.out.rg.act rfl)
              have hxs : w8.cell? ⟨ns, 0, none⟩ = some (.int .i64 (k0 + 1)) := (blk_cell HAR8.out.hs 0).trans rfl
              clear TM1
              have HBV := Aside0.mk (below_step HB1.out HT8.out.bel)
              have q7 : (0 : Int) ≤ (j : Int) := by omega
              have q8 : (j : Int) < (l1.length : Int) := by have := HJ.out; omega
              obtain ⟨ad1, A3, c3, eA, hx0, hl1, hC0⟩ := at_L11 H1.out (j : Int) q7 q8
              subst eA
              rw [Int.toNat_natCast] at hx0
              have hlt0 := World.block_lt_of_cell? W _ hx0
              have HLW := Aside0.mk (show (ad1.add j).block < w1.heap.size by have := HB1.out.size; omega)
              have hx1 : w8.cell? (ad1.add j) = some (.slice A3 (rd_L11 l1 (j : Int)).length c3) := (HBV.out.cell (p := ad1.add j) hlt0).trans hx0
              have hC1 := Kd.C_below hC0 HBV.out
              clear hx0 hlt0 hC0
              have FC0 := Fix_C A3 c3 _ w8.drew (Kd.C_below hC1 (below_drew (Below.refl _ w8))) hl1
              rw [← HX.out] at FC0
              have FC := Aside0.mk FC0
              have HTd := Aside0.mk (HT8.out.below (below_drew (Below.refl _ w8)))
              have HARd := Aside0.mk (HAR8.out.below (below_drew (Below.refl _ w8)))
              have OKC := Aside0.mk (show Calls Try.prog 60 #[.pointer (some ⟨nb, 0, none⟩)] w8.drew (fun e w' => e = .returned (.bool false) ∧ w' = w8.drew) from Ok_C HTd.out.rg.act)
              have hbq : (bq bl).length = bl.length := List.length_map ..
              clear FC0 hC1 hl1
              go_upto_region 33 with (first | (go_at_call 43; ((refine TMb.out.mono ?_); rintro e w6 ⟨rfl, hw6⟩; obtain rfl := hw6.symm)) | (go_at_call 57; ((refine OV.out.mono ?_); rintro e w6 ⟨rfl, hw6⟩; obtain rfl := hw6.symm)))
              go_region_held3 (fun w' => w'.cell? (ad1.add j) = some (.slice A3 (rd_L11 l1 (j : Int)).length c3))
                (first | exact hx1 | exact hN12 | exact hN13)
                (first | (go_at_call 60; ((with_reducible refine OKC.out.mono ?_); rintro e w11 ⟨rfl, hw11⟩; obtain rfl := hw11.symm)) | (go_at_call 33; ((with_reducible refine FC.out.mono ?_); rintro e w12 ⟨v12, rfl, hr, hb⟩; obtain ⟨A12, n12, c12, rfl⟩ := R_any hr; obtain ⟨e12, h12, hC12⟩ := Kd.R_reads' hr; obtain rfl : n12 = bl.length := e12.trans (List.length_map ..); have htk := HTd.out.take (X := bq bl) hb (by rw [hbq]; exact hr); have HTK := Aside0.mk htk; have HAR12 := Aside0.mk (HARd.out.keep (own' := own9) (ownq' := fun k => ownq k ∨ (w8.drew.heap.size ≤ k ∧ k < w12.heap.size)) (S := fun k => w8.drew.heap.size ≤ k) ⟨hb.size, fun i hi _ => hb.block i hi⟩ ⟨by have := blk_lt HARd.out.hn; omega, by have := blk_lt HARd.out.hs; omega⟩ (fun k => .inl) (fun k hk => hk.imp id And.left)); have hN12 : w12.cell? (ad1.add j) = some (.slice A3 (rd_L11 l1 (j : Int)).length c3) := pw_cell_below hb hx1; have QP := Aside0.mk (QPush_no HTK.out.1.qo (by have := HQL.out; omega) (.slice A12 bl.length c12)); clear hr hb e12 h12 hC12 htk)) | (go_at_call 64; ((with_reducible refine QP.out.mono ?_); rintro e w13 ⟨rfl, hb⟩; have HT13 := Aside0.mk (HTK.out.1.below hb); have HAR13 := Aside0.mk (HAR12.out.below hb); have hN13 : w13.cell? (ad1.add j) = some (.slice A3 (rd_L11 l1 (j : Int)).length c3) := pw_cell_below hb hN12; clear hb)))
              have TM2 := Time_C HT13.out.rg.mem
              rw [HF.out.2.1] at TM2
              have TMc := Aside0.mk TM2
              have MK := Aside0.mk (show Calls Try.prog 62 #[.pointer (some ⟨nb, 0, none⟩)] w13 (fun e w' => e = .returned (.int .i64 (M9.log.length : Int)) ∧ w' = w13) from Mark_C HT13.out.rg.act)
              have hxn : w13.cell? ⟨nn, 0, none⟩ = some v0 := (blk_cell HAR13.out.hn 0).trans rfl
              have hzn := blk_frozen HAR13.out.hn 0
              clear TM2
              go_wp2_with (first | (go_at_call 62; ((refine MK.out.mono ?_); rintro e w6 ⟨rfl, hw6⟩; obtain rfl := hw6)) | (go_at_call 43; ((refine TMc.out.mono ?_); rintro e w6 ⟨rfl, hw6⟩; obtain rfl := hw6)))
              go_roundw
              case rel =>
                have HTS := HT13.out.off rfl rfl
                have HS := HAR13.out.setN false (.pointer none)
                have HT15 := HTS.still HS.2.1 HS.2.2 HAR13.out.hn (by decide) (HAR13.out.noUn ⟨_, HV1.out⟩ HTS.x1.val) HAR13.out.on.1 HAR13.out.gn.1 HAR13.out.oq.1
                exact ⟨i + 1, at_, by first | rfl | exact congrArg _ hw, rfl, ⟨by have := HP2.out; omega, by have := HP2.out; omega, own9, _, a, P9, Q9, M9, R9, _, _, q, none, s1, .pointer none, v1, k0 + 1, k1, ⟨HT15, HS.1, HF.out.2.1, by have := HF.out.1; have := HL.out; omega, by have := HL.out; (try simp only [List.length_append, List.length_cons, List.length_nil]); omega, by have := HL.out; omega, fun f' bl' e => (by cases e), HK1.out⟩⟩⟩
              case measure => exact meas1000 HP2.out.2
      · obtain ⟨hxn0, hxn1⟩ : _ ∧ _ := ⟨(blk_cell HAR.out.hn 0).trans rfl, (blk_cell HAR.out.hn 1).trans rfl⟩
        replace hxn1 : _ = some v1 := hxn1
        clear hxn0
        cases s1 with
        | none =>
          obtain ⟨rfl, heo⟩ : v1 = .pointer none ∧ EndOk _ _ _ _ R.ao := HT.out.x1
          have hz1 := blk_frozen HAR.out.hn 1
          have PO := Aside0.mk (Pop_ok (gr := gr) 1 HT.out.rb (fun w1 hb => heo.over hb))
          clear heo
          go_upto_region 19 with (first | (go_at_call 56; ((refine PO.out.mono ?_); rintro e w5 ⟨na, rfl, hna, hrg, hk, hb⟩; have HT5 := Aside0.mk (HT.out.begin1 hrg hna hk hb); have HAR5 := Aside0.mk (HAR.out.keep (own' := own1) (ownq' := ownq) hk ⟨HAR.out.gn.1, HAR.out.gn.2⟩ (fun k => .inl) (fun k => .inl)); have hy1 : w5.cell? ⟨nn, 1, none⟩ = some (.pointer none) := (blk_cell HAR5.out.hn 1).trans rfl; have hyz := blk_frozen HAR5.out.hn 1; clear hna hrg hk hb)))
          have HS5 := HAR5.out.setN true (.pointer (some ⟨na, 0, none⟩))
          have HT6 := Aside0.mk (HT5.out.still HS5.2.1 HS5.2.2 HAR5.out.hn (by decide) (HAR5.out.noUn HT5.out.x0.val ⟨_, rfl⟩) HAR5.out.on.1 HAR5.out.gn.1 HAR5.out.oq.1)
          have HAR6 := Aside0.mk HS5.1
          replace HT6 : Aside0 (TS w1 (w5.setCell ⟨nn, 1, none⟩ (.pointer (some ⟨na, 0, none⟩))) own1 gr gq ownq n a P Q M { R with ao := .pointer (some ⟨na, 0, none⟩) } vL hs q q s0 (some (94, [])) v0 (.pointer (some ⟨na, 0, none⟩))) := HT6
          replace HAR6 : Aside0 (AR (w5.setCell ⟨nn, 1, none⟩ (.pointer (some ⟨na, 0, none⟩))) w1.heap.size own1 ownq gr nn ns v0 (.pointer (some ⟨na, 0, none⟩)) k0 k1) := HAR6
          clear HS5 HT5 HAR5 hy1 hyz HT HAR PO hxn1 hz1
          generalize World.setCell _ _ _ = w6 at HT6 HAR6 ⊢
          have hx1s : w6.cell? ⟨ns, 1, none⟩ = some (.int .i64 k1) := (blk_cell HAR6.out.hs 1).trans rfl
          have hz1s := blk_frozen HAR6.out.hs 1
          go_upto_region 20 with fail
          have HS7 := HAR6.out.setS true 0
          have HT7 := Aside0.mk (HT6.out.still HS7.2.1 HS7.2.2 HAR6.out.hs (by decide) HAR6.out.noUs HAR6.out.on.2 HAR6.out.gn.2 HAR6.out.oq.2)
          have HAR7 := Aside0.mk HS7.1
          replace HT7 : Aside0 (TS w1 (w6.setCell ⟨ns, 1, none⟩ (.int .i64 0)) own1 gr gq ownq n a P Q M { R with ao := .pointer (some ⟨na, 0, none⟩) } vL hs q q s0 (some (94, [])) v0 (.pointer (some ⟨na, 0, none⟩))) := HT7
          replace HAR7 : Aside0 (AR (w6.setCell ⟨ns, 1, none⟩ (.int .i64 0)) w1.heap.size own1 ownq gr nn ns v0 (.pointer (some ⟨na, 0, none⟩)) k0 0) := HAR7
          clear HS7 HT6 HAR6 hx1s hz1s
          generalize World.setCell _ _ _ = w7 at HT7 HAR7 ⊢
          have HRK := Aside0.mk (show (0 : Int) = rk 94 by decide)
          have HBL := Aside0.mk (show ([] : List S143).length ≤ 12 by decide)
          have HGMc := HGM
          clear HGM
          obtain ⟨Rc, hRc⟩ : ∃ Rc, ({ R with ao := .pointer (some ⟨na, 0, none⟩) } : RC) = Rc := ⟨_, rfl⟩
          have HGMd := Aside0.mk (show Rc.gm = gm by rw [← hRc]; exact HGMc.out)
          rw [hRc] at HT7
          clear hRc HGMc
          obtain ⟨bl, eb⟩ : ∃ bl : List S143, bl = [] := ⟨_, rfl⟩
          obtain ⟨f, ef⟩ : ∃ f : Nat, f = 94 := ⟨_, rfl⟩
          obtain ⟨kc, ek9⟩ : ∃ kc : Int, kc = 0 := ⟨_, rfl⟩
          rw [← eb, ← ef] at HT7
          rw [← eb] at HBL
          rw [← ef, ← ek9] at HRK
          rw [← ek9] at HAR7
          obtain ⟨v1c, hv1c⟩ : ∃ v1c : Value, v1c = .pointer (some ⟨na, 0, none⟩) := ⟨_, rfl⟩
          rw [← hv1c] at HT7 HAR7
          clear eb ef ek9 hv1c
          obtain ⟨nb, A, hv1, hao, hge, hheld, hout, hwho, hst, hok, hmk, hdf⟩ := HT7.out.act1
          have HV1 := Aside0.mk hv1
          have hxn : w7.cell? ⟨nn, 1, none⟩ = some (.pointer (some ⟨nb, 0, none⟩)) := (blk_cell HAR7.out.hn 1).trans (congrArg some hv1)
          have TM0 := Time_C HT7.out.rb.mem
          rw [HGMd.out] at TM0
          have TMa := Aside0.mk TM0
          have ST := Aside0.mk (turn1_C (hheld.rg HT7.out.rb hge) HT7.out.ti hst hout hwho hok HBL.out (by have := HL.out; omega) (by have := HL.out; omega))
          have HTI := Aside0.mk HT7.out.ti.qi.items
          have HH := Aside0.mk (show _ ∧ _ ∧ _ ∧ _ ∧ _ ∧ _ ∧ _ ∧ _ ∧ _ from ⟨hheld, hge, hao, (⟨f, hst⟩ : ∃ f, A.st = stg f), hdf, hout, hwho, hok, hmk⟩)
          have HNS := Aside0.mk (show (¬ (own1 nn ∨ nn = gr ∨ nn = nb)) ∧ ¬ (own1 ns ∨ ns = gr ∨ ns = nb) from ⟨fun e => e.elim HAR7.out.on.1 (fun e => e.elim HAR7.out.gn.1 (hheld.act.ne_of HAR7.out.hn (by decide))), fun e => e.elim HAR7.out.on.2 (fun e => e.elim HAR7.out.gn.2 (hheld.act.ne_of HAR7.out.hs (by decide)))⟩)
          clear TM0 hv1 hao hge hheld hout hwho hst hok hmk hdf
          go_upto_region 23 with (first | (go_at_call 43; ((refine TMa.out.mono ?_); rintro e w6 ⟨rfl, hw6⟩; obtain rfl := hw6)) | (go_at_call 78; ((refine ST.out.mono ?_); rintro e w9 ⟨over, ok, v, bl9, M9, R9, P9, Q9, a9, q9, f9, rfl, hT, hti, hlg, e1, e2, e3, hsum, g1, g2, g3, g4⟩; have HB9 := Aside0.mk g4; obtain ⟨own9, htm, hs9, hk9⟩ := TM.made1 HT7.out HH.out.1 HH.out.2.1 HH.out.2.2.1 HH.out.2.2.2.1 HH.out.2.2.2.2.1 hT hti e2 e1; have HTM := Aside0.mk htm; have HAR9 := Aside0.mk (HAR7.out.keep (ownq' := ownq) hk9 HNS.out hs9 (fun k => .inl)); have HF := Aside0.mk (show _ ∧ _ ∧ _ ∧ _ ∧ _ ∧ _ from ⟨hlg, e3.trans HGMd.out, hsum, g1, g2, g3⟩); clear hT hti hlg e1 e2 e3 hsum g1 g2 g3 g4 htm hs9 hk9)))
          clear ST TMa HT7 HAR7 HNS hxn
          have hxs : w9.cell? ⟨ns, 1, none⟩ = some (.int .i64 kc) := (blk_cell HAR9.out.hs 1).trans rfl
          have hzs := blk_frozen HAR9.out.hs 1
          have hwk : IntKind.i64.wrap (kc + 1) = kc + 1 := by have := HRK.out; have := rk_le f; rw [IntKind.wrap_i64]; omega
          have hwl : IntKind.i64.wrap ((M.log.length : Int) + 1) = (M.log.length : Int) + 1 := by have := HL.out; rw [IntKind.wrap_i64]; omega
          have h8 : ¬ (8 < kc + 1) := by have := HRK.out; have := rk_le f; omega
          have hlt9 : ¬ ((M.log.length : Int) + 1 < (M9.log.length : Int)) := by have := HF.out.1; omega
          cases over
          · obtain ⟨hq9, hf9⟩ := HF.out.2.2.2.2.2 rfl
            subst hq9
            have HF9 := Aside0.mk hf9
            clear hf9
            go_upto_region 24 with fail
            have HS := HAR9.out.setS true (kc + 1)
            have HT8 := Aside0.mk (HTM.out.still HS.2.1 HS.2.2 HAR9.out.hs (by decide) HAR9.out.noUs HAR9.out.on.2 HAR9.out.gn.2 HAR9.out.oq.2)
            have HAR8 := Aside0.mk HS.1
            replace HT8 : Aside0 (TM w1 (w9.setCell ⟨ns, 1, none⟩ (.int .i64 (kc + 1))) own9 gr gq true nb ownq n a9 P9 Q9 M9 R9 (A.turned false ok v f9 M9.log.length) bl9 vL hs q9 q9 s0 (some (f9, bl9)) v0) := HT8
            replace HAR8 : Aside0 (AR (w9.setCell ⟨ns, 1, none⟩ (.int .i64 (kc + 1))) w1.heap.size own9 ownq gr nn ns v0 v1c k0 (kc + 1)) := HAR8
            clear HS HTM HAR9 hxs hzs
            generalize World.setCell _ _ _ = w8 at HT8 HAR8 ⊢
            have TM1 := Time_C HT8.out.rg.mem
            rw [HF.out.2.1] at TM1
            have TMb := Aside0.mk TM1
            have OV := Aside0.mk (Over_on (f := f9) HT8.out.rg.act rfl)
            have MK0 := Mark_C HT8.out.rg.act
            rw [show (A.turned false ok v f9 M9.log.length).mark = 0 from HH.out.2.2.2.2.2.2.2.2] at MK0
            have OK0 := Ok_C HT8.out.rg.act
            rw [show (A.turned false ok v f9 M9.log.length).ok = false from HH.out.2.2.2.2.2.2.2.1] at OK0
            have MK := Aside0.mk MK0
            have OKC := Aside0.mk OK0
            have hxs : w8.cell? ⟨ns, 1, none⟩ = some (.int .i64 (kc + 1)) := (blk_cell HAR8.out.hs 1).trans rfl
            clear TM1 MK0 OK0
            go_wp2_with (first | (go_at_call 43; ((refine TMb.out.mono ?_); rintro e w6 ⟨rfl, hw6⟩; obtain rfl := hw6)) | (go_at_call 57; ((refine OV.out.mono ?_); rintro e w6 ⟨rfl, hw6⟩; obtain rfl := hw6)) | (go_at_call 62; ((refine MK.out.mono ?_); rintro e w6 ⟨rfl, hw6⟩; obtain rfl := hw6)) | (go_at_call 60; ((refine OKC.out.mono ?_); rintro e w6 ⟨rfl, hw6⟩; obtain rfl := hw6)))
            go_roundw
            case rel =>
              have HAR10 := HAR8.out
              rw [HV1.out] at HAR10
              refine ⟨i + 1, at_, by first | rfl | exact congrArg _ hw, rfl, ⟨by have := HP2.out; omega, by have := HP2.out; omega, own9, ownq, a9, P9, Q9, M9, R9, vL, hs, q9, s0, some (f9, bl9), v0, .pointer (some ⟨nb, 0, none⟩), k0, kc + 1, ⟨HT8.out.on (f := f9) rfl HH.out.2.2.2.2.2.1 HH.out.2.2.2.2.2.2.1 rfl HH.out.2.2.2.2.2.2.2.1 HH.out.2.2.2.2.2.2.2.2, HAR10, HF.out.2.1, by have := HF.out.1; have := HL.out; omega, by have := HF.out.2.2.1; have := HL.out; omega, by have := HL.out; omega, HK0.out, fun f' bl' e => ?_⟩⟩⟩
              injection e with e
              injection e with e1 e2
              rw [← e1, HRK.out, ← e2]
              refine ⟨?_, HB9.out⟩
              rcases HF9.out with ⟨x1, x2⟩ | ⟨x1, x2⟩ <;> (rw [x1, x2]; decide)
            case measure => exact meas1000 HP2.out.2
          · cases ok
            · obtain ⟨hq, hq9⟩ := HF.out.2.2.2.2.1 rfl rfl
              subst hq
              subst hq9
              go_upto_region 24 with fail
              have HS := HAR9.out.setS true (kc + 1)
              have HT8 := Aside0.mk (HTM.out.still HS.2.1 HS.2.2 HAR9.out.hs (by decide) HAR9.out.noUs HAR9.out.on.2 HAR9.out.gn.2 HAR9.out.oq.2)
              have HAR8 := Aside0.mk HS.1
              replace HT8 : Aside0 (TM w1 (w9.setCell ⟨ns, 1, none⟩ (.int .i64 (kc + 1))) own9 gr gq true nb ownq n a9 P9 Q9 M9 R9 (A.turned true false v f9 M9.log.length) bl9 vL hs [] [] s0 none v0) := HT8
              replace HAR8 : Aside0 (AR (w9.setCell ⟨ns, 1, none⟩ (.int .i64 (kc + 1))) w1.heap.size own9 ownq gr nn ns v0 v1c k0 (kc + 1)) := HAR8
              clear HS HTM HAR9 hxs hzs
              generalize World.setCell _ _ _ = w8 at HT8 HAR8 ⊢
              have TM1 := Time_C HT8.out.rg.mem
              rw [HF.out.2.1] at TM1
              have TMb := Aside0.mk TM1
              have OV := Aside0.mk (Over_done HT8.out.rg.act rfl)
              have hxs : w8.cell? ⟨ns, 1, none⟩ = some (.int .i64 (kc + 1)) := (blk_cell HAR8.out.hs 1).trans rfl
              have QP := Aside0.mk (QPop_no HT8.out.qo)
              clear TM1
              go_upto_region 30 with (first | (go_at_call 43; ((refine TMb.out.mono ?_); rintro e w6 ⟨rfl, hw6⟩; obtain rfl := hw6)) | (go_at_call 57; ((refine OV.out.mono ?_); rintro e w6 ⟨rfl, hw6⟩; obtain rfl := hw6)))
              clear TMb OV hxs
              go_upto_region 31 with (first | (go_at_call 59; ((refine QP.out.mono ?_); rintro e w10 ⟨rfl, hw10⟩; obtain rfl := hw10)))
              have HT10 := HT8
              have HAR10 := HAR8
              have HBS := Aside0.mk (show True from trivial)
              clear QP HT8 HAR8
              have HNW := Aside0.mk (show nn ≠ gq from fun e => HAR10.out.oq.1 (e ▸ HT10.out.qo.og))
              have OK0 := Ok_C HT10.out.rg.act
              have OKC := Aside0.mk (show Calls Try.prog 60 #[.pointer (some ⟨nb, 0, none⟩)] _ (fun e w' => e = .returned (.bool false) ∧ w' = _) from OK0)
              have BC0 := Batch_C HT10.out.rg (by have := HB9.out; omega)
              have eX : (if ((A.turned true false v f9 M9.log.length).ok && (A.turned true false v f9 M9.log.length).out) = true then bl9 else []) = ([] : List S143) := by
                show (if (false && A.out) = true then bl9 else []) = ([] : List S143)
                rw [HH.out.2.2.2.2.2.1]
                rfl
              rw [eX] at BC0
              have BC := Aside0.mk BC0
              clear BC0 eX
              clear OK0
              go_upto_region 35 with (first | (go_at_call 60; ((refine OKC.out.mono ?_); rintro e w6 ⟨rfl, hw6⟩; obtain rfl := hw6)) | (go_at_call 61; ((refine BC.out.mono ?_); rintro e w11 ⟨v11, rfl, hr, hb⟩; have hr2 : Kd.R k143 143 w11 _ (fun _ => True) v11 ([] : List S143) := hr; obtain ⟨A10, n10, c10, rfl⟩ := R_any hr2; obtain ⟨e10, h10, hC10⟩ := Kd.R_reads' hr2; subst e10; have HT11 := Aside0.mk (HT10.out.below hb); have HAR11 := Aside0.mk (HAR10.out.below hb); have FR := Aside0.mk (From_C A10 c10 ([] : List S143) (by unfold Pure.Short; simp) w11 hC10 h10); have HB10 := Aside0.mk hb; clear hr hr2 h10 hC10 hb)) | (go_at_call 38; ((refine FR.out.mono ?_); rintro e w12 ⟨v12, rfl, hr, hb⟩; obtain ⟨A11, n11, c11, rfl⟩ := R_any hr; obtain ⟨e11, h11, hC11⟩ := Kd.R_reads' hr; obtain rfl : n11 = ([] : List S143).length := e11.trans (List.length_map ..); have HT12 := Aside0.mk (HT11.out.below hb); have HAR12 := Aside0.mk (HAR11.out.below hb); have SM0 := Same_C A11 none c11 0 [] (by unfold Pure.Short; simp) w12 hC11 h11 (Kd.R_reads' (Kd.R_nil k140 140 w12 0 (fun _ => True))).2.2 (Nat.le_refl _); have SM := Aside0.mk SM0; clear hr hb h11 hC11 SM0 e11)) | (go_at_call 37; ((refine SM.out.mono ?_); rintro e w13 ⟨rfl, ⟨nd, rfl⟩⟩; have HT13 := Aside0.mk (HT12.out.below (pw_below_drewN (Below.refl _ _) nd)); have HAR13 := Aside0.mk (HAR12.out.below (pw_below_drewN (Below.refl _ _) nd)))))
              generalize World.drewN _ _ = w14 at HT13 HAR13 ⊢
              have TM2 := Time_C HT13.out.rg.mem
              rw [HF.out.2.1] at TM2
              have TMc := Aside0.mk TM2
              have MK := Aside0.mk (show Calls Try.prog 62 #[.pointer (some ⟨nb, 0, none⟩)] w14 (fun e w' => e = .returned (.int .i64 (M9.log.length : Int)) ∧ w' = w14) from Mark_C HT13.out.rg.act)
              have hxn : w14.cell? ⟨nn, 1, none⟩ = some v1c := (blk_cell HAR13.out.hn 1).trans rfl
              have hzn := blk_frozen HAR13.out.hn 1
              clear TM2
              go_wp2_with (first | (go_at_call 62; ((refine MK.out.mono ?_); rintro e w6 ⟨rfl, hw6⟩; obtain rfl := hw6)) | (go_at_call 43; ((refine TMc.out.mono ?_); rintro e w6 ⟨rfl, hw6⟩; obtain rfl := hw6)))
              go_roundw
              case rel =>
                have HTS := HT13.out.off rfl rfl
                have hvx : v0 = v0 := rfl
                have HS := HAR13.out.setN true (.pointer none)
                have HT15 := HTS.still HS.2.1 HS.2.2 HAR13.out.hn (by decide) (HAR13.out.noUn HTS.x0.val ⟨_, HV1.out⟩) HAR13.out.on.1 HAR13.out.gn.1 HAR13.out.oq.1
                exact ⟨i + 1, at_, by first | rfl | exact congrArg _ hw, rfl, ⟨by have := HP2.out; omega, by have := HP2.out; omega, own9, _, a9, P9, Q9, M9, R9, _, _, [], s0, none, v0, .pointer none, k0, kc + 1, ⟨HT15, HS.1, HF.out.2.1, by have := HF.out.1; have := HL.out; omega, by have := HF.out.2.2.1; have := HL.out; (try simp only [List.length_cons, List.length_nil] at *); omega, by have := HL.out; omega, HK0.out, fun f' bl' e => (by cases e)⟩⟩⟩
              case measure => exact meas1000 HP2.out.2
            · have hq := HF.out.2.2.2.1 rfl rfl
              subst hq
              have HBS0 := HB9
              go_upto_region 24 with fail
              have HS := HAR9.out.setS true (kc + 1)
              have HT8 := Aside0.mk (HTM.out.still HS.2.1 HS.2.2 HAR9.out.hs (by decide) HAR9.out.noUs HAR9.out.on.2 HAR9.out.gn.2 HAR9.out.oq.2)
              have HAR8 := Aside0.mk HS.1
              replace HT8 : Aside0 (TM w1 (w9.setCell ⟨ns, 1, none⟩ (.int .i64 (kc + 1))) own9 gr gq true nb ownq n a9 P9 Q9 M9 R9 (A.turned true true v f9 M9.log.length) bl9 vL hs q9 (bl9 :: q9) s0 none v0) := HT8
              replace HAR8 : Aside0 (AR (w9.setCell ⟨ns, 1, none⟩ (.int .i64 (kc + 1))) w1.heap.size own9 ownq gr nn ns v0 v1c k0 (kc + 1)) := HAR8
              clear HS HTM HAR9 hxs hzs
              generalize World.setCell _ _ _ = w8 at HT8 HAR8 ⊢
              have TM1 := Time_C HT8.out.rg.mem
              rw [HF.out.2.1] at TM1
              have TMb := Aside0.mk TM1
              have OV := Aside0.mk (Over_done HT8.out.rg.act rfl)
              have hxs : w8.cell? ⟨ns, 1, none⟩ = some (.int .i64 (kc + 1)) := (blk_cell HAR8.out.hs 1).trans rfl
              have QP := Aside0.mk (QPop_ok HT8.out.qo (by have := HF.out.2.2.1; have := HL.out; simp only [List.length_cons] at *; omega))
              clear TM1
              go_upto_region 30 with (first | (go_at_call 43; ((refine TMb.out.mono ?_); rintro e w6 ⟨rfl, hw6⟩; obtain rfl := hw6)) | (go_at_call 57; ((refine OV.out.mono ?_); rintro e w6 ⟨rfl, hw6⟩; obtain rfl := hw6)))
              clear TMb OV hxs
              go_upto_region 31 with (first | (go_at_call 59; ((refine QP.out.mono ?_); rintro e w10 ⟨Ab, cb, rfl, hle, hCb, vL9, hs9, hq9, hk9, hb9⟩; obtain ⟨ownq9, hr9, hoq9⟩ := HT8.out.queue hq9 hk9 hb9; have HT10 := Aside0.mk hr9; have HAR10 := Aside0.mk (HAR8.out.keep (own' := own9) hk9 ⟨fun e => HAR8.out.oq.1 (e ▸ HT8.out.qo.og), fun e => HAR8.out.oq.2 (e ▸ HT8.out.qo.og)⟩ (fun k => .inl) hoq9); have HCB := Aside0.mk (show _ ∧ _ from ⟨hle, hCb⟩); clear hle hCb hq9 hk9 hb9 hr9 hoq9)))
              have HBS := HBS0
              clear QP HT8 HAR8
              have HNW := Aside0.mk (show nn ≠ gq from fun e => HAR10.out.oq.1 (e ▸ HT10.out.qo.og))
              have OK0 := Ok_C HT10.out.rg.act
              have OKC := Aside0.mk (show Calls Try.prog 60 #[.pointer (some ⟨nb, 0, none⟩)] _ (fun e w' => e = .returned (.bool true) ∧ w' = _) from OK0)
              have BC0 := Batch_C HT10.out.rg (by have := HB9.out; omega)
              have eX : (if ((A.turned true true v f9 M9.log.length).ok && (A.turned true true v f9 M9.log.length).out) = true then bl9 else []) = bl9 := by
                show (if (true && A.out) = true then bl9 else []) = bl9
                rw [HH.out.2.2.2.2.2.1]
                rfl
              rw [eX] at BC0
              have BC := Aside0.mk BC0
              clear BC0 eX
              clear OK0
              go_upto_region 35 with (first | (go_at_call 60; ((refine OKC.out.mono ?_); rintro e w6 ⟨rfl, hw6⟩; obtain rfl := hw6)) | (go_at_call 61; ((refine BC.out.mono ?_); rintro e w11 ⟨v11, rfl, hr, hb⟩; have hr2 : Kd.R k143 143 w11 _ (fun _ => True) v11 bl9 := hr; obtain ⟨A10, n10, c10, rfl⟩ := R_any hr2; obtain ⟨e10, h10, hC10⟩ := Kd.R_reads' hr2; subst e10; have HT11 := Aside0.mk (HT10.out.below hb); have HAR11 := Aside0.mk (HAR10.out.below hb); have FR := Aside0.mk (From_C A10 c10 bl9 (by unfold Pure.Short; have := HBS.out; omega) w11 hC10 h10); have HB10 := Aside0.mk hb; clear hr hr2 h10 hC10 hb)) | (go_at_call 38; ((refine FR.out.mono ?_); rintro e w12 ⟨v12, rfl, hr, hb⟩; obtain ⟨A11, n11, c11, rfl⟩ := R_any hr; obtain ⟨e11, h11, hC11⟩ := Kd.R_reads' hr; obtain rfl : n11 = bl9.length := e11.trans (List.length_map ..); have HT12 := Aside0.mk (HT11.out.below hb); have HAR12 := Aside0.mk (HAR11.out.below hb); have SM0 := (show Calls Try.prog 37 #[.slice A11 bl9.length c11, .slice Ab (bq bl9).length cb] w12 (fun e w' => e = .returned (.bool true) ∧ Drawn0 w12 w') from (by have hS := Same_C A11 Ab c11 cb bl9 (by unfold Pure.Short; have := HBS.out; omega) w12 hC11 (by rw [List.length_map]; exact h11) (Kd.C_below (Kd.C_below HCB.out.2 HB10.out) hb) HCB.out.1; rw [List.length_map] at hS; rw [show (bq bl9).length = bl9.length from List.length_map ..]; exact hS)); have SM := Aside0.mk SM0; clear hr hb h11 hC11 SM0 e11)) | (go_at_call 37; ((refine SM.out.mono ?_); rintro e w13 ⟨rfl, ⟨nd, rfl⟩⟩; have HT13 := Aside0.mk (HT12.out.below (pw_below_drewN (Below.refl _ _) nd)); have HAR13 := Aside0.mk (HAR12.out.below (pw_below_drewN (Below.refl _ _) nd)))))
              generalize World.drewN _ _ = w14 at HT13 HAR13 ⊢
              have TM2 := Time_C HT13.out.rg.mem
              rw [HF.out.2.1] at TM2
              have TMc := Aside0.mk TM2
              have MK := Aside0.mk (show Calls Try.prog 62 #[.pointer (some ⟨nb, 0, none⟩)] w14 (fun e w' => e = .returned (.int .i64 (M9.log.length : Int)) ∧ w' = w14) from Mark_C HT13.out.rg.act)
              have hxn : w14.cell? ⟨nn, 1, none⟩ = some v1c := (blk_cell HAR13.out.hn 1).trans rfl
              have hzn := blk_frozen HAR13.out.hn 1
              clear TM2
              go_wp2_with (first | (go_at_call 62; ((refine MK.out.mono ?_); rintro e w6 ⟨rfl, hw6⟩; obtain rfl := hw6)) | (go_at_call 43; ((refine TMc.out.mono ?_); rintro e w6 ⟨rfl, hw6⟩; obtain rfl := hw6)))
              go_roundw
              case rel =>
                have HTS := HT13.out.off rfl rfl
                have hvx : v0 = v0 := rfl
                have HS := HAR13.out.setN true (.pointer none)
                have HT15 := HTS.still HS.2.1 HS.2.2 HAR13.out.hn (by decide) (HAR13.out.noUn HTS.x0.val ⟨_, HV1.out⟩) HAR13.out.on.1 HAR13.out.gn.1 HAR13.out.oq.1
                exact ⟨i + 1, at_, by first | rfl | exact congrArg _ hw, rfl, ⟨by have := HP2.out; omega, by have := HP2.out; omega, own9, _, a9, P9, Q9, M9, R9, _, _, q9, s0, none, v0, .pointer none, k0, kc + 1, ⟨HT15, HS.1, HF.out.2.1, by have := HF.out.1; have := HL.out; omega, by have := HF.out.2.2.1; have := HL.out; (try simp only [List.length_cons, List.length_nil] at *); omega, by have := HL.out; omega, HK0.out, fun f' bl' e => (by cases e)⟩⟩⟩
              case measure => exact meas1000 HP2.out.2
        | some sb =>
          obtain ⟨f, bl⟩ := sb
          have HRK := Aside0.mk (HK1.out f bl rfl).1
          have HBL := Aside0.mk (HK1.out f bl rfl).2
          clear hxn1
          obtain ⟨nb, A, hv1, hao, hge, hheld, hout, hwho, hst, hok, hmk, hdf⟩ := HT.out.act1
          have HV1 := Aside0.mk hv1
          have hxn : wr.cell? ⟨nn, 1, none⟩ = some (.pointer (some ⟨nb, 0, none⟩)) := (blk_cell HAR.out.hn 1).trans (congrArg some hv1)
          have TM0 := Time_C HT.out.rb.mem
          rw [HGM.out] at TM0
          have TMa := Aside0.mk TM0
          have ST := Aside0.mk (turn1_C (hheld.rg HT.out.rb hge) HT.out.ti hst hout hwho hok HBL.out (by have := HL.out; omega) (by have := HL.out; omega))
          have HTI := Aside0.mk HT.out.ti.qi.items
          have HH := Aside0.mk (show _ ∧ _ ∧ _ ∧ _ ∧ _ ∧ _ ∧ _ ∧ _ ∧ _ from ⟨hheld, hge, hao, (⟨f, hst⟩ : ∃ f, A.st = stg f), hdf, hout, hwho, hok, hmk⟩)
          have HNS := Aside0.mk (show (¬ (own1 nn ∨ nn = gr ∨ nn = nb)) ∧ ¬ (own1 ns ∨ ns = gr ∨ ns = nb) from ⟨fun e => e.elim HAR.out.on.1 (fun e => e.elim HAR.out.gn.1 (hheld.act.ne_of HAR.out.hn (by decide))), fun e => e.elim HAR.out.on.2 (fun e => e.elim HAR.out.gn.2 (hheld.act.ne_of HAR.out.hs (by decide)))⟩)
          clear TM0 hv1 hao hge hheld hout hwho hst hok hmk hdf
          go_upto_region 23 with (first | (go_at_call 43; ((refine TMa.out.mono ?_); rintro e w6 ⟨rfl, hw6⟩; obtain rfl := hw6)) | (go_at_call 78; ((refine ST.out.mono ?_); rintro e w9 ⟨over, ok, v, bl9, M9, R9, P9, Q9, a9, q9, f9, rfl, hT, hti, hlg, e1, e2, e3, hsum, g1, g2, g3, g4⟩; have HB9 := Aside0.mk g4; obtain ⟨own9, htm, hs9, hk9⟩ := TM.made1 HT.out HH.out.1 HH.out.2.1 HH.out.2.2.1 HH.out.2.2.2.1 HH.out.2.2.2.2.1 hT hti e2 e1; have HTM := Aside0.mk htm; have HAR9 := Aside0.mk (HAR.out.keep (ownq' := ownq) hk9 HNS.out hs9 (fun k => .inl)); have HF := Aside0.mk (show _ ∧ _ ∧ _ ∧ _ ∧ _ ∧ _ from ⟨hlg, e3.trans HGM.out, hsum, g1, g2, g3⟩); clear hT hti hlg e1 e2 e3 hsum g1 g2 g3 g4 htm hs9 hk9)))
          clear ST TMa HT HAR HNS hxn
          have hxs : w9.cell? ⟨ns, 1, none⟩ = some (.int .i64 k1) := (blk_cell HAR9.out.hs 1).trans rfl
          have hzs := blk_frozen HAR9.out.hs 1
          have hwk : IntKind.i64.wrap (k1 + 1) = k1 + 1 := by have := HRK.out; have := rk_le f; rw [IntKind.wrap_i64]; omega
          have hwl : IntKind.i64.wrap ((M.log.length : Int) + 1) = (M.log.length : Int) + 1 := by have := HL.out; rw [IntKind.wrap_i64]; omega
          have h8 : ¬ (8 < k1 + 1) := by have := HRK.out; have := rk_le f; omega
          have hlt9 : ¬ ((M.log.length : Int) + 1 < (M9.log.length : Int)) := by have := HF.out.1; omega
          cases over
          · obtain ⟨hq9, hf9⟩ := HF.out.2.2.2.2.2 rfl
            subst hq9
            have HF9 := Aside0.mk hf9
            clear hf9
            go_upto_region 24 with fail
            have HS := HAR9.out.setS true (k1 + 1)
            have HT8 := Aside0.mk (HTM.out.still HS.2.1 HS.2.2 HAR9.out.hs (by decide) HAR9.out.noUs HAR9.out.on.2 HAR9.out.gn.2 HAR9.out.oq.2)
            have HAR8 := Aside0.mk HS.1
            replace HT8 : Aside0 (TM w1 (w9.setCell ⟨ns, 1, none⟩ (.int .i64 (k1 + 1))) own9 gr gq true nb ownq n a9 P9 Q9 M9 R9 (A.turned false ok v f9 M9.log.length) bl9 vL hs q9 q9 s0 (some (f9, bl9)) v0) := HT8
            replace HAR8 : Aside0 (AR (w9.setCell ⟨ns, 1, none⟩ (.int .i64 (k1 + 1))) w1.heap.size own9 ownq gr nn ns v0 v1 k0 (k1 + 1)) := HAR8
            clear HS HTM HAR9 hxs hzs
            generalize World.setCell _ _ _ = w8 at HT8 HAR8 ⊢
            have TM1 := Time_C HT8.out.rg.mem
            rw [HF.out.2.1] at TM1
            have TMb := Aside0.mk TM1
            have OV := Aside0.mk (Over_on (f := f9) HT8.out.rg.act rfl)
            have MK0 := Mark_C HT8.out.rg.act
            rw [show (A.turned false ok v f9 M9.log.length).mark = 0 from HH.out.2.2.2.2.2.2.2.2] at MK0
            have OK0 := Ok_C HT8.out.rg.act
            rw [show (A.turned false ok v f9 M9.log.length).ok = false from HH.out.2.2.2.2.2.2.2.1] at OK0
            have MK := Aside0.mk MK0
            have OKC := Aside0.mk OK0
            have hxs : w8.cell? ⟨ns, 1, none⟩ = some (.int .i64 (k1 + 1)) := (blk_cell HAR8.out.hs 1).trans rfl
            clear TM1 MK0 OK0
            go_wp2_with (first | (go_at_call 43; ((refine TMb.out.mono ?_); rintro e w6 ⟨rfl, hw6⟩; obtain rfl := hw6)) | (go_at_call 57; ((refine OV.out.mono ?_); rintro e w6 ⟨rfl, hw6⟩; obtain rfl := hw6)) | (go_at_call 62; ((refine MK.out.mono ?_); rintro e w6 ⟨rfl, hw6⟩; obtain rfl := hw6)) | (go_at_call 60; ((refine OKC.out.mono ?_); rintro e w6 ⟨rfl, hw6⟩; obtain rfl := hw6)))
            go_roundw
            case rel =>
              have HAR10 := HAR8.out
              rw [HV1.out] at HAR10
              refine ⟨i + 1, at_, by first | rfl | exact congrArg _ hw, rfl, ⟨by have := HP2.out; omega, by have := HP2.out; omega, own9, ownq, a9, P9, Q9, M9, R9, vL, hs, q9, s0, some (f9, bl9), v0, .pointer (some ⟨nb, 0, none⟩), k0, k1 + 1, ⟨HT8.out.on (f := f9) rfl HH.out.2.2.2.2.2.1 HH.out.2.2.2.2.2.2.1 rfl HH.out.2.2.2.2.2.2.2.1 HH.out.2.2.2.2.2.2.2.2, HAR10, HF.out.2.1, by have := HF.out.1; have := HL.out; omega, by have := HF.out.2.2.1; have := HL.out; omega, by have := HL.out; omega, HK0.out, fun f' bl' e => ?_⟩⟩⟩
              injection e with e
              injection e with e1 e2
              rw [← e1, HRK.out, ← e2]
              refine ⟨?_, HB9.out⟩
              rcases HF9.out with ⟨x1, x2⟩ | ⟨x1, x2⟩ <;> (rw [x1, x2]; decide)
            case measure => exact meas1000 HP2.out.2
          · cases ok
            · obtain ⟨hq, hq9⟩ := HF.out.2.2.2.2.1 rfl rfl
              subst hq
              subst hq9
              go_upto_region 24 with fail
              have HS := HAR9.out.setS true (k1 + 1)
              have HT8 := Aside0.mk (HTM.out.still HS.2.1 HS.2.2 HAR9.out.hs (by decide) HAR9.out.noUs HAR9.out.on.2 HAR9.out.gn.2 HAR9.out.oq.2)
              have HAR8 := Aside0.mk HS.1
              replace HT8 : Aside0 (TM w1 (w9.setCell ⟨ns, 1, none⟩ (.int .i64 (k1 + 1))) own9 gr gq true nb ownq n a9 P9 Q9 M9 R9 (A.turned true false v f9 M9.log.length) bl9 vL hs [] [] s0 none v0) := HT8
              replace HAR8 : Aside0 (AR (w9.setCell ⟨ns, 1, none⟩ (.int .i64 (k1 + 1))) w1.heap.size own9 ownq gr nn ns v0 v1 k0 (k1 + 1)) := HAR8
              clear HS HTM HAR9 hxs hzs
              generalize World.setCell _ _ _ = w8 at HT8 HAR8 ⊢
              have TM1 := Time_C HT8.out.rg.mem
              rw [HF.out.2.1] at TM1
              have TMb := Aside0.mk TM1
              have OV := Aside0.mk (Over_done HT8.out.rg.act rfl)
              have hxs : w8.cell? ⟨ns, 1, none⟩ = some (.int .i64 (k1 + 1)) := (blk_cell HAR8.out.hs 1).trans rfl
              have QP := Aside0.mk (QPop_no HT8.out.qo)
              clear TM1
              go_upto_region 30 with (first | (go_at_call 43; ((refine TMb.out.mono ?_); rintro e w6 ⟨rfl, hw6⟩; obtain rfl := hw6)) | (go_at_call 57; ((refine OV.out.mono ?_); rintro e w6 ⟨rfl, hw6⟩; obtain rfl := hw6)))
              clear TMb OV hxs
              go_upto_region 31 with (first | (go_at_call 59; ((refine QP.out.mono ?_); rintro e w10 ⟨rfl, hw10⟩; obtain rfl := hw10)))
              have HT10 := HT8
              have HAR10 := HAR8
              have HBS := Aside0.mk (show True from trivial)
              clear QP HT8 HAR8
              have HNW := Aside0.mk (show nn ≠ gq from fun e => HAR10.out.oq.1 (e ▸ HT10.out.qo.og))
              have OK0 := Ok_C HT10.out.rg.act
              have OKC := Aside0.mk (show Calls Try.prog 60 #[.pointer (some ⟨nb, 0, none⟩)] _ (fun e w' => e = .returned (.bool false) ∧ w' = _) from OK0)
              have BC0 := Batch_C HT10.out.rg (by have := HB9.out; omega)
              have eX : (if ((A.turned true false v f9 M9.log.length).ok && (A.turned true false v f9 M9.log.length).out) = true then bl9 else []) = ([] : List S143) := by
                show (if (false && A.out) = true then bl9 else []) = ([] : List S143)
                rw [HH.out.2.2.2.2.2.1]
                rfl
              rw [eX] at BC0
              have BC := Aside0.mk BC0
              clear BC0 eX
              clear OK0
              go_upto_region 35 with (first | (go_at_call 60; ((refine OKC.out.mono ?_); rintro e w6 ⟨rfl, hw6⟩; obtain rfl := hw6)) | (go_at_call 61; ((refine BC.out.mono ?_); rintro e w11 ⟨v11, rfl, hr, hb⟩; have hr2 : Kd.R k143 143 w11 _ (fun _ => True) v11 ([] : List S143) := hr; obtain ⟨A10, n10, c10, rfl⟩ := R_any hr2; obtain ⟨e10, h10, hC10⟩ := Kd.R_reads' hr2; subst e10; have HT11 := Aside0.mk (HT10.out.below hb); have HAR11 := Aside0.mk (HAR10.out.below hb); have FR := Aside0.mk (From_C A10 c10 ([] : List S143) (by unfold Pure.Short; simp) w11 hC10 h10); have HB10 := Aside0.mk hb; clear hr hr2 h10 hC10 hb)) | (go_at_call 38; ((refine FR.out.mono ?_); rintro e w12 ⟨v12, rfl, hr, hb⟩; obtain ⟨A11, n11, c11, rfl⟩ := R_any hr; obtain ⟨e11, h11, hC11⟩ := Kd.R_reads' hr; obtain rfl : n11 = ([] : List S143).length := e11.trans (List.length_map ..); have HT12 := Aside0.mk (HT11.out.below hb); have HAR12 := Aside0.mk (HAR11.out.below hb); have SM0 := Same_C A11 none c11 0 [] (by unfold Pure.Short; simp) w12 hC11 h11 (Kd.R_reads' (Kd.R_nil k140 140 w12 0 (fun _ => True))).2.2 (Nat.le_refl _); have SM := Aside0.mk SM0; clear hr hb h11 hC11 SM0 e11)) | (go_at_call 37; ((refine SM.out.mono ?_); rintro e w13 ⟨rfl, ⟨nd, rfl⟩⟩; have HT13 := Aside0.mk (HT12.out.below (pw_below_drewN (Below.refl _ _) nd)); have HAR13 := Aside0.mk (HAR12.out.below (pw_below_drewN (Below.refl _ _) nd)))))
              generalize World.drewN _ _ = w14 at HT13 HAR13 ⊢
              have TM2 := Time_C HT13.out.rg.mem
              rw [HF.out.2.1] at TM2
              have TMc := Aside0.mk TM2
              have MK := Aside0.mk (show Calls Try.prog 62 #[.pointer (some ⟨nb, 0, none⟩)] w14 (fun e w' => e = .returned (.int .i64 (M9.log.length : Int)) ∧ w' = w14) from Mark_C HT13.out.rg.act)
              have hxn : w14.cell? ⟨nn, 1, none⟩ = some v1 := (blk_cell HAR13.out.hn 1).trans rfl
              have hzn := blk_frozen HAR13.out.hn 1
              clear TM2
              go_wp2_with (first | (go_at_call 62; ((refine MK.out.mono ?_); rintro e w6 ⟨rfl, hw6⟩; obtain rfl := hw6)) | (go_at_call 43; ((refine TMc.out.mono ?_); rintro e w6 ⟨rfl, hw6⟩; obtain rfl := hw6)))
              go_roundw
              case rel =>
                have HTS := HT13.out.off rfl rfl
                have hvx : v0 = v0 := rfl
                have HS := HAR13.out.setN true (.pointer none)
                have HT15 := HTS.still HS.2.1 HS.2.2 HAR13.out.hn (by decide) (HAR13.out.noUn HTS.x0.val ⟨_, HV1.out⟩) HAR13.out.on.1 HAR13.out.gn.1 HAR13.out.oq.1
                exact ⟨i + 1, at_, by first | rfl | exact congrArg _ hw, rfl, ⟨by have := HP2.out; omega, by have := HP2.out; omega, own9, _, a9, P9, Q9, M9, R9, _, _, [], s0, none, v0, .pointer none, k0, k1 + 1, ⟨HT15, HS.1, HF.out.2.1, by have := HF.out.1; have := HL.out; omega, by have := HF.out.2.2.1; have := HL.out; (try simp only [List.length_cons, List.length_nil] at *); omega, by have := HL.out; omega, HK0.out, fun f' bl' e => (by cases e)⟩⟩⟩
              case measure => exact meas1000 HP2.out.2
            · have hq := HF.out.2.2.2.1 rfl rfl
              subst hq
              have HBS0 := HB9
              go_upto_region 24 with fail
              have HS := HAR9.out.setS true (k1 + 1)
              have HT8 := Aside0.mk (HTM.out.still HS.2.1 HS.2.2 HAR9.out.hs (by decide) HAR9.out.noUs HAR9.out.on.2 HAR9.out.gn.2 HAR9.out.oq.2)
              have HAR8 := Aside0.mk HS.1
              replace HT8 : Aside0 (TM w1 (w9.setCell ⟨ns, 1, none⟩ (.int .i64 (k1 + 1))) own9 gr gq true nb ownq n a9 P9 Q9 M9 R9 (A.turned true true v f9 M9.log.length) bl9 vL hs q9 (bl9 :: q9) s0 none v0) := HT8
              replace HAR8 : Aside0 (AR (w9.setCell ⟨ns, 1, none⟩ (.int .i64 (k1 + 1))) w1.heap.size own9 ownq gr nn ns v0 v1 k0 (k1 + 1)) := HAR8
              clear HS HTM HAR9 hxs hzs
              generalize World.setCell _ _ _ = w8 at HT8 HAR8 ⊢
              have TM1 := Time_C HT8.out.rg.mem
              rw [HF.out.2.1] at TM1
              have TMb := Aside0.mk TM1
              have OV := Aside0.mk (Over_done HT8.out.rg.act rfl)
              have hxs : w8.cell? ⟨ns, 1, none⟩ = some (.int .i64 (k1 + 1)) := (blk_cell HAR8.out.hs 1).trans rfl
              have QP := Aside0.mk (QPop_ok HT8.out.qo (by have := HF.out.2.2.1; have := HL.out; simp only [List.length_cons] at *; omega))
              clear TM1
              go_upto_region 30 with (first | (go_at_call 43; ((refine TMb.out.mono ?_); rintro e w6 ⟨rfl, hw6⟩; obtain rfl := hw6)) | (go_at_call 57; ((refine OV.out.mono ?_); rintro e w6 ⟨rfl, hw6⟩; obtain rfl := hw6)))
              clear TMb OV hxs
              go_upto_region 31 with (first | (go_at_call 59; ((refine QP.out.mono ?_); rintro e w10 ⟨Ab, cb, rfl, hle, hCb, vL9, hs9, hq9, hk9, hb9⟩; obtain ⟨ownq9, hr9, hoq9⟩ := HT8.out.queue hq9 hk9 hb9; have HT10 := Aside0.mk hr9; have HAR10 := Aside0.mk (HAR8.out.keep (own' := own9) hk9 ⟨fun e => HAR8.out.oq.1 (e ▸ HT8.out.qo.og), fun e => HAR8.out.oq.2 (e ▸ HT8.out.qo.og)⟩ (fun k => .inl) hoq9); have HCB := Aside0.mk (show _ ∧ _ from ⟨hle, hCb⟩); clear hle hCb hq9 hk9 hb9 hr9 hoq9)))
              have HBS := HBS0
              clear QP HT8 HAR8
              have HNW := Aside0.mk (show nn ≠ gq from fun e => HAR10.out.oq.1 (e ▸ HT10.out.qo.og))
              have OK0 := Ok_C HT10.out.rg.act
              have OKC := Aside0.mk (show Calls Try.prog 60 #[.pointer (some ⟨nb, 0, none⟩)] _ (fun e w' => e = .returned (.bool true) ∧ w' = _) from OK0)
              have BC0 := Batch_C HT10.out.rg (by have := HB9.out; omega)
              have eX : (if ((A.turned true true v f9 M9.log.length).ok && (A.turned true true v f9 M9.log.length).out) = true then bl9 else []) = bl9 := by
                show (if (true && A.out) = true then bl9 else []) = bl9
                rw [HH.out.2.2.2.2.2.1]
                rfl
              rw [eX] at BC0
              have BC := Aside0.mk BC0
              clear BC0 eX
              clear OK0
              go_upto_region 35 with (first | (go_at_call 60; ((refine OKC.out.mono ?_); rintro e w6 ⟨rfl, hw6⟩; obtain rfl := hw6)) | (go_at_call 61; ((refine BC.out.mono ?_); rintro e w11 ⟨v11, rfl, hr, hb⟩; have hr2 : Kd.R k143 143 w11 _ (fun _ => True) v11 bl9 := hr; obtain ⟨A10, n10, c10, rfl⟩ := R_any hr2; obtain ⟨e10, h10, hC10⟩ := Kd.R_reads' hr2; subst e10; have HT11 := Aside0.mk (HT10.out.below hb); have HAR11 := Aside0.mk (HAR10.out.below hb); have FR := Aside0.mk (From_C A10 c10 bl9 (by unfold Pure.Short; have := HBS.out; omega) w11 hC10 h10); have HB10 := Aside0.mk hb; clear hr hr2 h10 hC10 hb)) | (go_at_call 38; ((refine FR.out.mono ?_); rintro e w12 ⟨v12, rfl, hr, hb⟩; obtain ⟨A11, n11, c11, rfl⟩ := R_any hr; obtain ⟨e11, h11, hC11⟩ := Kd.R_reads' hr; obtain rfl : n11 = bl9.length := e11.trans (List.length_map ..); have HT12 := Aside0.mk (HT11.out.below hb); have HAR12 := Aside0.mk (HAR11.out.below hb); have SM0 := (show Calls Try.prog 37 #[.slice A11 bl9.length c11, .slice Ab (bq bl9).length cb] w12 (fun e w' => e = .returned (.bool true) ∧ Drawn0 w12 w') from (by have hS := Same_C A11 Ab c11 cb bl9 (by unfold Pure.Short; have := HBS.out; omega) w12 hC11 (by rw [List.length_map]; exact h11) (Kd.C_below (Kd.C_below HCB.out.2 HB10.out) hb) HCB.out.1; rw [List.length_map] at hS; rw [show (bq bl9).length = bl9.length from List.length_map ..]; exact hS)); have SM := Aside0.mk SM0; clear hr hb h11 hC11 SM0 e11)) | (go_at_call 37; ((refine SM.out.mono ?_); rintro e w13 ⟨rfl, ⟨nd, rfl⟩⟩; have HT13 := Aside0.mk (HT12.out.below (pw_below_drewN (Below.refl _ _) nd)); have HAR13 := Aside0.mk (HAR12.out.below (pw_below_drewN (Below.refl _ _) nd)))))
              generalize World.drewN _ _ = w14 at HT13 HAR13 ⊢
              have TM2 := Time_C HT13.out.rg.mem
              rw [HF.out.2.1] at TM2
              have TMc := Aside0.mk TM2
              have MK := Aside0.mk (show Calls Try.prog 62 #[.pointer (some ⟨nb, 0, none⟩)] w14 (fun e w' => e = .returned (.int .i64 (M9.log.length : Int)) ∧ w' = w14) from Mark_C HT13.out.rg.act)
              have hxn : w14.cell? ⟨nn, 1, none⟩ = some v1 := (blk_cell HAR13.out.hn 1).trans rfl
              have hzn := blk_frozen HAR13.out.hn 1
              clear TM2
              go_wp2_with (first | (go_at_call 62; ((refine MK.out.mono ?_); rintro e w6 ⟨rfl, hw6⟩; obtain rfl := hw6)) | (go_at_call 43; ((refine TMc.out.mono ?_); rintro e w6 ⟨rfl, hw6⟩; obtain rfl := hw6)))
              go_roundw
              case rel =>
                have HTS := HT13.out.off rfl rfl
                have hvx : v0 = v0 := rfl
                have HS := HAR13.out.setN true (.pointer none)
                have HT15 := HTS.still HS.2.1 HS.2.2 HAR13.out.hn (by decide) (HAR13.out.noUn HTS.x0.val ⟨_, HV1.out⟩) HAR13.out.on.1 HAR13.out.gn.1 HAR13.out.oq.1
                exact ⟨i + 1, at_, by first | rfl | exact congrArg _ hw, rfl, ⟨by have := HP2.out; omega, by have := HP2.out; omega, own9, _, a9, P9, Q9, M9, R9, _, _, q9, s0, none, v0, .pointer none, k0, k1 + 1, ⟨HT15, HS.1, HF.out.2.1, by have := HF.out.1; have := HL.out; omega, by have := HF.out.2.2.1; have := HL.out; (try simp only [List.length_cons, List.length_nil] at *); omega, by have := HL.out; omega, HK0.out, fun f' bl' e => (by cases e)⟩⟩⟩
              case measure => exact meas1000 HP2.out.2
    · have LG := Log_C HT.out.rb.mem (by have := HL.out; omega)
      rw [HGM.out] at LG
      have HLG := Aside0.mk LG
      have HR := Aside0.mk (HT.out.ti.race (by have := HL.out; omega))
      have HBE := Aside0.mk (below_step HB1.out HT.out.bel)
      have hc2 : (i < l2.length ∧ ¬ i < 1000) ∨ ¬ i < l2.length := by omega
      clear LG hil HK0 HK1 HAR
      rcases hc2 with ⟨h1, h2⟩ | h1
      · have d1 := decide_eq_true (show (i : Int) < (l2.length : Int) by omega)
        have d2 := decide_eq_false (show ¬ (i : Int) < (1000 : Int) by omega)
        have d3 : ¬ (i : Int) < (1000 : Int) := by omega
        go_wp2_with (first | (go_at_call 48; ((with_reducible refine HLG.out.mono ?_); rintro e w5 ⟨v5, rfl, hq5, hb5⟩; obtain ⟨A5, n5, c5, rfl⟩ := R_any hq5; obtain ⟨e1_, e2_, e3_⟩ := Kd.R_reads' hq5; obtain rfl : n5 = M.log.length := e1_; have HRC := Aside0.mk (clock_Race.calls A5 c5 M.log _ _ w5 e3_ e2_ HR.out); have HB2 := Aside0.mk (below_step HBE.out hb5); clear hq5 hb5 HBE e2_ e3_; have HBE := HB2; clear HB2)) | (go_at_call 28; ((with_reducible refine HRC.out.mono ?_); rintro e w6 ⟨rfl, hb6⟩; have HB2 := Aside0.mk (below_step HBE.out hb6); clear hb6 HBE; have HBE := HB2; clear HB2)))
        go_ret
        exact ⟨rfl, HBE.out⟩
      · have d1 := decide_eq_false (show ¬ (i : Int) < (l2.length : Int) by omega)
        have d2 : ¬ (i : Int) < (l2.length : Int) := by omega
        go_wp2_with (first | (go_at_call 48; ((with_reducible refine HLG.out.mono ?_); rintro e w5 ⟨v5, rfl, hq5, hb5⟩; obtain ⟨A5, n5, c5, rfl⟩ := R_any hq5; obtain ⟨e1_, e2_, e3_⟩ := Kd.R_reads' hq5; obtain rfl : n5 = M.log.length := e1_; have HRC := Aside0.mk (clock_Race.calls A5 c5 M.log _ _ w5 e3_ e2_ HR.out); have HB2 := Aside0.mk (below_step HBE.out hb5); clear hq5 hb5 HBE e2_ e3_; have HBE := HB2; clear HB2)) | (go_at_call 28; ((with_reducible refine HRC.out.mono ?_); rintro e w6 ⟨rfl, hb6⟩; have HB2 := Aside0.mk (below_step HBE.out hb6); clear hb6 HBE; have HBE := HB2; clear HB2)))
        go_ret
        exact ⟨rfl, HBE.out⟩
open Go.RowKit Go.Proofs.YtlcnckbmolefpaaW.PrintWords
instance : Inhabited S140 := ⟨z140⟩
theorem opens140 : Opens Try.prog 140 k140 (fun _ => True) :=
  (Opens.iso (Opens.struct (d := Kd.pair (Kd.int .i64) (Kd.pair (Kd.int .u64) (Kd.int .i64))) Try.underlying140 (by kernel_rfl)
    (OpensSeg.cons rfl (by kernel_rfl) (by decide) (opens_i64 Try.underlying3) (OpensSeg.cons rfl (by kernel_rfl) (by decide) (opens_u64 Try.underlying29) (OpensSeg.one rfl (by kernel_rfl) (opens_i64 Try.underlying2)))))
    (fun x : S140 => (x.f0, x.f1, x.f2)) (fun y => ⟨y.1, y.2.1, y.2.2⟩) (fun _ => rfl)).imp fun _ _ => trivial
theorem opens51 : Opens Try.prog 51 (Kd.slice 140 k140) (fun l => l.length ≤ maxLen ∧ ∀ y ∈ l, True) := Opens.slice Try.underlying51 (by kernel_rfl) opens140
theorem opens45 : Opens Try.prog 45 (Kd.slice 51 (Kd.slice 140 k140)) (fun l => l.length ≤ maxLen ∧ ∀ y ∈ l, y.length ≤ maxLen ∧ ∀ z ∈ y, True) := Opens.slice Try.underlying45 (by kernel_rfl) opens51
def marchlandlaw11_RingTurns.f (_k : Nat) (_a : Int) (_l1 : List (List S140)) (_l2 : List Int) : Option Bool := some true
theorem marchlandlaw11_RingTurns.calls (k : Nat) (a : Int) (A1 : Option Addr) (c1 : Nat) (l1 : List (List S140)) (A2 : Option Addr) (c2 : Nat) (l2 : List Int) (r : Bool) (w : World)
    (hC1 : Kd.C (Kd.slice 140 k140) w A1 l1.length l1) (_hc1 : l1.length ≤ c1) (hC2 : Kd.C (Kd.int .i64) w A2 l2.length l2) (_hc2 : l2.length ≤ c2) (h : marchlandlaw11_RingTurns.f k a l1 l2 = some r) :
    Calls Try.prog 15 #[.int .i64 a, .slice A1 l1.length c1, .slice A2 l2.length c2] w fun e w' => e = .returned (.bool r) ∧ Below w.heap.size w w' := by
  obtain rfl := Option.some.inj h
  exact RTurns_calls a A1 A2 c1 c2 l1 l2 w hC1 hC2
end Go.Proofs.Ytlcnckbmolefpaa.P
namespace Go.Proofs.Ytlcnckbmolefpaa.Pure
theorem RingTurns (a : Int) (l1 : List (List P.S140)) (l2 : List Int) : ∃ k, P.marchlandlaw11_RingTurns.f k a l1 l2 = some true := ⟨0, rfl⟩
end Go.Proofs.Ytlcnckbmolefpaa.Pure
end
