/- Walks and laws of several statements of this seat, joined into one text; no condition. -/
import Derived.Test.YtlcnckbmolefpaaProg
import Derived.Below
import Derived.Deep.Draws
import Derived.Deep.AppendLies
import Derived.Maps.AppendAt
import Derived.OwnWalk
import Derived.Laws.BytesArg
import Derived.Laws.MakeOwn
import Derived.Laws.OwnMore
import Derived.Deep.OwnRows
import Derived.Tactics
import Derived.Lib.ConvBytes
import Derived.Laws.Slices
import Derived.WalkKit
import Derived.KernelRfl
import Derived.RowKit3
import Derived.Deep.LoopGhost
import Derived.Deep.QuietTactic
import Derived.BigQuiet
import Derived.WideLaws
import Derived.Deep.DeepCutAuto
import Derived.Deep.CutBlock
import Derived.Deep.RegionHeld3
import Derived.Laws.Rows
import Derived.Lib.AppendStr
import Derived.ArgAppend
import Derived.Laws.IdiomCopy
import Derived.OrdersHeld
import Derived.Laws.BitsLemmas
import Derived.RowKit
import Derived.Laws.StructEq
import Derived.Maps.RangeWalk
import Derived.Maps.OwnRows
import Derived.Maps.Views
import Derived.Maps.OwnSet
import Derived.IntWalk
import Derived.Shelf.SlMaps.Clone
import Derived.Laws.CopyOwn
import Derived.Deep.RegionLaw
import Derived.LoopTactic
import Derived.Outline
import Derived.Lib.BufferMore
import Derived.Deep.CutRange
import Derived.Lib.Zigzag
import Derived.Laws.EntriesVeiled
import Derived.Deep.Slices
import Derived.SizedLaws
import Derived.OpenShut
import Derived.Lib.SmallJoins
import Derived.Test.YtlcnckbmolefpaaSAa0
import Derived.Test.YtlcnckbmolefpaaSAa1
import Derived.Test.YtlcnckbmolefpaaSAa2
section
namespace Go.Proofs.Ytlcnckbmolefpaa.P
open Go.RowKit Go.Maps Go.Proofs.Ytlcnckbmolefpaa.CK Go.Proofs.YtlcnckbmolefpaaW.PrintWords Go.Proofs.YtlcnckbmolefpaaW.PrintLast Go.Proofs.YtlcnckbmolefpaaW.PrintMore
attribute [local go_sem] max2_int min2_int max_two min_two
set_option linter.unusedVariables false
set_option linter.unusedSimpArgs false
set_option maxRecDepth 100000
theorem Same13_C (X : List Int) (w : World) {A0 A1 : Option Addr} {c0 c1 : Nat} (h0 : Kd.C (Kd.int .u64) w A0 X.length X) (hc0 : X.length ≤ c0) (h1 : Kd.C (Kd.int .u64) w A1 X.length X) (hc1 : X.length ≤ c1) (hl : X.length ≤ 1000000) :
    Calls Try.prog 73 #[.slice A0 X.length c0, .slice A1 X.length c1] w fun e w' => e = .returned (.bool true) ∧ Below w.heap.size w w' := by
  obtain ⟨k, hk⟩ := ssame_ok hl
  refine (marchlandref13_Same.calls k A0 c0 X A1 c1 X true w h0 hc0 h1 hc1 hk).mono ?_
  rintro e w' ⟨rfl, hd⟩
  exact ⟨rfl, Drawn0.below hd⟩
theorem p10 : ∀ p ∈ ([1, 0] : List Int), 0 ≤ p ∧ p < 2 := fun p hp => by
  rcases List.mem_cons.1 hp with rfl | hp
  · decide
  · rw [List.mem_singleton.1 hp]; decide
set_option maxHeartbeats 4000000 in
theorem told13_C (W : World) : Calls Try.prog 66 #[] W fun e w' => e = .returned (.bool true) ∧ Below W.heap.size W w' := by
  go_enter Try.func66, Try.ntmps66
  go_upto_region 4 with (first | (go_at_call 65; ((refine (sbegin_C 2 2 (by decide) (by decide) W).mono ?_); rintro e w1 ⟨gm, gs, own, rfl, hsg, hb⟩; have HS1 := Aside0.mk hsg; have HB1 := Aside0.mk hb; clear hsg hb)))
  have HAL := Aside0.mk (below_alloc (Below.refl w1.heap.size w1) (.cells #[.int .i64 1, .int .i64 0] 3))
  have RA := Aside0.mk (Read_C (P := [1, 0]) 0 (some ⟨w1.heap.size, 0, none⟩) 2 (HS1.out.below HAL.out) (Kd.R_reads' (lit2_i w1 1 0)).2.2 (by decide) (by decide) p10 (by decide))
  go_upto_region 5 with (first | (go_at_call 72; ((refine RA.out.mono ?_); rintro e w2 ⟨na, vp, vt, op, ot, rfl, hna, hsp, h1, h2, hb⟩; have HA2 := Aside0.mk hsp; have HB2 := Aside0.mk (below_step (below_step HB1.out HAL.out) hb); clear hna hsp h1 h2 hb)))
  clear RA HAL HS1
  have FA := Aside0.mk (rd_finish (T := [0, 0]) (v := 0) HA2.out (by decide) rfl ⟨Int.le_refl 0, show (Lit.int .i64 0).wf = true by decide⟩ (by decide) (by decide) p10 (by decide))
  go_upto_region 6 with (first | (go_at_call 69; ((refine FA.out.mono ?_); rintro e w3 ⟨rfl, L3, hL3, o3, hsp3, hk3⟩; have HA3 := Aside0.mk hsp3; have HL3 := Aside0.mk hL3; have HB3 := Aside0.mk (HB2.out.trans hk3.2.2); have TA := Aside0.mk (STimes_C hsp3.a rfl rfl (by decide)); clear hsp3 hk3 hL3)) | (go_at_call 74; ((refine TA.out.mono ?_); rintro e w4 ⟨v4, rfl, hr4, hb4⟩; obtain ⟨A4, n4, c4, rfl⟩ := R_any hr4; obtain ⟨e4, h4, hC4⟩ := Kd.R_reads' hr4; obtain rfl : n4 = 2 := e4; have HA4 := Aside0.mk (HA3.out.below hb4); have HB4 := Aside0.mk (below_step HB3.out hb4); have HAL := Aside0.mk (below_alloc (Below.refl w4.heap.size w4) (.cells #[.int .u64 0, .int .u64 0] 29)); have SA := Aside0.mk (Same13_C [0, 0] (w4.alloc (.cells #[.int .u64 0, .int .u64 0] 29)) (Kd.C_below hC4 HAL.out) h4 (Kd.R_reads' (lit2_u w4 0 0)).2.2 (Nat.le_refl 2) (by decide)); clear hr4 hb4 h4 hC4)) | (go_at_call 73; ((refine SA.out.mono ?_); rintro e w5 ⟨rfl, hb5⟩; have HA5 := Aside0.mk ((HA4.out.below HAL.out).below hb5); have HB5 := Aside0.mk (below_step (below_step HB4.out HAL.out) hb5); have VA := Aside0.mk (SVain_C HA5.out.a.act); clear hb5)) | (go_at_call 70; ((refine VA.out.mono ?_); rintro e w6 ⟨rfl, hw6⟩; obtain rfl := hw6.symm)))
  clear FA TA SA VA HA4 HA3 HB2 HB3 HB4 HAL
  have HAL := Aside0.mk (below_alloc (Below.refl w5.heap.size w5) (.cells #[.int .u64 5, .int .u64 9] 29))
  have PB := Aside0.mk (Publish_C (X := [5, 9]) 1 (some ⟨w5.heap.size, 0, none⟩) 2 (HA5.out.g.below HAL.out) (Kd.R_reads' (lit2_u w5 5 9)).2.2 (by decide) (by decide) rfl (by decide))
  go_upto_region 7 with (first | (go_at_call 68; ((refine PB.out.mono ?_); rintro e w7 ⟨nb, vb, opb, otb, rfl, hnb, hsp, h1, h2, hb⟩; have HS7 := Aside0.mk hsp; have HA7 := Aside0.mk (((HA5.out.a).below HAL.out).below hb); have HD1 := Aside0.mk (((HA5.out.a).below HAL.out).newer hnb h2); have HB7 := Aside0.mk (below_step (below_step HB5.out HAL.out) hb); clear hnb hsp h1 h2 hb)))
  clear PB HAL HA5 HB5
  have HAL := Aside0.mk (below_alloc (Below.refl w7.heap.size w7) (.cells #[.int .i64 1, .int .i64 0] 3))
  have RC := Aside0.mk (Read_C (P := [1, 0]) 0 (some ⟨w7.heap.size, 0, none⟩) 2 (HS7.out.g.below HAL.out) (Kd.R_reads' (lit2_i w7 1 0)).2.2 (by decide) (by decide) p10 (by decide))
  go_upto_region 8 with (first | (go_at_call 72; ((refine RC.out.mono ?_); rintro e w8 ⟨nc, vpc, vtc, opc, otc, rfl, hnc, hsp, h1, h2, hb⟩; have HC8 := Aside0.mk hsp; have HS8 := Aside0.mk ((HS7.out.below HAL.out).below hb); have HA8 := Aside0.mk ((HA7.out.below HAL.out).below hb); have HD2 := Aside0.mk ((HA7.out.below HAL.out).newer hnc h2); have HD3 := Aside0.mk ((HS7.out.a.below HAL.out).newer hnc h2); have HD4 := Aside0.mk ((HS7.out.a.below HAL.out).older hnc h1 h2); have HB8 := Aside0.mk (below_step (below_step HB7.out HAL.out) hb); clear hnc hsp h1 h2 hb)))
  clear RC HAL HS7 HA7 HB7
  have FB := Aside0.mk (pub_finish (T := [0, 0]) (v := 0) HS8.out rfl ⟨Int.le_refl 0, by decide⟩ rfl rfl ⟨(by decide : (0 : Int) ≤ 1), show (Lit.int .i64 1).wf = true by decide⟩ (by decide) (by rw [show L3.length = 4 from HL3.out]; decide))
  have hL3n : L3.length = 4 := HL3.out
  go_wp2_with (first | (go_at_call 69; ((with_reducible refine FB.out.mono ?_); rintro e w9 ⟨rfl, L9, hL9, o9, hsp9, hk9⟩; have hL9n : L9.length = 10 := hL9.trans (by rw [hL3n]; rfl); have HS9 := Aside0.mk hsp9; have HC9 := Aside0.mk (HC8.out.a.beside hk9 HD4.out); have HA9 := Aside0.mk (HA8.out.beside hk9 HD1.out); have HB9 := Aside0.mk (HB8.out.trans hk9.2.2); have FC := Aside0.mk (rd_finish (T := [5, 9]) (v := 0 + 1 + 1) ⟨hsp9.g, HC9.out⟩ (by decide) rfl ⟨Int.le_refl 0, show (Lit.int .i64 0).wf = true by decide⟩ (by decide) (by decide) p10 (by rw [hL9n]; decide)); clear hL9 hsp9 hk9)) | (go_at_call 69; ((with_reducible refine FC.out.mono ?_); rintro e w10 ⟨rfl, L10, hL10, o10, hsp10, hk10⟩; have HC10 := Aside0.mk hsp10.a; have HS10 := Aside0.mk (HS9.out.a.beside hk10 HD3.out); have HA10 := Aside0.mk (HA9.out.beside hk10 HD2.out); have HB10 := Aside0.mk (HB9.out.trans hk10.2.2); have TC := Aside0.mk (STimes_C hsp10.a rfl rfl (by decide)); clear hL10 hsp10 hk10)) | (go_at_call 74; ((with_reducible refine TC.out.mono ?_); rintro e w11 ⟨v4, rfl, hr4, hb4⟩; obtain ⟨A4, n4, c4, rfl⟩ := R_any hr4; obtain ⟨e4, h4, hC4⟩ := Kd.R_reads' hr4; obtain rfl : n4 = 2 := e4; have HAL := Aside0.mk (below_alloc (Below.refl w11.heap.size w11) (.cells #[.int .u64 9, .int .u64 5] 29)); have HB11 := Aside0.mk (below_step hb4 HAL.out); have SC := Aside0.mk (Same13_C [9, 5] (w11.alloc (.cells #[.int .u64 9, .int .u64 5] 29)) (Kd.C_below hC4 HAL.out) h4 (Kd.R_reads' (lit2_u w11 9 5)).2.2 (Nat.le_refl 2) (by decide)); clear hr4 hb4 h4 hC4)) | (go_at_call 73; ((refine SC.out.mono ?_); rintro e w12 ⟨rfl, hb5⟩; have HB12 := Aside0.mk (below_step HB11.out hb5); have MC := Aside0.mk (show Calls Try.prog 77 #[.pointer (some ⟨nc, 0, none⟩)] w12 (fun e w' => e = .returned (.int .i64 14) ∧ w' = w12) from by have h := SMark_C ((HC10.out.below HB12.out).act); rw [show ((L9.length + [(1 : Int), 0].length + 2 : Nat) : Int) = 14 by rw [hL9n]; rfl] at h; exact h); have MB := Aside0.mk (show Calls Try.prog 77 #[.pointer (some ⟨nb, 0, none⟩)] w12 (fun e w' => e = .returned (.int .i64 9) ∧ w' = w12) from by have h := SMark_C ((HS10.out.below HB12.out).act); rw [show ((L3.length + [(5 : Int), 9].length + 3 : Nat) : Int) = 9 by rw [hL3n]; rfl] at h; exact h); have MA := Aside0.mk (show Calls Try.prog 77 #[.pointer (some ⟨na, 0, none⟩)] w12 (fun e w' => e = .returned (.int .i64 4) ∧ w' = w12) from SMark_C ((HA10.out.below HB12.out).act)); have HBE := Aside0.mk (below_step HB10.out HB12.out); clear hb5)) | (go_at_call 77; ((with_reducible refine MC.out.mono ?_); rintro e w13 ⟨rfl, hw⟩; obtain rfl := hw.symm)) | (go_at_call 77; ((with_reducible refine MB.out.mono ?_); rintro e w13 ⟨rfl, hw⟩; obtain rfl := hw.symm)) | (go_at_call 77; ((with_reducible refine MA.out.mono ?_); rintro e w13 ⟨rfl, hw⟩; obtain rfl := hw.symm)))
  go_ret
  exact ⟨rfl, HBE.out⟩
set_option maxRecDepth 100000
theorem alloc_drew (w : World) (o : Obj) : (w.alloc o).drew = w.drew.alloc o := rfl
theorem readV_take {T P : List Int} {i p : Nat} (hi : i < P.length) (hp : rd P (i : Int) = (p : Int)) : (readV T P).take i ++ [T[p]?.getD 0] = (readV T P).take (i + 1) := by
  have h1 : i < (readV T P).length := by rw [readV_len]; exact hi
  have h2 : P[i] = (p : Int) := by rw [rd_nat, List.getElem?_eq_getElem hi] at hp; exact hp
  have h3 : (readV T P)[i]? = some (T[p]?.getD 0) := by unfold readV; rw [List.getElem?_map, List.getElem?_eq_getElem hi, h2]; show some (T[((p : Int)).toNat]?.getD 0) = _; rw [Int.toNat_natCast]
  rw [List.take_add_one, h3]
  rfl
set_option maxHeartbeats 2000000 in
theorem SRead_C (T P : List Int) (W : World) {gw : Nat} {At Ap : Option Addr} {ct cp : Nat} (hw : W.cell? ⟨gw, 0, none⟩ = some (.slice At T.length ct)) (hT : Kd.C (Kd.int .u64) W At T.length T) (hP : Kd.C (Kd.int .i64) W Ap P.length P) (hin : ∀ p ∈ P, 0 ≤ p ∧ p < (T.length : Int)) (hl : P.length ≤ 1000 ∧ T.length ≤ 1000) :
    Calls Try.prog 75 #[.pointer (some ⟨gw, 0, none⟩), .slice Ap P.length cp] W fun e w' => ∃ v, e = .returned v ∧ Kd.R (Kd.int .u64) 29 w' W.heap.size (fun _ => True) v (readV T P) ∧ Below W.heap.size W w' := by
  have HW := Aside0.mk hw
  have HT := Aside0.mk hT
  have HP := Aside0.mk hP
  have HIN := Aside0.mk hin
  have HL := Aside0.mk hl
  clear hw hT hP hin hl
  go_enter Try.func75, Try.ntmps75
  go_wp2
  go_loopw [5, 6] (fun v5 v6 wr => ∃ i : Nat, v6 = .int .i64 (i : Int) ∧ Aside0 (i ≤ P.length ∧ Kd.R (Kd.int .u64) 29 wr W.heap.size (fun _ => True) v5 ((readV T P).take i) ∧ Below W.heap.size W wr)) (fun v5 v6 _ => (2000 - intOf v6).toNat)
  case atStart => exact ⟨0, rfl, ⟨Nat.zero_le _, Kd.R_nil _ _ _ _ _, Below.refl _ _⟩⟩
  case round =>
    obtain ⟨i, rfl, HI⟩ := hrel
    by_cases hi : i < P.length
    · have d1 := decide_eq_true (show (i : Int) < (P.length : Int) by omega)
      have q0 : (0 : Int) ≤ (i : Int) := by omega
      have q1 : (i : Int) < (P.length : Int) := by omega
      have hwi : IntKind.i64.wrap ((i : Int) + 1) = (i : Int) + 1 := by have := HL.out; rw [IntKind.wrap_i64]; omega
      obtain ⟨p, hp⟩ : ∃ p : Nat, rd P (i : Int) = (p : Int) := ⟨(rd P (i : Int)).toNat, by have := HIN.out _ (rd_in hi); omega⟩
      have hpt : p < T.length := by have := HIN.out _ (rd_in hi); omega
      have q2 : (0 : Int) ≤ (p : Int) := by omega
      have q3 : (p : Int) < (T.length : Int) := by omega
      obtain ⟨adP, rfl, hxp⟩ := Kd.at_int HP.out (i : Int) q0 q1
      obtain ⟨adT, rfl, hxt⟩ := Kd.at_int HT.out (p : Int) q2 q3
      rw [Int.toNat_natCast, hp] at hxp
      rw [Int.toNat_natCast, rd_nat] at hxt
      have hnx := readV_take (T := T) hi hp
      obtain ⟨x, hx⟩ : ∃ x, T[p]?.getD 0 = x := ⟨_, rfl⟩
      rw [hx] at hxt hnx
      have HNX := Aside0.mk hnx
      clear hx hnx
      have HHI := Aside0.mk hi
      have HSS := Aside0.mk (fun w' (hb : Below W.heap.size W w') => (show w'.cell? ⟨gw, 0, none⟩ = some (.slice (some adT) T.length ct) ∧ w'.cell? (adP.add i) = some (.int .i64 (p : Int)) ∧ w'.cell? (adT.add p) = some (.int .u64 (x)) from
        ⟨(hb.cell (p := ⟨gw, 0, none⟩) (World.block_lt_of_cell? W _ HW.out)).trans HW.out, (hb.cell (World.block_lt_of_cell? W _ hxp)).trans hxp, (hb.cell (World.block_lt_of_cell? W _ hxt)).trans hxt⟩))
      clear hi hp hxp hxt
      go_upto_region 5 with fail
      go_region_held3 (fun w' => w'.cell? ⟨gw, 0, none⟩ = some (.slice (some adT) T.length ct) ∧ w'.cell? (adP.add i) = some (.int .i64 (p : Int)) ∧ w'.cell? (adT.add p) = some (.int .u64 (x)))
        (first | exact HSS.out _ HI.out.2.2 | exact HSS.out _ (below_drew HI.out.2.2) | exact HSS.out _ (below_alloc (below_drew HI.out.2.2) _) | exact HSS.out _ (below_drew (below_alloc HI.out.2.2 _)) | exact HSS.out _ HB6.out)
        (first | (rw [alloc_drew]; refine Kd.R_append_step (Kd.int .u64) (w0 := W) W.heap.size (by rfl) (.tmp 13) (.tmp 24) 44 29 (.int .u64 0) 8 rfl Try.underlying44 info29 rfl (by decide) (by omega) _ ((readV T P).take i) (x) [.int .u64 (x)] (fun _ => True) (fun _ => False) rfl rfl ?aP (fun _ hk => hk.elim) ?aF ?aO ?aB ?aS ?aL ?_; (case aP => exact rfl); (case aB => exact (below_drew HI.out.2.2)); (case aF => exact (fun _ _ => trivial)); (case aO => exact (Kd.R_drew HI.out.2.1)); (case aS => exact (below_drew HI.out.2.2).size); (case aL => have := HL.out; have := HI.out.1; rw [List.length_take]; omega); intro v7 w6 ho hb hg hat; have HB6 := Aside0.mk hb; have HO6 := Aside0.mk ho; clear ho hb hg hat))
      go_wp2
      go_roundw
      case rel => exact ⟨i + 1, by first | rfl | exact congrArg _ hwi, ⟨HHI.out, by have h := HO6.out; rw [HNX.out] at h; exact h, HB6.out⟩⟩
      case measure => have := HHI.out; have := HL.out; simp only [intOf]; omega
    · have d1 := decide_eq_false (show ¬ (i : Int) < (P.length : Int) by omega)
      have he : i = P.length := by have := HI.out.1; omega
      have HE := Aside0.mk (show _ ∧ _ from ⟨HI.out.2.1, HI.out.2.2⟩)
      subst he
      go_wp2
      go_ret
      exact ⟨_, rfl, by have h := HE.out.1; rw [← readV_len T P, List.take_length] at h; exact h, HE.out.2⟩
def Loc (w : World) (own : Nat → Prop) (gs : Nat) (ok : Nat → Prop) : Prop := ∀ k, ok k → ¬ own k ∧ k ≠ gs ∧ k < w.heap.size
section
variable {w w' w0 w1 w2 : World} {B : Nat} {own own' op ot ok : Nat → Prop} {gs na : Nat} {S : SS} {A : SA} {P X : List Int} {M : MS} {α : Type} {d : Kd α} {e base : Nat} {v : Value} {xs : List α}
theorem Loc.keep (h : Loc w own gs ok) (hk : Kept w w' (fun k => own k ∨ k = gs)) (ho : ∀ k, own' k → own k ∨ w.heap.size ≤ k) : Loc w' own' gs ok := fun k hk2 => by
  obtain ⟨g1, g2, g3⟩ := h k hk2
  exact ⟨fun h2 => (ho k h2).elim g1 (fun hl => by omega), g2, Nat.lt_of_lt_of_le g3 hk.1⟩
theorem Loc.row (h : Loc w own gs ok) (hk : Kept w w' (fun k => own k ∨ k = gs)) (hR : Kd.R d e w base ok v xs) : Kd.R d e w' base ok v xs :=
  Kd.R_step hR (fun k h1 h2 => hk.2 k h2 (fun hS => hS.elim (h k h1).1 (h k h1).2.1))
theorem Loc.below (h : Loc w own gs ok) (hb : Below w.heap.size w w') : Loc w' own gs ok := fun k hk => ⟨(h k hk).1, (h k hk).2.1, Nat.lt_of_lt_of_le (h k hk).2.2 hb.size⟩
theorem SG.loc (h : SG w B own gs S M) (hb : Below w.heap.size w w') : Loc w' own gs (fun k => w.heap.size ≤ k ∧ k < w'.heap.size) := fun k hk =>
  ⟨fun ho => by have := h.mem.2 k ho; have := hk.1; omega, by have := blk_lt h.shot; have := hk.1; omega, hk.2⟩
theorem outer (hb : Below w0.heap.size w0 w1) (hna : w0.heap.size ≤ na) (hot : ∀ k, ot k → w0.heap.size ≤ k) (h2 : (∀ k, own' k → own k ∨ w1.heap.size ≤ k) ∧ Kept w1 w2 (fun k => own k ∨ k = gs ∨ k = na ∨ ot k) ∧ Below B w1 w2) : (∀ k, own' k → own k ∨ w0.heap.size ≤ k) ∧ Kept w0 w2 (fun k => own k ∨ k = gs) :=
  ⟨fun k hk => (h2.1 k hk).imp id (Nat.le_trans hb.size), ⟨Nat.le_trans hb.size h2.2.1.1, fun i hi hn => (h2.2.1.2 i (Nat.lt_of_lt_of_le hi hb.size) (fun hS => by
    rcases hS with hS | hS | rfl | hS
    · exact hn (.inl hS)
    · exact hn (.inr hS)
    · omega
    · have := hot i hS; omega)).trans (hb.block i hi)⟩⟩
end
theorem port_num (a : Int) : ∃ m : Nat, m ≤ 63 ∧ IntKind.i64.wrap (Int.tmod (IntKind.u64.wrap a) 64) = (m : Int) ∧ IntKind.i64.wrap (1 + (m : Int)) = ((m + 1 : Nat) : Int) := by
  have h0 := u64_pos a
  have h1 := Int.tmod_nonneg 64 h0
  have h2 := Int.tmod_lt_of_pos (IntKind.u64.wrap a) (show (0 : Int) < 64 by decide)
  refine ⟨(Int.tmod (IntKind.u64.wrap a) 64).toNat, by omega, ?_, ?_⟩
  · rw [IntKind.wrap_i64]; omega
  · rw [IntKind.wrap_i64]; omega
set_option maxRecDepth 100000
structure S121 where
  f0 : Bool
  f1 : List Int
  f2 : List Int
def z121 : S121 := ⟨false, [], []⟩
instance : Inhabited S121 := ⟨z121⟩
def k121 : Kd S121 := Kd.iso (Kd.pair Kd.bool (Kd.pair (Kd.slice 3 (Kd.int .i64)) (Kd.slice 29 (Kd.int .u64)))) (fun x : S121 => (x.f0, x.f1, x.f2))
theorem k121_open {w : World} {x : S121} {cs : List Value} (h : k121.K w x cs) : ∃ A1 c1 A2 c2, cs = [.bool x.f0, .slice A1 x.f1.length c1, .slice A2 x.f2.length c2] ∧ (x.f1.length ≤ c1 ∧ Kd.C (Kd.int .i64) w A1 x.f1.length x.f1) ∧ x.f2.length ≤ c2 ∧ Kd.C (Kd.int .u64) w A2 x.f2.length x.f2 := by
  obtain ⟨d1, r1, rfl, h1, d2, r2, rfl, ⟨A1, c1, rfl, h3, h4⟩, A2, c2, rfl, h5, h6⟩ := h
  obtain rfl := h1
  exact ⟨A1, c1, A2, c2, rfl, ⟨h3, h4⟩, h5, h6⟩
def rd_T121 (xs : List S121) (i : Int) : S121 := xs.getD i.toNat z121
theorem at_T121 {w : World} {A : Option Addr} {n : Nat} {xs : List S121} (h : Kd.C k121 w A n xs) (i : Int) (h0 : 0 ≤ i) (h1 : i < n) : ∃ ad A1 c1 A2 c2, A = some ad ∧ w.cell? (ad.add (i.toNat * 3)) = some (.bool (rd_T121 xs i).f0) ∧ w.cell? ⟨(ad.add (i.toNat * 3)).block, (ad.add (i.toNat * 3)).off + 1, none⟩ = some (.slice A1 (rd_T121 xs i).f1.length c1) ∧ w.cell? ⟨(ad.add (i.toNat * 3)).block, (ad.add (i.toNat * 3)).off + 2, none⟩ = some (.slice A2 (rd_T121 xs i).f2.length c2) ∧ ((rd_T121 xs i).f1.length ≤ c1 ∧ Kd.C (Kd.int .i64) w A1 (rd_T121 xs i).f1.length (rd_T121 xs i).f1) ∧ (rd_T121 xs i).f2.length ≤ c2 ∧ Kd.C (Kd.int .u64) w A2 (rd_T121 xs i).f2.length (rd_T121 xs i).f2 := by
  obtain ⟨ad, c, e, _, hK, hc0⟩ := Kd.C_get h z121 i h0 h1
  have hc : ∀ j u, c[j]? = some u → w.cell? (ad.add (i.toNat * 3 + j)) = some u := hc0
  obtain ⟨A1, c1, A2, c2, rfl, h5, h6⟩ := k121_open hK
  exact ⟨ad, A1, c1, A2, c2, e, hc 0 _ rfl, by rw [← add_field _ _ 1 (by omega)]; exact hc 1 _ rfl, by rw [← add_field _ _ 2 (by omega)]; exact hc 2 _ rfl, h5, h6⟩
def RW (w : World) (base : Nat) (own : Nat → Prop) (gs gw : Nat) (T : List Int) : Prop :=
  ∃ (At : Option Addr) (ct : Nat) (ok : Nat → Prop), w.heap[gw]? = some (.cells #[.slice At T.length ct] 116 (0, 0)) ∧ Kd.R (Kd.int .u64) 29 w base ok (.slice At T.length ct) T ∧ Loc w own gs ok ∧ ¬ ok gw ∧ ¬ own gw ∧ gw ≠ gs
section
variable {w w' : World} {base : Nat} {own own' ok : Nat → Prop} {gs gw : Nat} {T X : List Int}
theorem RW.keep (h : RW w base own gs gw T) (hk : Kept w w' (fun k => own k ∨ k = gs)) (ho : ∀ k, own' k → own k ∨ w.heap.size ≤ k) : RW w' base own' gs gw T := by
  obtain ⟨At, ct, ok, h1, h2, h3, h4, h5, h6⟩ := h
  have hlt := blk_lt h1
  exact ⟨At, ct, ok, (hk.2 gw hlt (fun hS => hS.elim h5 h6)).trans h1, h3.row hk h2, h3.keep hk ho, h4, fun h => (ho gw h).elim h5 (fun hl => by omega), h6⟩
theorem RW.below (h : RW w base own gs gw T) (hb : Below w.heap.size w w') : RW w' base own gs gw T := by
  obtain ⟨At, ct, ok, h1, h2, h3, h4, h5, h6⟩ := h
  exact ⟨At, ct, ok, (hb.block gw (blk_lt h1)).trans h1, Kd.R_below h2 hb, h3.below hb, h4, h5, h6⟩
theorem RW.put {At : Option Addr} {ct : Nat} (h : RW w base own gs gw T) (hR : Kd.R (Kd.int .u64) 29 w base ok (.slice At X.length ct) X) (hl : Loc w own gs ok) (hg : ¬ ok gw) : RW (w.setCell ⟨gw, 0, none⟩ (.slice At X.length ct)) base own gs gw X := by
  obtain ⟨At0, ct0, ok0, h1, -, -, -, h5, h6⟩ := h
  have hk : Kept w (w.setCell ⟨gw, 0, none⟩ (.slice At X.length ct)) (fun k => k = gw) := (Kept.refl w (fun k => k = gw)).setCell (p := ⟨gw, 0, none⟩) (.inl rfl) _
  exact ⟨At, ct, ok, blk_put h1 0 _ rfl, Kd.R_step hR (fun k g1 g2 => hk.2 k g2 (fun e => hg (e ▸ g1))), fun k hk2 => ⟨(hl k hk2).1, (hl k hk2).2.1, Nat.lt_of_lt_of_le (hl k hk2).2.2 hk.1⟩, hg, h5, h6⟩
end
theorem tries_num (a : Int) : ∃ m : Nat, m ≤ 7 ∧ IntKind.i64.wrap (Int.tmod (IntKind.u64.wrap a) 8) = (m : Int) ∧ IntKind.i64.wrap (1 + (m : Int)) = ((m + 1 : Nat) : Int) := by
  have h0 := u64_pos a
  have h1 := Int.tmod_nonneg 8 h0
  have h2 := Int.tmod_lt_of_pos (IntKind.u64.wrap a) (show (0 : Int) < 8 by decide)
  refine ⟨(Int.tmod (IntKind.u64.wrap a) 8).toNat, by omega, ?_, ?_⟩
  · rw [IntKind.wrap_i64]; omega
  · rw [IntKind.wrap_i64]; omega
set_option maxRecDepth 100000
theorem wf30 {i : Nat} (h : i < 1000) : (Lit.int .i64 (i : Int)).wf = true := by
  exact WalkArith.wf_i64 (by omega)
structure AI (W w : World) (gm gs gw n tr : Nat) (own : Nat → Prop) (T : List Int) (L : List S128) (i j : Nat) : Prop where
  sg : SG w W.heap.size own gs ⟨gm, n, tr, 2 * (j : Int)⟩ (SM (2 * (j : Int)) T (-1) L)
  rf : RW w W.heap.size own gs gw T
  gB : W.heap.size ≤ gw
  lt : T.length = n
  ll : L.length ≤ i * 100
  ji : j ≤ i
  bel : Below W.heap.size W w
set_option maxHeartbeats 8000000 in
theorem SAlone_calls (s t : Int) (A1 : Option Addr) (c1 : Nat) (l1 : List S121) (W : World) (h1 : Kd.C k121 W A1 l1.length l1) :
    Calls Try.prog 14 #[.int .i64 s, .int .i64 t, .slice A1 l1.length c1] W fun e w' => e = .returned (.bool true) ∧ Below W.heap.size W w' := by
  obtain ⟨m, hm, e1, e2⟩ := port_num s
  obtain ⟨n, hn⟩ : ∃ n, n = m + 1 := ⟨_, rfl⟩
  rw [← hn] at e2
  obtain ⟨mt, hmt, e3, e4⟩ := tries_num t
  obtain ⟨tr, htr⟩ : ∃ n, n = mt + 1 := ⟨_, rfl⟩
  rw [← htr] at e4
  have HN := Aside0.mk (show n = m + 1 ∧ m ≤ 63 from ⟨hn, hm⟩)
  have H1 := Aside0.mk h1
  have m1 := h1.2.1
  have BG := Aside0.mk (fun w => sbegin_C n tr (by omega) (by omega) w)
  have hmk := fun W : World => run_make_row' (P := Try.prog) 44 29 (.int .u64 0) 8 Try.underlying44 info29 rfl .i64 .i64 n (by omega) (by omega) W
  clear h1 hm hn hmt htr
  go_enter Try.func14, Try.ntmps14
  go_upto_region 5 with (first | (go_at_call 65; ((refine (BG.out _).mono ?_); rintro e w1 ⟨gm, gs, own, rfl, hsg, hb⟩; have HS1 := Aside0.mk hsg; have HB1 := Aside0.mk hb; clear hsg hb)) | (go_at_call 66; ((refine (told13_C _).mono ?_); rintro e w2 ⟨rfl, hb⟩; have HS2 := Aside0.mk (HS1.out.below hb); have HB2 := Aside0.mk (below_step HB1.out hb); clear hb)))
  obtain ⟨T0, hT0⟩ : ∃ T0 : List Int, T0 = List.replicate n 0 := ⟨_, rfl⟩
  have hTn : T0.length = n := by rw [hT0, List.length_replicate]
  have HAI := Aside0.mk (show AI W ((w2.alloc (.cells (madeCells #[.int .u64 0] n) 29)).alloc (.cells #[.slice (some ⟨w2.heap.size, 0, none⟩) n n] 116)) gm gs (w2.heap.size + 1) n tr own T0 [] 0 0 from by
    have hR := R_made w2 W.heap.size n HB2.out.size (by have := HN.out; omega)
    rw [← hT0] at hR
    have hal := below_alloc (below_alloc (Below.refl w2.heap.size w2) (.cells (madeCells #[.int .u64 0] n) 29)) (.cells #[.slice (some ⟨w2.heap.size, 0, none⟩) n n] 116)
    have hz : (w2.alloc (.cells (madeCells #[.int .u64 0] n) 29)).heap.size = w2.heap.size + 1 := by simp
    have hbn := blk_new (w2.alloc (.cells (madeCells #[.int .u64 0] n) 29)) (.cells #[.slice (some ⟨w2.heap.size, 0, none⟩) n n] 116)
    rw [hz] at hbn
    have hsg := HS2.out.below hal
    rw [← hT0] at hsg
    have hgs := blk_lt HS2.out.shot
    refine ⟨hsg, ⟨some ⟨w2.heap.size, 0, none⟩, n, fun k => k = w2.heap.size, by rw [hTn]; exact hbn, by rw [hTn]; exact Kd.R_alloc hR _, fun k hk => ⟨fun ho => by have := HS2.out.mem.2 k ho; omega, by omega, by simp; omega⟩, by omega, fun ho => by have := HS2.out.mem.2 _ ho; omega, by omega⟩, by have := HB2.out.size; omega, hTn, Nat.le_refl _, Nat.le_refl _, below_step HB2.out hal⟩)
  go_upto_region 6 with fail
  generalize ew : (w2.alloc (.cells (madeCells #[.int .u64 0] n) 29)).alloc (.cells #[.slice (some ⟨w2.heap.size, 0, none⟩) n n] 116) = w3 at HAI ⊢
  generalize eg : w2.heap.size + 1 = gw at HAI ⊢
  clear HS1 HS2 HB1 HB2 BG hmk e1 e2 e3 e4 ew eg hT0 hTn
  go_wp2
  go_loopw [11] (fun v11 wr => ∃ i : Nat, v11 = .int .i64 (i : Int) ∧ Aside0 (i ≤ l1.length ∧ i ≤ 30 ∧ ∃ own T L j, AI W wr gm gs gw n tr own T L i j)) (fun v11 _ => (100 - intOf v11).toNat)
  case atStart => exact ⟨0, rfl, ⟨Nat.zero_le _, by omega, own, T0, [], 0, HAI.out⟩⟩
  case round =>
    clear HAI
    obtain ⟨i, rfl, HI⟩ := hrel
    obtain ⟨hi1, hi2, own1, T, L, j, hai⟩ := HI.out
    have HA := Aside0.mk hai
    clear hai HI
    by_cases hil : i < l1.length ∧ i < 30
    · obtain ⟨p1, p2⟩ := hil
      have d1 := decide_eq_true (show (i : Int) < (l1.length : Int) by omega)
      have d2 := decide_eq_true (show (i : Int) < (30 : Int) by omega)
      have q0 : (0 : Int) ≤ (i : Int) := by omega
      have q1 : (i : Int) < (l1.length : Int) := by omega
      have hwi : IntKind.i64.wrap ((i : Int) + 1) = (i : Int) + 1 := by rw [IntKind.wrap_i64]; omega
      obtain ⟨ad, Ap, cp, Aq, cq, rfl, hx0, hx1, hx2, ⟨hcp, hCp⟩, hcq, hCq⟩ := at_T121 (Kd.C_below H1.out HA.out.bel) (i : Int) q0 q1
      rw [Int.toNat_natCast] at hx0 hx1 hx2
      obtain ⟨⟨rb, PP, XX⟩, hjob⟩ : ∃ x, rd_T121 l1 (i : Int) = x := ⟨_, rfl⟩
      rw [hjob] at hx0 hx1 hx2 hcp hCp hcq hCq
      clear hjob
      have HP2 := Aside0.mk (show i < l1.length ∧ i < 30 from ⟨p1, p2⟩)
      have HJP := Aside0.mk (show PP.length ≤ cp ∧ Kd.C (Kd.int .i64) wr Ap PP.length PP from ⟨hcp, hCp⟩)
      have HJX := Aside0.mk (show XX.length ≤ cq ∧ Kd.C (Kd.int .u64) wr Aq XX.length XX from ⟨hcq, hCq⟩)
      replace hx0 : wr.cell? (ad.add (i * 3)) = some (.bool rb) := hx0
      replace hx1 : wr.cell? ⟨(ad.add (i * 3)).block, (ad.add (i * 3)).off + 1, none⟩ = some (.slice Ap PP.length cp) := hx1
      replace hx2 : wr.cell? ⟨(ad.add (i * 3)).block, (ad.add (i * 3)).off + 2, none⟩ = some (.slice Aq XX.length cq) := hx2
      clear hcp hCp hcq hCq p1 p2 hi1 hi2
      cases rb
      · obtain ⟨kf, X, hf, hX⟩ := fit_ok XX (n := n) (by have := HN.out; omega)
        have HX := Aside0.mk (show _ ∧ _ from ⟨hf, hX⟩)
        obtain ⟨At, ct, okT, hgw, -, -, -, hgo, hgs⟩ := HA.out.rf
        have hlt := blk_lt hgw
        have HGW := Aside0.mk (show (¬ own1 gw ∧ gw ≠ gs) ∧ gw < wr.heap.size from ⟨⟨hgo, hgs⟩, hlt⟩)
        have HBK := Aside0.mk hgw
        clear hf hX hgo hgs hgw
        go_upto_region 15 with (first | (go_at_call 67; ((refine (marchlandref13_Fit.calls kf Aq cq XX (n : Int) X _ HJX.out.2 HJX.out.1 HX.out.1).mono ?_); rintro e w4 ⟨v4, rfl, hr, hb⟩; obtain ⟨A4, n4, c4, rfl⟩ := R_any hr; obtain rfl : n4 = X.length := (Kd.R_reads' hr).1; have HR4 := Aside0.mk (Kd.R_mono (Kd.R_lower (Kd.R_bound hr) HA.out.bel.size) (ok' := fun k => wr.heap.size ≤ k ∧ k < w4.heap.size) (fun k hk => ⟨hk.2.1, hk.2.2.1⟩)); have HB4 := Aside0.mk hb; have hg4 : w4.heap[gw]? = some (.cells #[.slice At T.length ct] 116 (0, 0)) := (hb.block gw hlt).trans HBK.out; have hy4 : w4.cell? ⟨gw, 0, none⟩ = some (.slice At T.length ct) := (blk_cell hg4 0).trans rfl; have hz4 := blk_frozen hg4 0; have HG4 := Aside0.mk hg4; clear hr hb hg4)))
        have HL4 := HA.out.sg.loc HB4.out
        have hk5 : Kept w4 (w4.setCell ⟨gw, 0, none⟩ (.slice A4 X.length c4)) (fun k => k = gw) := (Kept.refl w4 (fun k => k = gw)).setCell (p := ⟨gw, 0, none⟩) (.inl rfl) _
        have HW5 := Aside0.mk ((HA.out.rf.below HB4.out).put HR4.out HL4 (fun h => by have := HGW.out.2; omega))
        have HS5 := Aside0.mk ((HA.out.sg.below HB4.out).keep hk5 (fun k e => .inr (by subst e; exact HGW.out.1)))
        have HR5 := Aside0.mk (Kd.R_step HR4.out (fun k g1 g2 => hk5.2 k g2 (fun e => by have := HGW.out.2; have := g1.1; omega)))
        have HE5 := Aside0.mk (((Below.refl W.heap.size w4).setCell (p := ⟨gw, 0, none⟩) HA.out.gB (.slice A4 X.length c4)))
        have hy5 : (w4.setCell ⟨gw, 0, none⟩ (.slice A4 X.length c4)).cell? ⟨gw, 0, none⟩ = some (.slice A4 X.length c4) := (blk_cell (blk_put HG4.out 0 (.slice A4 X.length c4) rfl) 0).trans rfl
        clear hy4 hz4 hk5 HL4 hx0 hx1 hx2
        generalize World.setCell _ _ _ = w5 at HW5 HS5 HR5 HE5 hy5 ⊢
        have PC := Aside0.mk (Publish_C (X := X) 0 A4 c4 HS5.out (Kd.R_reads' HR5.out).2.2 (Kd.R_reads' HR5.out).2.1 (Int.le_refl 0) (by rw [HX.out.2]) (by have := HX.out.2; have := HN.out; omega))
        go_upto_region 16 with (first | (go_at_call 68; ((refine PC.out.mono ?_); rintro e w6 ⟨na, vt, op, ot, rfl, hna, hsp, g1, g2, hb⟩; have HP6 := Aside0.mk hsp; have HO6 := Aside0.mk (show _ ∧ _ ∧ _ from ⟨hb, hna, g2⟩); clear hna hsp g1 g2 hb)))
        have OV := Aside0.mk (SOver_on (f := 99) HP6.out.a.act rfl)
        have FI := Aside0.mk (pub_finish (T := T) (v := 2 * (j : Int)) HP6.out rfl ⟨by omega, by have := HA.out.ji; have := HP2.out; omega⟩ rfl rfl ⟨Int.le_refl 0, show (Lit.int .i64 0).wf = true by decide⟩ ⟨HX.out.2.trans HA.out.lt.symm, by have := HX.out.2; have := HN.out; omega, by have := HX.out.2; have := HN.out; omega⟩ (by have := HA.out.ll; have := HP2.out; omega))
        obtain ⟨mk, hmk⟩ : ∃ mk : Nat, mk = L.length + X.length + 3 := ⟨_, rfl⟩
        have hm1 : ¬ (mk : Int) < 1 := by omega
        have hm2 := decide_eq_false hm1
        have HMK := Aside0.mk hmk
        clear hmk hy5
        go_wp2_with (first | (go_at_call 76; ((with_reducible refine OV.out.mono ?_); rintro e w7 ⟨rfl, hw⟩; obtain rfl := hw.symm)) | (go_at_call 69; ((with_reducible refine FI.out.mono ?_); rintro e w7 ⟨rfl, L7, hL7, o7, hsp7, hk7⟩; have HT7 := Aside0.mk (outer HO6.out.1 HO6.out.2.1 HO6.out.2.2 hk7); have HP7 := Aside0.mk hsp7; have HLL := Aside0.mk hL7; have HB7 := Aside0.mk ((below_step ((below_step HA.out.bel HB4.out).trans HE5.out) HO6.out.1).trans hk7.2.2); have TN := Aside0.mk (STimes_not hsp7.a.act rfl rfl); have MK := Aside0.mk (show Calls Try.prog 77 #[.pointer (some ⟨na, 0, none⟩)] w7 (fun e w' => e = .returned (.int .i64 (mk : Int)) ∧ w' = w7) from by have h := SMark_C hsp7.a.act; rw [HMK.out]; exact h); have HH := Aside0.mk (show Calls Try.prog 46 #[.pointer (some ⟨gm, 0, none⟩), .int .i64 1] w7 (fun e w' => e = .returned (.int .i64 (-1)) ∧ w' = w7) from Holder_C 1 hsp7.g.mem); clear hL7 hsp7 hk7)) | (go_at_call 74; ((with_reducible refine TN.out.mono ?_); rintro e w8 ⟨rfl, hw⟩; obtain rfl := hw.symm)) | (go_at_call 77; ((with_reducible refine MK.out.mono ?_); rintro e w8 ⟨rfl, hw⟩; obtain rfl := hw.symm)) | (go_at_call 46; ((with_reducible refine HH.out.mono ?_); rintro e w8 ⟨rfl, hw⟩; obtain rfl := hw.symm)))
        go_roundw
        case rel =>
          have e9 : 2 * (j : Int) + 1 + 1 = 2 * ((j + 1 : Nat) : Int) := by omega
          have hsg := HP7.out.g
          rw [e9] at hsg
          exact ⟨i + 1, by first | rfl | exact congrArg _ hwi, ⟨by have := HP2.out; omega, by have := HP2.out; omega, o7, X, L7, j + 1, ⟨hsg, HW5.out.keep HT7.out.2 HT7.out.1, HA.out.gB, HX.out.2, by have := HLL.out; have := HA.out.ll; have := HX.out.2; have := HN.out; omega, by have := HA.out.ji; omega, HB7.out⟩⟩⟩
        case measure => have := HP2.out; simp only [intOf]; omega
      · obtain ⟨ks, Q, hs, hQ1, hQ2, hQ3⟩ := some_ok PP (n := n) (by have := HN.out; omega)
        have HQ := Aside0.mk (show _ ∧ _ ∧ _ ∧ _ from ⟨hs, hQ1, hQ2, hQ3⟩)
        clear hs hQ1 hQ2 hQ3
        go_upto_region 11 with (first | (go_at_call 71; ((refine (marchlandref13_Some.calls ks Ap cp PP (n : Int) Q _ HJP.out.2 HJP.out.1 HQ.out.1).mono ?_); rintro e w4 ⟨v4, rfl, hr, hb⟩; obtain ⟨A4, n4, c4, rfl⟩ := R_any hr; obtain rfl : n4 = Q.length := (Kd.R_reads' hr).1; have HR4 := Aside0.mk (Kd.R_mono (Kd.R_bound hr) (ok' := fun k => wr.heap.size ≤ k ∧ k < w4.heap.size) (fun k hk => ⟨hk.2.1, hk.2.2.1⟩)); have HB4 := Aside0.mk hb; clear hr hb)))
        have HL4 := Aside0.mk (HA.out.sg.loc HB4.out)
        have HS4 := Aside0.mk (HA.out.sg.below HB4.out)
        have HW4 := Aside0.mk (HA.out.rf.below HB4.out)
        have HQT := Aside0.mk (show ∀ p ∈ Q, 0 ≤ p ∧ p < (T.length : Int) from by rw [HA.out.lt]; exact HQ.out.2.2.2)
        have RC := Aside0.mk (Read_C (P := Q) (i : Int) A4 c4 HS4.out (Kd.R_reads' HR4.out).2.2 (Kd.R_reads' HR4.out).2.1 q0 HQ.out.2.2.2 ⟨HQ.out.2.1, by have := HQ.out.2.2.1; omega⟩)
        go_upto_region 12 with (first | (go_at_call 72; ((refine RC.out.mono ?_); rintro e w5 ⟨na, vp, vt, op, ot, rfl, hna, hsp, g1, g2, hb⟩; have HP5 := Aside0.mk hsp; have HO5 := Aside0.mk (show _ ∧ _ ∧ _ from ⟨hb, hna, g2⟩); clear hna hsp g1 g2 hb)))
        have OV := Aside0.mk (SOver_on (f := 105) HP5.out.a.act rfl)
        have MK0 := Aside0.mk (show Calls Try.prog 77 #[.pointer (some ⟨na, 0, none⟩)] w5 (fun e w' => e = .returned (.int .i64 0) ∧ w' = w5) from SMark_C HP5.out.a.act)
        have TM0 := Aside0.mk (STimes_on (f := 105) HP5.out.a.act rfl)
        have FI := Aside0.mk (rd_finish (T := T) (v := 2 * (j : Int)) HP5.out (Int.mul_tmod_right 2 _) rfl ⟨q0, wf30 (by have := HP2.out; omega)⟩ ⟨List.length_replicate, HQ.out.2.1, by have := HQ.out.2.2.1; omega⟩ (by have := HA.out.lt; have := HN.out; omega) HQT.out (by have := HA.out.ll; have := HP2.out; omega))
        obtain ⟨mk, hmk⟩ : ∃ mk : Nat, mk = L.length + Q.length + 2 := ⟨_, rfl⟩
        have hm1 : ¬ (mk : Int) < 1 := by omega
        have hm2 := decide_eq_false hm1
        have HMK := Aside0.mk hmk
        clear hmk hx0 hx1 hx2
        go_wp2_with (first | (go_at_call 76; ((with_reducible refine OV.out.mono ?_); rintro e w6 ⟨rfl, hw⟩; obtain rfl := hw.symm)) | (go_at_call 77; ((with_reducible refine MK0.out.mono ?_); rintro e w6 ⟨rfl, hw⟩; obtain rfl := hw.symm)) | (go_at_call 74; ((with_reducible refine TM0.out.mono ?_); rintro e w6 ⟨rfl, hw⟩; obtain rfl := hw.symm)) | (go_at_call 69; ((with_reducible refine FI.out.mono ?_); rintro e w6 ⟨rfl, L6, hL6, o6, hsp6, hk6⟩; have HT6 := Aside0.mk (outer HO5.out.1 HO5.out.2.1 HO5.out.2.2 hk6); have HP6 := Aside0.mk hsp6; have HLL := Aside0.mk hL6; have HB6 := Aside0.mk ((below_step (below_step HA.out.bel HB4.out) HO5.out.1).trans hk6.2.2); have TI := Aside0.mk (STimes_C hsp6.a rfl rfl (by rw [readV_len]; have := HQ.out.2.2.1; omega)); clear hL6 hsp6 hk6)) | (go_at_call 74; ((with_reducible refine TI.out.mono ?_); rintro e w7 ⟨v7, rfl, hr, hb⟩; obtain ⟨A7, n7, c7, rfl⟩ := R_any hr; obtain rfl : n7 = (readV T Q).length := (Kd.R_reads' hr).1; have HR7 := Aside0.mk hr; have HB7 := Aside0.mk hb; have RD := Aside0.mk (by obtain ⟨At, ct, okT, f1, f2, f3, f4, f5, f6⟩ := (HW4.out.keep HT6.out.2 HT6.out.1).below hb; exact SRead_C (cp := c4) T Q w7 ((blk_cell f1 0).trans rfl) (Kd.R_reads' f2).2.2 (Kd.C_below (Kd.R_reads' (HL4.out.row HT6.out.2 HR4.out)).2.2 hb) HQT.out ⟨by have := HQ.out.2.2.1; omega, by have := HA.out.lt; have := HN.out; omega⟩); clear hr hb)) | (go_at_call 75; ((with_reducible refine RD.out.mono ?_); rintro e w8 ⟨v8, rfl, hr, hb⟩; obtain ⟨A8, n8, c8, rfl⟩ := R_any hr; obtain rfl : n8 = (readV T Q).length := (Kd.R_reads' hr).1; have HB8 := Aside0.mk (below_step HB7.out hb); have SAM := Aside0.mk (Same13_C (readV T Q) w8 (Kd.C_below (Kd.R_reads' HR7.out).2.2 hb) (Kd.R_reads' HR7.out).2.1 (Kd.R_reads' hr).2.2 (Kd.R_reads' hr).2.1 (by rw [readV_len]; have := HQ.out.2.2.1; omega)); clear hr hb)) | (go_at_call 73; ((with_reducible refine SAM.out.mono ?_); rintro e w9 ⟨rfl, hb⟩; have HB9 := Aside0.mk (below_step HB8.out hb); have HP9 := Aside0.mk (HP6.out.below HB9.out); have VA := Aside0.mk (SVain_C HP9.out.a.act); have MK := Aside0.mk (show Calls Try.prog 77 #[.pointer (some ⟨na, 0, none⟩)] w9 (fun e w' => e = .returned (.int .i64 (mk : Int)) ∧ w' = w9) from by have h := SMark_C HP9.out.a.act; rw [HMK.out]; exact h); have HH := Aside0.mk (show Calls Try.prog 46 #[.pointer (some ⟨gm, 0, none⟩), .int .i64 1] w9 (fun e w' => e = .returned (.int .i64 (-1)) ∧ w' = w9) from Holder_C 1 HP9.out.g.mem); clear hb)) | (go_at_call 70; ((with_reducible refine VA.out.mono ?_); rintro e w10 ⟨rfl, hw⟩; obtain rfl := hw.symm)) | (go_at_call 77; ((with_reducible refine MK.out.mono ?_); rintro e w10 ⟨rfl, hw⟩; obtain rfl := hw.symm)) | (go_at_call 46; ((with_reducible refine HH.out.mono ?_); rintro e w10 ⟨rfl, hw⟩; obtain rfl := hw.symm)))
        go_roundw
        case rel => exact ⟨i + 1, by first | rfl | exact congrArg _ hwi, ⟨by have := HP2.out; omega, by have := HP2.out; omega, o6, T, L6, j, ⟨HP9.out.g, (HW4.out.keep HT6.out.2 HT6.out.1).below HB9.out, HA.out.gB, HA.out.lt, by have := HLL.out; have := HA.out.ll; have := HQ.out.2.2.1; omega, by have := HA.out.ji; omega, below_step HB6.out HB9.out⟩⟩⟩
        case measure => have := HP2.out; simp only [intOf]; omega
    · have HE := Aside0.mk (show Below W.heap.size W wr from HA.out.bel)
      have hc2 : (i < l1.length ∧ ¬ i < 30) ∨ ¬ i < l1.length := by omega
      clear hil
      rcases hc2 with ⟨g1, g2⟩ | g1
      · have d1 := decide_eq_true (show (i : Int) < (l1.length : Int) by omega)
        have d2 := decide_eq_false (show ¬ (i : Int) < (30 : Int) by omega)
        go_wp2
        go_ret
        exact ⟨rfl, HE.out⟩
      · have d1 := decide_eq_false (show ¬ (i : Int) < (l1.length : Int) by omega)
        go_wp2
        go_ret
        exact ⟨rfl, HE.out⟩
open Go.RowKit Go.Proofs.YtlcnckbmolefpaaW.PrintWords Go.Proofs.YtlcnckbmolefpaaW.PrintLast Go.Proofs.YtlcnckbmolefpaaW.PrintMore
open Go.ChangeShapes Go.WideShapes Go.Deep
def Opens (P : Program) (t : TypeId) {α : Type} (d : Kd α) (q : α → Prop) : Prop :=
  ∀ (H : Type) (enc : TypeId × Value → H) (w : World) (base : Nat) (spare : Nat → Bool) (held : Bool) (fuel : Nat) (cs : List Value) (x : DataW H × List MemPlace),
    DataW.trod enc P w base spare held fuel t cs = some x → ∃ y : α, d.K w y cs ∧ q y
theorem Opens.int {P : Program} {t : TypeId} {k : IntKind} (hu : P.underlying t = some (.int k)) : Opens P t (Kd.int k) (fun n => (Lit.int k n).wf = true) := by
  intro H enc w base spare held fuel cs x h
  obtain ⟨n, rfl, _, hw⟩ := DataW.trod_int hu h
  exact ⟨n, rfl, hw⟩
theorem Opens.bool {P : Program} {t : TypeId} (hu : P.underlying t = some .bool) : Opens P t Kd.bool (fun _ => True) := by
  intro H enc w base spare held fuel cs x h
  obtain ⟨b, rfl, _⟩ := DataW.trod_bool hu h
  exact ⟨b, rfl, trivial⟩
theorem Opens.imp {P : Program} {t : TypeId} {α : Type} {d : Kd α} {q q' : α → Prop} (h : Opens P t d q) (hq : ∀ y, q y → q' y) : Opens P t d q' := by
  intro H enc w base spare held fuel cs x hx
  obtain ⟨y, h1, h2⟩ := h H enc w base spare held fuel cs x hx
  exact ⟨y, h1, hq y h2⟩
theorem Opens.iso {P : Program} {t : TypeId} {α β : Type} {d : Kd α} {q : α → Prop} (h : Opens P t d q) (f : β → α) (g : α → β) (hfg : ∀ y, f (g y) = y) : Opens P t (Kd.iso d f) (fun x => q (f x)) := by
  intro H enc w base spare held fuel cs x hx
  obtain ⟨y, h1, h2⟩ := h H enc w base spare held fuel cs x hx
  refine ⟨g y, ?_, by show q (f (g y)); rw [hfg]; exact h2⟩
  show d.K w (f (g y)) cs
  rw [hfg]; exact h1
theorem Opens.slice {P : Program} {t e : TypeId} {α : Type} [Inhabited α] {d : Kd α} {q : α → Prop} (hu : P.underlying t = some (.slice e)) (hc : P.cellsOf e = d.sz) (h : Opens P e d q) : Opens P t (Kd.slice e d) (fun l => l.length ≤ maxLen ∧ ∀ y ∈ l, q y) := by
  intro H enc w base spare held fuel cs x hx
  rcases open_slice hu hx with ⟨rfl, _⟩ | ⟨a, len, cap, m, n, D, Pl, rfl, hb, hl, hm, hmm, _, hel⟩
  · exact ⟨[], ⟨none, 0, rfl, Nat.le_refl _, rfl, Nat.zero_le _, fun h => absurd h (by simp)⟩, Nat.zero_le _, fun y hy => by simp at hy⟩
  · have hlm : len ≤ m := by rw [hmm]; split <;> omega
    obtain ⟨Y, hY⟩ := choose_lt (α := α) (n := len) (p := fun i y => ∃ cs', w.cells? base (a.add (i * P.cellsOf e)) (P.cellsOf e) = some cs' ∧ d.K w y cs' ∧ q y) (fun i hi => by
      obtain ⟨cs', h1, h2⟩ := hel i (by omega)
      obtain ⟨y, h3, h4⟩ := h H enc w base spare held n cs' _ h2
      exact ⟨y, cs', h1, h3, h4⟩)
    have hlen : ((List.range len).map Y).length = len := by simp
    refine ⟨(List.range len).map Y, ⟨some a, cap, by rw [hlen], by rw [hlen]; exact hl, rfl, ?_, fun _ => ⟨a, rfl, fun j p hj => ?_⟩⟩, ?_, fun y hy => ?_⟩
    · rw [hlen]; unfold maxLen at hm; omega
    · obtain ⟨hjl, hje⟩ := List.getElem?_eq_some_iff.1 hj
      rw [hlen] at hjl
      have hpj : p = Y j := by rw [← hje]; simp
      obtain ⟨cs', h1, h3, _⟩ := hY j hjl
      obtain ⟨_, hcl, hcc⟩ := World.cells?_some h1
      refine ⟨cs', d.K_len h3, by rw [hpj]; exact h3, fun i u hu2 => ?_⟩
      have hi := (List.getElem?_eq_some_iff.1 hu2).1
      rw [d.K_len h3] at hi
      have h5 := hcc i (by rw [hc]; exact hi)
      rw [hc, Go.Deep.add_add] at h5
      rw [h5, ← hu2]
    · rw [hlen]; omega
    · obtain ⟨j, hj, rfl⟩ := List.mem_map.1 hy
      obtain ⟨_, _, _, h4⟩ := hY j (List.mem_range.1 hj)
      exact h4
def OpensSeg (P : Program) (fs : List Field) (off : Nat) {α : Type} (d : Kd α) (q : α → Prop) : Prop :=
  ∀ (H : Type) (enc : TypeId × Value → H) (w : World) (base : Nat) (spare : Nat → Bool) (held : Bool) (fuel : Nat) (cs : List Value), cs.length = d.sz →
    (∀ f ∈ fs, ∃ x : DataW H × List MemPlace, DataW.trod enc P w base spare held fuel f.type ((cs.drop (f.offset - off)).take (P.cellsOf f.type)) = some x) → ∃ y : α, d.K w y cs ∧ q y
theorem OpensSeg.one {P : Program} {f : Field} {off : Nat} {α : Type} {d : Kd α} {q : α → Prop} (ho : f.offset = off) (hc : P.cellsOf f.type = d.sz) (h : Opens P f.type d q) : OpensSeg P [f] off d q := by
  intro H enc w base spare held fuel cs hl hf
  obtain ⟨x, hx⟩ := hf f List.mem_cons_self
  rw [ho, Nat.sub_self, List.drop_zero, hc, ← hl, List.take_length] at hx
  exact h H enc w base spare held fuel cs x hx
theorem OpensSeg.cons {P : Program} {f : Field} {fs : List Field} {off : Nat} {α β : Type} {d : Kd α} {d2 : Kd β} {q : α → Prop} {q2 : β → Prop} (ho : f.offset = off) (hc : P.cellsOf f.type = d.sz) (hm : ∀ g ∈ fs, off + d.sz ≤ g.offset) (h : Opens P f.type d q) (h2 : OpensSeg P fs (off + d.sz) d2 q2) :
    OpensSeg P (f :: fs) off (Kd.pair d d2) (fun y => q y.1 ∧ q2 y.2) := by
  intro H enc w base spare held fuel cs hl hf
  have hl' : cs.length = d.sz + d2.sz := hl
  obtain ⟨x, hx⟩ := hf f List.mem_cons_self
  rw [ho, Nat.sub_self, List.drop_zero, hc] at hx
  obtain ⟨y, h3, h4⟩ := h H enc w base spare held fuel _ x hx
  obtain ⟨y2, h5, h6⟩ := h2 H enc w base spare held fuel (cs.drop d.sz) (by rw [List.length_drop]; omega) (fun g hg => by
    obtain ⟨x2, hx2⟩ := hf g (List.mem_cons_of_mem _ hg)
    refine ⟨x2, ?_⟩
    have := hm g hg
    rw [List.drop_drop, show d.sz + (g.offset - (off + d.sz)) = g.offset - off by omega]
    exact hx2)
  exact ⟨(y, y2), ⟨cs.take d.sz, cs.drop d.sz, (List.take_append_drop _ _).symm, h3, h5⟩, h4, h6⟩
theorem Opens.struct {P : Program} {t : TypeId} {fs : Array Field} {α : Type} {d : Kd α} {q : α → Prop} (hu : P.underlying t = some (.struct fs)) (hc : P.cellsOf t = d.sz) (h : OpensSeg P fs.toList 0 d q) : Opens P t d q := by
  intro H enc w base spare held fuel cs x hx
  obtain ⟨xs, n, rfl, _, hl, hxs, hf⟩ := DataW.trod_struct hu hx
  refine h H enc w base spare held n cs (by rw [hl, hc]) (fun f hf2 => ?_)
  obtain ⟨i, hi, rfl⟩ := List.getElem_of_mem hf2
  have h1 := hf i fs.toList[i] (by rw [Array.getElem?_eq_getElem (by simpa using hi)]; simp)
  have hi2 : i < fs.size := by simpa using hi
  rw [List.getElem?_eq_getElem (by omega)] at h1
  exact ⟨_, by rw [Nat.sub_zero]; exact h1⟩
theorem Opens.arg {P : Program} {t e : TypeId} {α : Type} {d : Kd α} {q : List α → Prop} (ho : Opens P t (Kd.slice e d) q) {H : Type} {enc : TypeId × Value → H} {w : World} {base : Nat} {spare : Nat → Bool} {held : Bool} {a : Option Addr} {len cap : Nat} {D : DataW H} {ps : List MemPlace} (h : DataW.Trod enc P w base spare held t (.slice a len cap) D ps) :
    ∃ l : List α, len = l.length ∧ Kd.C d w a l.length l ∧ l.length ≤ cap ∧ q l := by
  obtain ⟨fuel, hf⟩ := h
  obtain ⟨l, ⟨A, c, he, hlc, hC⟩, hq⟩ := ho H enc w base spare held fuel _ _ hf
  simp [Value.cells] at he
  obtain ⟨rfl, rfl, rfl⟩ := he
  exact ⟨l, rfl, hC, hlc, hq⟩
theorem sized_slice_any {H : Type} {enc : TypeId × Value → H} {P : Program} {W : World} {base : Nat} {spare : Nat → Bool} {held : Bool} {t e : TypeId} {a : Option Addr} {len cap : Nat} {d : DataW H} {ps : List MemPlace} {ts : List TypeId} {ds : List (DataW H)} {j : Nat}
    (hsz : (DataW.weightsEach P ts ds).all (· ≤ reachBytes) = true) (ht : ts[j]? = some t) (hd : ds[j]? = some d) (hu : P.underlying t = some (.slice e)) {B : Nat} (hB : P.bytesOf e = B)
    (h : DataW.Trod enc P W base spare held t (.slice a len cap) d ps) : len * B ≤ 140737488351232 := by
  obtain ⟨fuel, hf⟩ := h
  rcases open_slice hu hf with ⟨hcs, _⟩ | ⟨x, l, c, m, n, D, Pl, hcs, _, hl, _, hm, hx, _⟩
  · simp [Value.cells] at hcs
    obtain ⟨rfl, rfl, rfl⟩ := hcs
    simp
  · simp [Value.cells] at hcs
    obtain ⟨rfl, rfl, rfl⟩ := hcs
    obtain ⟨hx, _⟩ := Prod.mk.inj hx
    subst hx
    have z := sized_slice hsz ht hd hu
    rw [hB] at z
    have h1 : len ≤ ((List.range len).map D).length + ((List.range (m - len)).map fun j => D (len + j)).length := by simp
    exact Nat.le_trans (Nat.mul_le_mul_right _ h1) z
theorem opens_i64 {P : Program} {t : TypeId} (hu : P.underlying t = some (.int .i64)) : Opens P t (Kd.int .i64) (fun n => -9223372036854775808 ≤ n ∧ n ≤ 9223372036854775807) := (Opens.int hu).imp fun _ h => bounds_i64 h
theorem opens_u64 {P : Program} {t : TypeId} (hu : P.underlying t = some (.int .u64)) : Opens P t (Kd.int .u64) (fun n => 0 ≤ n ∧ n ≤ 18446744073709551615) := (Opens.int hu).imp fun _ h => bounds_u64 h
theorem opens25 : Opens Try.prog 25 (Kd.slice 3 (Kd.int .i64)) (fun l => l.length ≤ maxLen ∧ ∀ y ∈ l, -9223372036854775808 ≤ y ∧ y ≤ 9223372036854775807) := Opens.slice Try.underlying25 (by kernel_rfl) (opens_i64 Try.underlying3)
instance : Inhabited S127 := ⟨z127⟩
theorem opens_bool {P : Program} {t : TypeId} (hu : P.underlying t = some .bool) : Opens P t Kd.bool (fun _ => True) := (Opens.bool hu).imp fun _ _ => trivial
open Go.RowKit Go.Proofs.YtlcnckbmolefpaaW.PrintWords
theorem opens44 : Opens Try.prog 44 (Kd.slice 29 (Kd.int .u64)) (fun l => l.length ≤ maxLen ∧ ∀ y ∈ l, 0 ≤ y ∧ y ≤ 18446744073709551615) := Opens.slice Try.underlying44 (by kernel_rfl) (opens_u64 Try.underlying29)
theorem opens121 : Opens Try.prog 121 k121 (fun _ => True) :=
  (Opens.iso (Opens.struct (d := Kd.pair Kd.bool (Kd.pair (Kd.slice 3 (Kd.int .i64)) (Kd.slice 29 (Kd.int .u64)))) Try.underlying121 (by kernel_rfl)
    (OpensSeg.cons rfl (by kernel_rfl) (by decide) (opens_bool Try.underlying4) (OpensSeg.cons rfl (by kernel_rfl) (by decide) opens25 (OpensSeg.one rfl (by kernel_rfl) opens44))))
    (fun x : S121 => (x.f0, x.f1, x.f2)) (fun y => ⟨y.1, y.2.1, y.2.2⟩) (fun _ => rfl)).imp fun _ _ => trivial
theorem opens119 : Opens Try.prog 119 (Kd.slice 121 k121) (fun l => l.length ≤ maxLen ∧ ∀ y ∈ l, True) := Opens.slice Try.underlying119 (by kernel_rfl) opens121
def marchlandlaw13_ShotAlone.f (_k : Nat) (_a _b : Int) (_l : List S121) : Option Bool := some true
theorem marchlandlaw13_ShotAlone.calls (k : Nat) (a b : Int) (A2 : Option Addr) (c2 : Nat) (l2 : List S121) (r : Bool) (w : World)
    (hC2 : Kd.C k121 w A2 l2.length l2) (hc2 : l2.length ≤ c2) (h : marchlandlaw13_ShotAlone.f k a b l2 = some r) :
    Calls Try.prog 14 #[.int .i64 a, .int .i64 b, .slice A2 l2.length c2] w fun e w' => e = .returned (.bool r) ∧ Below w.heap.size w w' := by
  obtain rfl := Option.some.inj h
  exact SAlone_calls a b A2 c2 l2 w hC2
end Go.Proofs.Ytlcnckbmolefpaa.P
namespace Go.Proofs.Ytlcnckbmolefpaa.Pure
theorem ShotAlone (a b : Int) (l2 : List P.S121) : ∃ k, P.marchlandlaw13_ShotAlone.f k a b l2 = some true := ⟨0, rfl⟩
end Go.Proofs.Ytlcnckbmolefpaa.Pure
end
