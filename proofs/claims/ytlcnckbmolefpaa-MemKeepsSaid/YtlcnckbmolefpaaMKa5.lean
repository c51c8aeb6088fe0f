/- Walks and laws of several statements of this seat, joined into one text; no condition. -/
import Derived.Test.YtlcnckbmolefpaaProg
import Derived.Below
import Derived.Deep.Draws
import Derived.Deep.AppendLies
import Derived.Maps.AppendAt
import Derived.OwnWalk
import Derived.Laws.BytesArg
import Derived.Laws.MakeOwn
import Derived.Laws.OwnMore
import Derived.Deep.OwnRows
import Derived.Tactics
import Derived.Lib.ConvBytes
import Derived.Laws.Slices
import Derived.WalkKit
import Derived.KernelRfl
import Derived.RowKit3
import Derived.Deep.LoopGhost
import Derived.Deep.QuietTactic
import Derived.BigQuiet
import Derived.WideLaws
import Derived.Deep.DeepCutAuto
import Derived.Deep.CutBlock
import Derived.Deep.RegionHeld3
import Derived.Laws.Rows
import Derived.Lib.AppendStr
import Derived.ArgAppend
import Derived.Laws.IdiomCopy
import Derived.OrdersHeld
import Derived.Laws.BitsLemmas
import Derived.RowKit
import Derived.Laws.StructEq
import Derived.Maps.RangeWalk
import Derived.Maps.OwnRows
import Derived.Maps.Views
import Derived.Maps.OwnSet
import Derived.IntWalk
import Derived.Shelf.SlMaps.Clone
import Derived.Laws.CopyOwn
import Derived.Deep.RegionLaw
import Derived.LoopTactic
import Derived.Outline
import Derived.Lib.BufferMore
import Derived.Deep.CutRange
import Derived.Deep.Slices
import Derived.SizedLaws
import Derived.OpenShut
import Derived.Lib.SmallJoins
import Derived.Test.YtlcnckbmolefpaaMKa0
import Derived.Test.YtlcnckbmolefpaaMKa1
import Derived.Test.YtlcnckbmolefpaaMKa2
import Derived.Test.YtlcnckbmolefpaaMKa4
section
namespace Go.Proofs.Ytlcnckbmolefpaa.P
open Go.RowKit Go.Maps Go.Proofs.Ytlcnckbmolefpaa.CK Go.Proofs.Ytlcnckbmolefpaa.Pure Go.Proofs.YtlcnckbmolefpaaW.PrintWords Go.Proofs.YtlcnckbmolefpaaW.PrintLast Go.Proofs.YtlcnckbmolefpaaW.PrintMore
set_option linter.unusedVariables false
set_option linter.unusedSimpArgs false
set_option maxRecDepth 100000
theorem KS.start {W w w' : World} {own : Nat → Prop} {g : Nat} {L : List S128} (hm : MemC w W.heap.size own g (KeepM (List.replicate 5 0) (List.replicate 5 []) L)) (hb : Below W.heap.size W w) (e : w' = (w.alloc (.cells #[.int .u64 0, .int .u64 0, .int .u64 0, .int .u64 0, .int .u64 0] 50)).alloc (.cells #[.slice none 0 0, .slice none 0 0, .slice none 0 0, .slice none 0 0, .slice none 0 0] 52)) :
    KS W w' own g w.heap.size (w.heap.size + 1) (List.replicate 5 0) (List.replicate 5 []) (List.replicate 5 0) (List.replicate 5 []) (List.replicate 5 (.slice none 0 0)) L := by
  subst e
  have b1 := below_alloc (Below.refl w.heap.size w) (.cells #[.int .u64 0, .int .u64 0, .int .u64 0, .int .u64 0, .int .u64 0] 50)
  have s1 : (w.alloc (.cells #[.int .u64 0, .int .u64 0, .int .u64 0, .int .u64 0, .int .u64 0] 50)).heap.size = w.heap.size + 1 := by simp
  have b2 := below_alloc b1 (.cells #[.slice none 0 0, .slice none 0 0, .slice none 0 0, .slice none 0 0, .slice none 0 0] 52)
  refine ⟨hm.below b2, below_step hb b2, fun ho => absurd (hm.2 _ ho) (Nat.lt_irrefl _), fun ho => by have := hm.2 _ ho; omega, by omega, hb.size, by have := hb.size; omega, ?_, ?_, by simp, ⟨by simp, by simp, fun i hi => ⟨none, 0, ?_, ?_, ?_⟩⟩⟩
  · exact blk_alloc (blk_new w _) _
  · have h := blk_new (w.alloc (.cells #[.int .u64 0, .int .u64 0, .int .u64 0, .int .u64 0, .int .u64 0] 50)) (.cells #[.slice none 0 0, .slice none 0 0, .slice none 0 0, .slice none 0 0, .slice none 0 0] 52)
    rw [s1] at h
    exact h
  · have e1 : (List.replicate 5 ([] : List S143)).getD i [] = [] := by rw [List.getD_eq_getElem?_getD, List.getElem?_replicate, if_pos hi]; rfl
    rw [e1, List.getElem?_replicate, if_pos hi]; rfl
  · have e1 : (List.replicate 5 ([] : List S143)).getD i [] = [] := by rw [List.getD_eq_getElem?_getD, List.getElem?_replicate, if_pos hi]; rfl
    rw [e1]; exact Nat.le_refl _
  · have e1 : (List.replicate 5 ([] : List S143)).getD i [] = [] := by rw [List.getD_eq_getElem?_getD, List.getElem?_replicate, if_pos hi]; rfl
    rw [e1]; exact Kd.F_nil _ _ _
theorem KeepM.facts (ws : List Int) (bs : List (List S143)) (L : List S128) (hw : ws.length = 5) (hb : bs.length = 5) (i : Int) (k : Nat) (hi : 0 ≤ i) (hk : k < 5) (x : Int) (X : List S143) :
    (KeepM ws bs L).store i k x = KeepM (ws.set k x) bs (L ++ [⟨i, 1, k, true⟩]) ∧ (KeepM ws bs L).set_ i k X = KeepM ws (bs.set k X) (L ++ [⟨i, 3, k, true⟩]) ∧ (KeepM ws bs L).loadTo i k = KeepM ws bs (L ++ [⟨i, 0, k, true⟩]) ∧ (KeepM ws bs L).load i k = ws.getD k 0 ∧ (KeepM ws bs L).getTo i k = KeepM ws bs (L ++ [⟨i, 2, k, true⟩]) ∧ (KeepM ws bs L).get i k = bs.getD k [] := by
  have f1 : (KeepM ws bs L).fits i k ((KeepM ws bs L).words.length : Int) = true := by
    show MS.fits _ i k ((ws.length : Nat) : Int) = true
    simp [KeepM, MS.fits, hi, hw]; omega
  have f2 : (KeepM ws bs L).fits i k ((KeepM ws bs L).boxes.length : Int) = true := by
    show MS.fits _ i k ((bs.length : Nat) : Int) = true
    simp [KeepM, MS.fits, hi, hb]; omega
  refine ⟨?_, ?_, ?_, ?_, ?_, ?_⟩
  · unfold MS.store; rw [f1]; rfl
  · unfold MS.set_; rw [f2]; rfl
  · unfold MS.loadTo; rw [f1]; rfl
  · unfold MS.load; rw [f1]; rfl
  · unfold MS.getTo; rw [f2]; rfl
  · unfold MS.get; rw [f2]; rfl
set_option maxHeartbeats 4000000 in
theorem Keeps_calls (A0 A1 A2 : Option Addr) (c0 c1 c2 : Nat) (l0 : List Int) (l1 : List (List S140)) (l2 : List Int) (W : World) (h0 : Kd.C (Kd.int .u64) W A0 l0.length l0) (h1 : Kd.C (Kd.slice 140 k140) W A1 l1.length l1) (h2 : Kd.C (Kd.int .i64) W A2 l2.length l2) :
    Calls Try.prog 7 #[.slice A0 l0.length c0, .slice A1 l1.length c1, .slice A2 l2.length c2] W fun e w' => e = .returned (.bool true) ∧ Below W.heap.size W w' := by
  have H0 := Aside0.mk h0
  have H1 := Aside0.mk h1
  have H2 := Aside0.mk h2
  have m0 := h0.2.1
  have m1 := h1.2.1
  have m2 := h2.2.1
  clear h0 h1 h2
  go_enter Try.func7, Try.ntmps7
  go_wp2_with (first | (go_at_call 30; ((refine (New_C 5 5 0 (by decide) (by decide) (by decide) _).mono ?_); rintro e w1 ⟨g, own0, rfl, hm, -, hb⟩; have HM := Aside0.mk (show MemC w1 W.heap.size own0 g (KeepM (List.replicate 5 0) (List.replicate 5 []) []) from hm); have HB := Aside0.mk hb; clear hm hb)) | (go_at_call 31; (with_reducible refine (told8_calls _).mono ?_); rintro e w2 ⟨rfl, hb2⟩; have HB1 := Aside0.mk (below_step HB.out hb2); have HM1 := Aside0.mk (HM.out.below hb2); clear hb2 HB HM; have HB := HB1; have HM := HM1; clear HB1 HM1))
  have HK := Aside0.mk (KS.start HM.out HB.out rfl)
  clear HM HB
  generalize w2.heap.size = n1 at HK ⊢
  go_loopw [11] (fun v11 wr => ∃ i : Nat, v11 = .int .i64 (i : Int) ∧ Aside0 (i ≤ l2.length ∧ i ≤ 100 ∧ ∃ own ws bs vs L, KS W wr own g n1 (n1 + 1) ws bs ws bs vs L ∧ L.length ≤ 5 * i ∧ ∀ b ∈ bs, b.length ≤ 12)) (fun v11 _ => (100 - intOf v11).toNat)
  case atStart => exact ⟨0, rfl, ⟨by omega, by omega, _, _, _, _, _, HK.out, by simp, fun b hb => by rw [(List.mem_replicate.1 hb).2]; simp⟩⟩
  case round =>
    clear HK
    obtain ⟨i, rfl, HI⟩ := hrel
    obtain ⟨hi1, hi2, own, ws, bs, vs, L, hks, hL, hbs⟩ := HI.out
    have HK := Aside0.mk hks
    have HL := Aside0.mk hL
    have HBS := Aside0.mk hbs
    clear hks hL hbs HI
    by_cases hil : i < l2.length ∧ i < 100
    · obtain ⟨p1, p2⟩ := hil
      have d1 := decide_eq_true (show (i : Int) < (l2.length : Int) by omega)
      have d2 := decide_eq_true (show (i : Int) < (100 : Int) by omega)
      have q0 : (0 : Int) ≤ (i : Int) := by omega
      obtain ⟨ad2, rfl, hx2⟩ := Kd.at_int (Kd.C_below H2.out HK.out.bel) (i : Int) q0 (by omega)
      rw [Int.toNat_natCast] at hx2
      obtain ⟨kk, hkk, hk5⟩ : ∃ kk : Nat, Int.tmod (IntKind.u64.wrap (rd l2 (i : Int))) 5 = (kk : Int) ∧ kk < 5 := by
        have a := Int.tmod_nonneg 5 (u64_pos (rd l2 (i : Int)))
        have b := Int.tmod_lt_of_pos (IntKind.u64.wrap (rd l2 (i : Int))) (show (0 : Int) < 5 by omega)
        exact ⟨(Int.tmod (IntKind.u64.wrap (rd l2 (i : Int))) 5).toNat, by omega, by omega⟩
      have ek : IntKind.i64.wrap (kk : Int) = (kk : Int) := by rw [IntKind.wrap_i64]; omega
      have e4 : IntKind.i64.wrap (4 - (kk : Int)) = ((4 - kk : Nat) : Int) := by rw [IntKind.wrap_i64]; omega
      have hw : IntKind.i64.wrap ((i : Int) + 1) = (i : Int) + 1 := by rw [IntKind.wrap_i64]; omega
      have WI := Aside0.mk (show (Lit.int .i64 (i : Int)).wf = true from WalkArith.wf_i64 (by omega))
      go_upto_region 10 with fail
      clear hx2 hkk
      by_cases hA : i < l0.length
      · have dA := decide_eq_true (show (i : Int) < (l0.length : Int) by omega)
        obtain ⟨ad0, rfl, hx0⟩ := Kd.at_int (Kd.C_below H0.out HK.out.bel) (i : Int) q0 (by omega)
        rw [Int.toNat_natCast] at hx0
        have HL1 := Aside0.mk (show (KeepM ws bs L).log.length ≤ 1000000 from by show L.length ≤ 1000000; have := HL.out; omega)
        have FX := Aside0.mk ((KeepM.facts ws bs L HK.out.l1 HK.out.bx.2.1 (i : Int) kk q0 hk5 (rd l0 (i : Int)) []).1)
        go_upto_region 12 with (first | (go_at_call 32; ((with_reducible refine (Store_C (i : Int) (kk : Int) (rd l0 (i : Int)) WI.out HK.out.mem HL1.out).mono ?_); rintro e w3 ⟨rfl, hn⟩; rw [FX.out] at hn; obtain ⟨own1, hks⟩ := HK.out.next hn; have HK1 := Aside0.mk hks; clear hn hks HK; have HK := HK1; clear HK1)))
        obtain ⟨hq0, hq1⟩ := HK.out.word kk hk5
        clear hx0
        obtain ⟨ad0', had0, hx0⟩ := Kd.at_int (Kd.C_below H0.out HK.out.bel) (i : Int) q0 (by omega)
        obtain rfl : ad0 = ad0' := Option.some.inj had0
        rw [Int.toNat_natCast] at hx0
        go_upto_region 13 with fail
        have HK1 := Aside0.mk (HK.out.putw kk (rd l0 (i : Int)))
        obtain ⟨ws1, hws1⟩ : ∃ ws1, ws.set kk (rd l0 (i : Int)) = ws1 := ⟨_, rfl⟩
        obtain ⟨L1, hL1⟩ : ∃ L1, L ++ [(⟨(i : Int), 1, (kk : Int), true⟩ : S128)] = L1 := ⟨_, rfl⟩
        have HLL := Aside0.mk (show L1.length ≤ 5 * i + 1 by rw [← hL1]; have := HL.out; simp; omega)
        rw [hws1, hL1] at HK1
        clear HK hq0 hq1 hx0 hws1 hL1 FX HL1 HL
        have HK := HK1
        clear HK1
        generalize World.setCell _ _ _ = wx at HK ⊢
        by_cases hB : i < l1.length
        · have dB := decide_eq_true (show (i : Int) < (l1.length : Int) by omega)
          obtain ⟨ad1, A3, c3, rfl, hx1, hl1, hC1⟩ := at_L11 (Kd.C_below H1.out HK.out.bel) (i : Int) q0 (by omega)
          rw [Int.toNat_natCast] at hx1
          have FC := Aside0.mk (Fix_C A3 c3 _ _ hC1 hl1)
          go_upto_region 15 with (first | (go_at_call 33; ((with_reducible refine FC.out.mono ?_); rintro e w4 ⟨v0, rfl, hr, hb⟩; obtain ⟨A4, n4, c4, rfl⟩ := R_any hr; have HK1 := Aside0.mk (HK.out.below hb); obtain ⟨A5, c5, hq2, hq3, -, -⟩ := HK1.out.box (4 - kk) (by omega); have HR4 := Aside0.mk hr; have HSZ := Aside0.mk (show _ ∧ _ ∧ _ from ⟨fun k (ho : own1 k) => HK.out.mem.2 k ho, blk_lt HK.out.h1, blk_lt HK.out.h2⟩); clear hr hb HK; have HK := HK1; clear HK1)))
          obtain ⟨X, hX⟩ : ∃ X, fixR (rd_L11 l1 (i : Int)) = X := ⟨_, rfl⟩
          have hX12 : X.length ≤ 12 := by rw [← hX]; exact fixR_len _
          rw [hX] at HR4
          have hRr := Kd.R_reads' HR4.out
          obtain rfl : n4 = (X.map v).length := hRr.1
          have HF4 : Aside0 (Kd.F k140 w4 (fun k => ¬ own1 k ∧ k ≠ n1 ∧ k ≠ n1 + 1 ∧ k < w4.heap.size) A4 (X.map v).length (X.map v)) := ⟨Kd.R_F (Kd.R_mono (Kd.R_bound HR4.out) (fun k hk => by
            obtain ⟨z1, z2, z3⟩ := HSZ.out
            have y1 := hk.2.1
            exact ⟨fun ho => by have := z1 k ho; omega, by omega, by omega, hk.2.2.1⟩))⟩
          have HK1 := Aside0.mk (HK.out.putb (4 - kk) (by omega) A4 c4 X hRr.2.1 HF4.out)
          have FS := Aside0.mk ((KeepM.facts ws1 bs L1 HK.out.l1 HK.out.bx.2.1 (i : Int) (4 - kk) q0 (by omega) 0 X).2.1)
          have HB2 := Aside0.mk (show (bs.set (4 - kk) X).getD (4 - kk) [] = X by have hl := HK.out.bx.2.1; rw [List.getD_eq_getElem?_getD, List.getElem?_set_self (by omega)]; rfl)
          have HBS1 := Aside0.mk (show ∀ b ∈ bs.set (4 - kk) X, b.length ≤ 12 from fun b hb => (List.mem_or_eq_of_mem_set hb).elim (HBS.out b) (fun e => by rw [e]; exact hX12))
          have HLM := Aside0.mk (show (KeepM ws1 bs L1).log.length ≤ 1000000 from by show L1.length ≤ 1000000; have := HLL.out; omega)
          clear HK hq2 hq3 HR4 HSZ hRr HF4 FC hx1 hC1 hl1 HBS
          have HK := HK1
          clear HK1
          generalize World.setCell _ _ _ = wy at HK ⊢
          obtain ⟨bs1, hbs1⟩ : ∃ bs1, bs.set (4 - kk) X = bs1 := ⟨_, rfl⟩
          obtain ⟨vs1, hvs1⟩ : ∃ vs1, vs.set (4 - kk) (.slice A4 (X.map v).length c4) = vs1 := ⟨_, rfl⟩
          rw [hbs1] at HK HB2 HBS1 FS
          rw [hvs1] at HK
          obtain ⟨A6, c6, hq2, -, hl6, hF6⟩ := HK.out.box (4 - kk) (by omega)
          rw [HB2.out] at hq2 hl6 hF6
          have tc := To_C A6 c6 X (by unfold Short; omega) _ (Kd.F_now hF6) hl6
          rw [List.length_map] at tc
          have TC := Aside0.mk tc
          clear tc
          clear hF6 hl6
          go_upto_region 16 with (first | (go_at_call 35; ((with_reducible refine TC.out.mono ?_); rintro e w5 ⟨v5, rfl, hr, hb⟩; obtain ⟨A7, n7, c7, rfl⟩ := R_any hr; obtain ⟨rfl, h7, -⟩ := Kd.R_reads' hr; have HSZ := Aside0.mk HK.out.mem.2; have HK1 := Aside0.mk (HK.out.below hb); have HF7 := Aside0.mk (show Kd.F k143 w5 (fun k => ¬ own1 k ∧ k < w5.heap.size) A7 X.length X from Kd.R_F (Kd.R_mono (Kd.R_bound hr) (fun k hk => ⟨fun ho => by have z1 := HSZ.out k ho; have z2 := hk.2.1; omega, hk.2.2.1⟩))); clear hr hb HK HSZ; have HK := HK1; clear HK1)) | (go_at_call 34; ((refine (Set_C (i : Int) ((4 - kk : Nat) : Int) WI.out A7 c7 X HK.out.mem HLM.out HF7.out h7 (by omega)).mono ?_); rintro e w6 ⟨rfl, hn⟩; rw [FS.out] at hn; obtain ⟨own9, hks⟩ := HK.out.next hn; have HK1 := Aside0.mk hks; clear hn hks HK; have HK := HK1; clear HK1)))
          have HK1 := Aside0.mk (HK.out.below (below_drew (Below.refl _ _)))
          obtain ⟨hq0, -⟩ := HK.out.word kk hk5
          obtain ⟨A8, c8, hq9, -, hl8, -⟩ := HK.out.box (4 - kk) (by omega)
          have hv8 : vs1[4 - kk]? = some (.slice A8 ((bs1.getD (4 - kk) []).map v).length c8) := (HK.out.cellb _).symm.trans hq9
          rw [HB2.out, List.length_map] at hv8 hl8
          have HV8 := Aside0.mk hv8
          have HL8 := Aside0.mk hl8
          have hq2' : _ = some (Value.slice A8 X.length c8) := (HK.out.cellb (4 - kk)).trans hv8
          clear HK hq9 hq2 hv8 hl8 HLM
          have HK := HK1
          clear HK1
          obtain ⟨y, hy⟩ : ∃ y, ws1.getD kk 0 = y := ⟨_, rfl⟩
          rw [hy] at hq0
          have HY := Aside0.mk hy
          clear hy
          have HLD := Aside0.mk (fun (own : Nat → Prop) (w : World) (L : List S128) (h : KS W w own g n1 (n1 + 1) ws1 bs1 ws1 bs1 vs1 L) (i : Int) (hi : 0 ≤ i) (hwf : (Lit.int .i64 i).wf = true) (hl : L.length ≤ 1000000) => (by have t := KS.load h i kk hi hwf hk5 hl; rw [HY.out] at t; exact t : Calls Try.prog 36 #[.pointer (some ⟨g, 0, none⟩), .int .i64 i, .int .i64 (kk : Int)] w fun e w' => e = .returned (.int .u64 y) ∧ ∃ own', KS W w' own' g n1 (n1 + 1) ws1 bs1 ws1 bs1 vs1 (L ++ [⟨i, 0, (kk : Int), true⟩])))
          have HGT := Aside0.mk (fun (own : Nat → Prop) (w : World) (L : List S128) (h : KS W w own g n1 (n1 + 1) ws1 bs1 ws1 bs1 vs1 L) (hl : L.length ≤ 1000000) => (by have t := KS.get h 3 (4 - kk) (by omega) (by decide) (by omega) hl HBS1.out; rw [HB2.out] at t; exact t : Calls Try.prog 39 #[.pointer (some ⟨g, 0, none⟩), .int .i64 3, .int .i64 ((4 - kk : Nat) : Int)] w fun e w' => ∃ x own', e = .returned x ∧ Kd.R k143 143 w' w.heap.size (fun _ => True) x X ∧ KS W w' own' g n1 (n1 + 1) ws1 bs1 ws1 bs1 vs1 (L ++ [⟨3, 2, ((4 - kk : Nat) : Int), true⟩])))
          have HSS := Aside0.mk (fun (own : Nat → Prop) (w : World) (L : List S128) (h : KS W w own g n1 (n1 + 1) ws1 bs1 ws1 bs1 vs1 L) => (⟨by rw [(h.word kk hk5).1, HY.out], (h.cellb (4 - kk)).trans HV8.out⟩ : w.cell? ⟨n1, kk, none⟩ = some (.int .u64 y) ∧ w.cell? ⟨n1 + 1, 4 - kk, none⟩ = some (.slice A8 X.length c8)))
          have g5 : (kk : Int) < 5 := by omega
          have g0 : (0 : Int) ≤ (kk : Int) := by omega
          have g6 : ((4 - kk : Nat) : Int) < 5 := by omega
          have g7 : 4 - kk < 5 := by omega
          go_region_held3 (fun w' => w'.cell? ⟨n1, kk, none⟩ = some (.int .u64 y) ∧ w'.cell? ⟨n1 + 1, 4 - kk, none⟩ = some (.slice A8 X.length c8))
            (first | exact ⟨hq0, hq2'⟩ | exact hN9 | exact hN8 | exact hN7 | exact hN6 | exact hN5)
            (first | (go_at_call 36; (with_reducible refine (HLD.out _ _ _ HK.out 7 (by omega) (by decide) (by have := HLL.out; (try simp only [List.length_append, List.length_cons, List.length_nil]); omega)).mono ?_); rintro e w5 ⟨rfl, own5, hk5'⟩; have hN5 := HSS.out _ _ _ hk5'; have HK5 := Aside0.mk hk5'; clear hk5') | (go_at_call 36; (with_reducible refine (HLD.out _ _ _ HK5.out 0 (by omega) (by decide) (by have := HLL.out; (try simp only [List.length_append, List.length_cons, List.length_nil]); omega)).mono ?_); rintro e w6 ⟨rfl, own6, hk6'⟩; have hN6 := HSS.out _ _ _ hk6'; have HK6 := Aside0.mk hk6'; clear hk6') | (go_at_call 39; (with_reducible refine (HGT.out _ _ _ HK6.out (by have := HLL.out; (try simp only [List.length_append, List.length_cons, List.length_nil]); omega)).mono ?_); rintro e w7 ⟨x7, own7, rfl, hr7, hk7'⟩; obtain ⟨A9, n9, c9, rfl⟩ := R_any hr7; obtain ⟨rfl, h9, hC9⟩ := Kd.R_reads' hr7; have hN7 := HSS.out _ _ _ hk7'; have HK7 := Aside0.mk hk7'; have FR := Aside0.mk (From_C A9 c9 X (by unfold Short; omega) w7 hC9 h9); clear hk7' hr7 h9 hC9) | (go_at_call 38; (with_reducible refine FR.out.mono ?_); rintro e w8 ⟨x8, rfl, hr8, hb8⟩; obtain ⟨A10, n10, c10, rfl⟩ := R_any hr8; obtain ⟨e10, h10, hC10⟩ := Kd.R_reads' hr8; have hk8' := HK7.out.below hb8; have hN8 := HSS.out _ _ _ hk8'; obtain ⟨-, h11, hC11⟩ := hk8'.boxF (4 - kk) (by omega) HV8.out; have HK8 := Aside0.mk hk8'; rw [HB2.out] at hC11; have sm := Same_C A10 A8 c10 c8 X (by unfold Short; omega) w8 hC10 (by omega) hC11 (by rw [List.length_map]; omega); rw [List.length_map] at e10 sm; subst e10; have SM := Aside0.mk sm; clear hk8' hr8 hb8 h10 hC10 h11 hC11 sm) | (go_at_call 37; (with_reducible refine SM.out.mono ?_); rintro e w9 ⟨rfl, hd⟩; have hk9' := HK8.out.below hd.below; have hN9 := HSS.out _ _ _ hk9'; have HK9 := Aside0.mk hk9'; clear hk9' hd))
          all_goals
            go_wp2
            go_roundw
            case rel => exact ⟨i + 1, by first | rfl | exact congrArg _ hw, ⟨by omega, by omega, _, ws1, bs1, vs1, _, HK9.out, by have := HLL.out; simp only [List.length_append, List.length_cons, List.length_nil]; omega, HBS1.out⟩⟩
            case measure => simp [intOf]; omega
        · have dB := decide_eq_false (show ¬ (i : Int) < (l1.length : Int) by omega)
          go_upto_region 16 with fail
          obtain ⟨X, hX⟩ : ∃ X, bs.getD (4 - kk) [] = X := ⟨_, rfl⟩
          have hX12 : X.length ≤ 12 := by
            rw [← hX, List.getD_eq_getElem?_getD]
            cases h : bs[4 - kk]? with
            | none => simp
            | some b => exact HBS.out b (List.mem_of_getElem? h)
          have HB2 := Aside0.mk hX
          have HBS1 := HBS
          clear hX
          have HK1 := Aside0.mk (HK.out.below (below_drew (Below.refl _ _)))
          obtain ⟨hq0, -⟩ := HK.out.word kk hk5
          obtain ⟨A8, c8, hq9, -, hl8, -⟩ := HK.out.box (4 - kk) (by omega)
          have hv8 : vs[4 - kk]? = some (.slice A8 ((bs.getD (4 - kk) []).map v).length c8) := (HK.out.cellb _).symm.trans hq9
          rw [HB2.out, List.length_map] at hv8 hl8
          have HV8 := Aside0.mk hv8
          have HL8 := Aside0.mk hl8
          have hq2' : _ = some (Value.slice A8 X.length c8) := (HK.out.cellb (4 - kk)).trans hv8
          clear HK hq9 hv8 hl8
          have HK := HK1
          clear HK1
          obtain ⟨y, hy⟩ : ∃ y, ws1.getD kk 0 = y := ⟨_, rfl⟩
          rw [hy] at hq0
          have HY := Aside0.mk hy
          clear hy
          have HLD := Aside0.mk (fun (own : Nat → Prop) (w : World) (L : List S128) (h : KS W w own g n1 (n1 + 1) ws1 bs ws1 bs vs L) (i : Int) (hi : 0 ≤ i) (hwf : (Lit.int .i64 i).wf = true) (hl : L.length ≤ 1000000) => (by have t := KS.load h i kk hi hwf hk5 hl; rw [HY.out] at t; exact t : Calls Try.prog 36 #[.pointer (some ⟨g, 0, none⟩), .int .i64 i, .int .i64 (kk : Int)] w fun e w' => e = .returned (.int .u64 y) ∧ ∃ own', KS W w' own' g n1 (n1 + 1) ws1 bs ws1 bs vs (L ++ [⟨i, 0, (kk : Int), true⟩])))
          have HGT := Aside0.mk (fun (own : Nat → Prop) (w : World) (L : List S128) (h : KS W w own g n1 (n1 + 1) ws1 bs ws1 bs vs L) (hl : L.length ≤ 1000000) => (by have t := KS.get h 3 (4 - kk) (by omega) (by decide) (by omega) hl HBS1.out; rw [HB2.out] at t; exact t : Calls Try.prog 39 #[.pointer (some ⟨g, 0, none⟩), .int .i64 3, .int .i64 ((4 - kk : Nat) : Int)] w fun e w' => ∃ x own', e = .returned x ∧ Kd.R k143 143 w' w.heap.size (fun _ => True) x X ∧ KS W w' own' g n1 (n1 + 1) ws1 bs ws1 bs vs (L ++ [⟨3, 2, ((4 - kk : Nat) : Int), true⟩])))
          have HSS := Aside0.mk (fun (own : Nat → Prop) (w : World) (L : List S128) (h : KS W w own g n1 (n1 + 1) ws1 bs ws1 bs vs L) => (⟨by rw [(h.word kk hk5).1, HY.out], (h.cellb (4 - kk)).trans HV8.out⟩ : w.cell? ⟨n1, kk, none⟩ = some (.int .u64 y) ∧ w.cell? ⟨n1 + 1, 4 - kk, none⟩ = some (.slice A8 X.length c8)))
          have g5 : (kk : Int) < 5 := by omega
          have g0 : (0 : Int) ≤ (kk : Int) := by omega
          have g6 : ((4 - kk : Nat) : Int) < 5 := by omega
          have g7 : 4 - kk < 5 := by omega
          go_region_held3 (fun w' => w'.cell? ⟨n1, kk, none⟩ = some (.int .u64 y) ∧ w'.cell? ⟨n1 + 1, 4 - kk, none⟩ = some (.slice A8 X.length c8))
            (first | exact ⟨hq0, hq2'⟩ | exact hN9 | exact hN8 | exact hN7 | exact hN6 | exact hN5)
            (first | (go_at_call 36; (with_reducible refine (HLD.out _ _ _ HK.out 7 (by omega) (by decide) (by have := HLL.out; (try simp only [List.length_append, List.length_cons, List.length_nil]); omega)).mono ?_); rintro e w5 ⟨rfl, own5, hk5'⟩; have hN5 := HSS.out _ _ _ hk5'; have HK5 := Aside0.mk hk5'; clear hk5') | (go_at_call 36; (with_reducible refine (HLD.out _ _ _ HK5.out 0 (by omega) (by decide) (by have := HLL.out; (try simp only [List.length_append, List.length_cons, List.length_nil]); omega)).mono ?_); rintro e w6 ⟨rfl, own6, hk6'⟩; have hN6 := HSS.out _ _ _ hk6'; have HK6 := Aside0.mk hk6'; clear hk6') | (go_at_call 39; (with_reducible refine (HGT.out _ _ _ HK6.out (by have := HLL.out; (try simp only [List.length_append, List.length_cons, List.length_nil]); omega)).mono ?_); rintro e w7 ⟨x7, own7, rfl, hr7, hk7'⟩; obtain ⟨A9, n9, c9, rfl⟩ := R_any hr7; obtain ⟨rfl, h9, hC9⟩ := Kd.R_reads' hr7; have hN7 := HSS.out _ _ _ hk7'; have HK7 := Aside0.mk hk7'; have FR := Aside0.mk (From_C A9 c9 X (by unfold Short; omega) w7 hC9 h9); clear hk7' hr7 h9 hC9) | (go_at_call 38; (with_reducible refine FR.out.mono ?_); rintro e w8 ⟨x8, rfl, hr8, hb8⟩; obtain ⟨A10, n10, c10, rfl⟩ := R_any hr8; obtain ⟨e10, h10, hC10⟩ := Kd.R_reads' hr8; have hk8' := HK7.out.below hb8; have hN8 := HSS.out _ _ _ hk8'; obtain ⟨-, h11, hC11⟩ := hk8'.boxF (4 - kk) (by omega) HV8.out; have HK8 := Aside0.mk hk8'; rw [HB2.out] at hC11; have sm := Same_C A10 A8 c10 c8 X (by unfold Short; omega) w8 hC10 (by omega) hC11 (by rw [List.length_map]; omega); rw [List.length_map] at e10 sm; subst e10; have SM := Aside0.mk sm; clear hk8' hr8 hb8 h10 hC10 h11 hC11 sm) | (go_at_call 37; (with_reducible refine SM.out.mono ?_); rintro e w9 ⟨rfl, hd⟩; have hk9' := HK8.out.below hd.below; have hN9 := HSS.out _ _ _ hk9'; have HK9 := Aside0.mk hk9'; clear hk9' hd))
          all_goals
            go_wp2
            go_roundw
            case rel => exact ⟨i + 1, by first | rfl | exact congrArg _ hw, ⟨by omega, by omega, _, ws1, bs, vs, _, HK9.out, by have := HLL.out; simp only [List.length_append, List.length_cons, List.length_nil]; omega, HBS1.out⟩⟩
            case measure => simp [intOf]; omega
      · have dA := decide_eq_false (show ¬ (i : Int) < (l0.length : Int) by omega)
        go_upto_region 13 with fail
        have HLL := Aside0.mk (show L.length ≤ 5 * i + 1 by have := HL.out; omega)
        clear HL
        by_cases hB : i < l1.length
        · have dB := decide_eq_true (show (i : Int) < (l1.length : Int) by omega)
          obtain ⟨ad1, A3, c3, rfl, hx1, hl1, hC1⟩ := at_L11 (Kd.C_below H1.out HK.out.bel) (i : Int) q0 (by omega)
          rw [Int.toNat_natCast] at hx1
          have FC := Aside0.mk (Fix_C A3 c3 _ _ hC1 hl1)
          go_upto_region 15 with (first | (go_at_call 33; ((with_reducible refine FC.out.mono ?_); rintro e w4 ⟨v0, rfl, hr, hb⟩; obtain ⟨A4, n4, c4, rfl⟩ := R_any hr; have HK1 := Aside0.mk (HK.out.below hb); obtain ⟨A5, c5, hq2, hq3, -, -⟩ := HK1.out.box (4 - kk) (by omega); have HR4 := Aside0.mk hr; have HSZ := Aside0.mk (show _ ∧ _ ∧ _ from ⟨fun k (ho : own k) => HK.out.mem.2 k ho, blk_lt HK.out.h1, blk_lt HK.out.h2⟩); clear hr hb HK; have HK := HK1; clear HK1)))
          obtain ⟨X, hX⟩ : ∃ X, fixR (rd_L11 l1 (i : Int)) = X := ⟨_, rfl⟩
          have hX12 : X.length ≤ 12 := by rw [← hX]; exact fixR_len _
          rw [hX] at HR4
          have hRr := Kd.R_reads' HR4.out
          obtain rfl : n4 = (X.map v).length := hRr.1
          have HF4 : Aside0 (Kd.F k140 w4 (fun k => ¬ own k ∧ k ≠ n1 ∧ k ≠ n1 + 1 ∧ k < w4.heap.size) A4 (X.map v).length (X.map v)) := ⟨Kd.R_F (Kd.R_mono (Kd.R_bound HR4.out) (fun k hk => by
            obtain ⟨z1, z2, z3⟩ := HSZ.out
            have y1 := hk.2.1
            exact ⟨fun ho => by have := z1 k ho; omega, by omega, by omega, hk.2.2.1⟩))⟩
          have HK1 := Aside0.mk (HK.out.putb (4 - kk) (by omega) A4 c4 X hRr.2.1 HF4.out)
          have FS := Aside0.mk ((KeepM.facts ws bs L HK.out.l1 HK.out.bx.2.1 (i : Int) (4 - kk) q0 (by omega) 0 X).2.1)
          have HB2 := Aside0.mk (show (bs.set (4 - kk) X).getD (4 - kk) [] = X by have hl := HK.out.bx.2.1; rw [List.getD_eq_getElem?_getD, List.getElem?_set_self (by omega)]; rfl)
          have HBS1 := Aside0.mk (show ∀ b ∈ bs.set (4 - kk) X, b.length ≤ 12 from fun b hb => (List.mem_or_eq_of_mem_set hb).elim (HBS.out b) (fun e => by rw [e]; exact hX12))
          have HLM := Aside0.mk (show (KeepM ws bs L).log.length ≤ 1000000 from by show L.length ≤ 1000000; have := HLL.out; omega)
          clear HK hq2 hq3 HR4 HSZ hRr HF4 FC hx1 hC1 hl1 HBS
          have HK := HK1
          clear HK1
          generalize World.setCell _ _ _ = wy at HK ⊢
          obtain ⟨bs1, hbs1⟩ : ∃ bs1, bs.set (4 - kk) X = bs1 := ⟨_, rfl⟩
          obtain ⟨vs1, hvs1⟩ : ∃ vs1, vs.set (4 - kk) (.slice A4 (X.map v).length c4) = vs1 := ⟨_, rfl⟩
          rw [hbs1] at HK HB2 HBS1 FS
          rw [hvs1] at HK
          obtain ⟨A6, c6, hq2, -, hl6, hF6⟩ := HK.out.box (4 - kk) (by omega)
          rw [HB2.out] at hq2 hl6 hF6
          have tc := To_C A6 c6 X (by unfold Short; omega) _ (Kd.F_now hF6) hl6
          rw [List.length_map] at tc
          have TC := Aside0.mk tc
          clear tc
          clear hF6 hl6
          go_upto_region 16 with (first | (go_at_call 35; ((with_reducible refine TC.out.mono ?_); rintro e w5 ⟨v5, rfl, hr, hb⟩; obtain ⟨A7, n7, c7, rfl⟩ := R_any hr; obtain ⟨rfl, h7, -⟩ := Kd.R_reads' hr; have HSZ := Aside0.mk HK.out.mem.2; have HK1 := Aside0.mk (HK.out.below hb); have HF7 := Aside0.mk (show Kd.F k143 w5 (fun k => ¬ own k ∧ k < w5.heap.size) A7 X.length X from Kd.R_F (Kd.R_mono (Kd.R_bound hr) (fun k hk => ⟨fun ho => by have z1 := HSZ.out k ho; have z2 := hk.2.1; omega, hk.2.2.1⟩))); clear hr hb HK HSZ; have HK := HK1; clear HK1)) | (go_at_call 34; ((refine (Set_C (i : Int) ((4 - kk : Nat) : Int) WI.out A7 c7 X HK.out.mem HLM.out HF7.out h7 (by omega)).mono ?_); rintro e w6 ⟨rfl, hn⟩; rw [FS.out] at hn; obtain ⟨own9, hks⟩ := HK.out.next hn; have HK1 := Aside0.mk hks; clear hn hks HK; have HK := HK1; clear HK1)))
          have HK1 := Aside0.mk (HK.out.below (below_drew (Below.refl _ _)))
          obtain ⟨hq0, -⟩ := HK.out.word kk hk5
          obtain ⟨A8, c8, hq9, -, hl8, -⟩ := HK.out.box (4 - kk) (by omega)
          have hv8 : vs1[4 - kk]? = some (.slice A8 ((bs1.getD (4 - kk) []).map v).length c8) := (HK.out.cellb _).symm.trans hq9
          rw [HB2.out, List.length_map] at hv8 hl8
          have HV8 := Aside0.mk hv8
          have HL8 := Aside0.mk hl8
          have hq2' : _ = some (Value.slice A8 X.length c8) := (HK.out.cellb (4 - kk)).trans hv8
          clear HK hq9 hq2 hv8 hl8 HLM
          have HK := HK1
          clear HK1
          obtain ⟨y, hy⟩ : ∃ y, ws.getD kk 0 = y := ⟨_, rfl⟩
          rw [hy] at hq0
          have HY := Aside0.mk hy
          clear hy
          have HLD := Aside0.mk (fun (own : Nat → Prop) (w : World) (L : List S128) (h : KS W w own g n1 (n1 + 1) ws bs1 ws bs1 vs1 L) (i : Int) (hi : 0 ≤ i) (hwf : (Lit.int .i64 i).wf = true) (hl : L.length ≤ 1000000) => (by have t := KS.load h i kk hi hwf hk5 hl; rw [HY.out] at t; exact t : Calls Try.prog 36 #[.pointer (some ⟨g, 0, none⟩), .int .i64 i, .int .i64 (kk : Int)] w fun e w' => e = .returned (.int .u64 y) ∧ ∃ own', KS W w' own' g n1 (n1 + 1) ws bs1 ws bs1 vs1 (L ++ [⟨i, 0, (kk : Int), true⟩])))
          have HGT := Aside0.mk (fun (own : Nat → Prop) (w : World) (L : List S128) (h : KS W w own g n1 (n1 + 1) ws bs1 ws bs1 vs1 L) (hl : L.length ≤ 1000000) => (by have t := KS.get h 3 (4 - kk) (by omega) (by decide) (by omega) hl HBS1.out; rw [HB2.out] at t; exact t : Calls Try.prog 39 #[.pointer (some ⟨g, 0, none⟩), .int .i64 3, .int .i64 ((4 - kk : Nat) : Int)] w fun e w' => ∃ x own', e = .returned x ∧ Kd.R k143 143 w' w.heap.size (fun _ => True) x X ∧ KS W w' own' g n1 (n1 + 1) ws bs1 ws bs1 vs1 (L ++ [⟨3, 2, ((4 - kk : Nat) : Int), true⟩])))
          have HSS := Aside0.mk (fun (own : Nat → Prop) (w : World) (L : List S128) (h : KS W w own g n1 (n1 + 1) ws bs1 ws bs1 vs1 L) => (⟨by rw [(h.word kk hk5).1, HY.out], (h.cellb (4 - kk)).trans HV8.out⟩ : w.cell? ⟨n1, kk, none⟩ = some (.int .u64 y) ∧ w.cell? ⟨n1 + 1, 4 - kk, none⟩ = some (.slice A8 X.length c8)))
          have g5 : (kk : Int) < 5 := by omega
          have g0 : (0 : Int) ≤ (kk : Int) := by omega
          have g6 : ((4 - kk : Nat) : Int) < 5 := by omega
          have g7 : 4 - kk < 5 := by omega
          go_region_held3 (fun w' => w'.cell? ⟨n1, kk, none⟩ = some (.int .u64 y) ∧ w'.cell? ⟨n1 + 1, 4 - kk, none⟩ = some (.slice A8 X.length c8))
            (first | exact ⟨hq0, hq2'⟩ | exact hN9 | exact hN8 | exact hN7 | exact hN6 | exact hN5)
            (first | (go_at_call 36; (with_reducible refine (HLD.out _ _ _ HK.out 7 (by omega) (by decide) (by have := HLL.out; (try simp only [List.length_append, List.length_cons, List.length_nil]); omega)).mono ?_); rintro e w5 ⟨rfl, own5, hk5'⟩; have hN5 := HSS.out _ _ _ hk5'; have HK5 := Aside0.mk hk5'; clear hk5') | (go_at_call 36; (with_reducible refine (HLD.out _ _ _ HK5.out 0 (by omega) (by decide) (by have := HLL.out; (try simp only [List.length_append, List.length_cons, List.length_nil]); omega)).mono ?_); rintro e w6 ⟨rfl, own6, hk6'⟩; have hN6 := HSS.out _ _ _ hk6'; have HK6 := Aside0.mk hk6'; clear hk6') | (go_at_call 39; (with_reducible refine (HGT.out _ _ _ HK6.out (by have := HLL.out; (try simp only [List.length_append, List.length_cons, List.length_nil]); omega)).mono ?_); rintro e w7 ⟨x7, own7, rfl, hr7, hk7'⟩; obtain ⟨A9, n9, c9, rfl⟩ := R_any hr7; obtain ⟨rfl, h9, hC9⟩ := Kd.R_reads' hr7; have hN7 := HSS.out _ _ _ hk7'; have HK7 := Aside0.mk hk7'; have FR := Aside0.mk (From_C A9 c9 X (by unfold Short; omega) w7 hC9 h9); clear hk7' hr7 h9 hC9) | (go_at_call 38; (with_reducible refine FR.out.mono ?_); rintro e w8 ⟨x8, rfl, hr8, hb8⟩; obtain ⟨A10, n10, c10, rfl⟩ := R_any hr8; obtain ⟨e10, h10, hC10⟩ := Kd.R_reads' hr8; have hk8' := HK7.out.below hb8; have hN8 := HSS.out _ _ _ hk8'; obtain ⟨-, h11, hC11⟩ := hk8'.boxF (4 - kk) (by omega) HV8.out; have HK8 := Aside0.mk hk8'; rw [HB2.out] at hC11; have sm := Same_C A10 A8 c10 c8 X (by unfold Short; omega) w8 hC10 (by omega) hC11 (by rw [List.length_map]; omega); rw [List.length_map] at e10 sm; subst e10; have SM := Aside0.mk sm; clear hk8' hr8 hb8 h10 hC10 h11 hC11 sm) | (go_at_call 37; (with_reducible refine SM.out.mono ?_); rintro e w9 ⟨rfl, hd⟩; have hk9' := HK8.out.below hd.below; have hN9 := HSS.out _ _ _ hk9'; have HK9 := Aside0.mk hk9'; clear hk9' hd))
          all_goals
            go_wp2
            go_roundw
            case rel => exact ⟨i + 1, by first | rfl | exact congrArg _ hw, ⟨by omega, by omega, _, ws, bs1, vs1, _, HK9.out, by have := HLL.out; simp only [List.length_append, List.length_cons, List.length_nil]; omega, HBS1.out⟩⟩
            case measure => simp [intOf]; omega
        · have dB := decide_eq_false (show ¬ (i : Int) < (l1.length : Int) by omega)
          go_upto_region 16 with fail
          obtain ⟨X, hX⟩ : ∃ X, bs.getD (4 - kk) [] = X := ⟨_, rfl⟩
          have hX12 : X.length ≤ 12 := by
            rw [← hX, List.getD_eq_getElem?_getD]
            cases h : bs[4 - kk]? with
            | none => simp
            | some b => exact HBS.out b (List.mem_of_getElem? h)
          have HB2 := Aside0.mk hX
          have HBS1 := HBS
          clear hX
          have HK1 := Aside0.mk (HK.out.below (below_drew (Below.refl _ _)))
          obtain ⟨hq0, -⟩ := HK.out.word kk hk5
          obtain ⟨A8, c8, hq9, -, hl8, -⟩ := HK.out.box (4 - kk) (by omega)
          have hv8 : vs[4 - kk]? = some (.slice A8 ((bs.getD (4 - kk) []).map v).length c8) := (HK.out.cellb _).symm.trans hq9
          rw [HB2.out, List.length_map] at hv8 hl8
          have HV8 := Aside0.mk hv8
          have HL8 := Aside0.mk hl8
          have hq2' : _ = some (Value.slice A8 X.length c8) := (HK.out.cellb (4 - kk)).trans hv8
          clear HK hq9 hv8 hl8
          have HK := HK1
          clear HK1
          obtain ⟨y, hy⟩ : ∃ y, ws.getD kk 0 = y := ⟨_, rfl⟩
          rw [hy] at hq0
          have HY := Aside0.mk hy
          clear hy
          have HLD := Aside0.mk (fun (own : Nat → Prop) (w : World) (L : List S128) (h : KS W w own g n1 (n1 + 1) ws bs ws bs vs L) (i : Int) (hi : 0 ≤ i) (hwf : (Lit.int .i64 i).wf = true) (hl : L.length ≤ 1000000) => (by have t := KS.load h i kk hi hwf hk5 hl; rw [HY.out] at t; exact t : Calls Try.prog 36 #[.pointer (some ⟨g, 0, none⟩), .int .i64 i, .int .i64 (kk : Int)] w fun e w' => e = .returned (.int .u64 y) ∧ ∃ own', KS W w' own' g n1 (n1 + 1) ws bs ws bs vs (L ++ [⟨i, 0, (kk : Int), true⟩])))
          have HGT := Aside0.mk (fun (own : Nat → Prop) (w : World) (L : List S128) (h : KS W w own g n1 (n1 + 1) ws bs ws bs vs L) (hl : L.length ≤ 1000000) => (by have t := KS.get h 3 (4 - kk) (by omega) (by decide) (by omega) hl HBS1.out; rw [HB2.out] at t; exact t : Calls Try.prog 39 #[.pointer (some ⟨g, 0, none⟩), .int .i64 3, .int .i64 ((4 - kk : Nat) : Int)] w fun e w' => ∃ x own', e = .returned x ∧ Kd.R k143 143 w' w.heap.size (fun _ => True) x X ∧ KS W w' own' g n1 (n1 + 1) ws bs ws bs vs (L ++ [⟨3, 2, ((4 - kk : Nat) : Int), true⟩])))
          have HSS := Aside0.mk (fun (own : Nat → Prop) (w : World) (L : List S128) (h : KS W w own g n1 (n1 + 1) ws bs ws bs vs L) => (⟨by rw [(h.word kk hk5).1, HY.out], (h.cellb (4 - kk)).trans HV8.out⟩ : w.cell? ⟨n1, kk, none⟩ = some (.int .u64 y) ∧ w.cell? ⟨n1 + 1, 4 - kk, none⟩ = some (.slice A8 X.length c8)))
          have g5 : (kk : Int) < 5 := by omega
          have g0 : (0 : Int) ≤ (kk : Int) := by omega
          have g6 : ((4 - kk : Nat) : Int) < 5 := by omega
          have g7 : 4 - kk < 5 := by omega
          go_region_held3 (fun w' => w'.cell? ⟨n1, kk, none⟩ = some (.int .u64 y) ∧ w'.cell? ⟨n1 + 1, 4 - kk, none⟩ = some (.slice A8 X.length c8))
            (first | exact ⟨hq0, hq2'⟩ | exact hN9 | exact hN8 | exact hN7 | exact hN6 | exact hN5)
            (first | (go_at_call 36; (with_reducible refine (HLD.out _ _ _ HK.out 7 (by omega) (by decide) (by have := HLL.out; (try simp only [List.length_append, List.length_cons, List.length_nil]); omega)).mono ?_); rintro e w5 ⟨rfl, own5, hk5'⟩; have hN5 := HSS.out _ _ _ hk5'; have HK5 := Aside0.mk hk5'; clear hk5') | (go_at_call 36; (with_reducible refine (HLD.out _ _ _ HK5.out 0 (by omega) (by decide) (by have := HLL.out; (try simp only [List.length_append, List.length_cons, List.length_nil]); omega)).mono ?_); rintro e w6 ⟨rfl, own6, hk6'⟩; have hN6 := HSS.out _ _ _ hk6'; have HK6 := Aside0.mk hk6'; clear hk6') | (go_at_call 39; (with_reducible refine (HGT.out _ _ _ HK6.out (by have := HLL.out; (try simp only [List.length_append, List.length_cons, List.length_nil]); omega)).mono ?_); rintro e w7 ⟨x7, own7, rfl, hr7, hk7'⟩; obtain ⟨A9, n9, c9, rfl⟩ := R_any hr7; obtain ⟨rfl, h9, hC9⟩ := Kd.R_reads' hr7; have hN7 := HSS.out _ _ _ hk7'; have HK7 := Aside0.mk hk7'; have FR := Aside0.mk (From_C A9 c9 X (by unfold Short; omega) w7 hC9 h9); clear hk7' hr7 h9 hC9) | (go_at_call 38; (with_reducible refine FR.out.mono ?_); rintro e w8 ⟨x8, rfl, hr8, hb8⟩; obtain ⟨A10, n10, c10, rfl⟩ := R_any hr8; obtain ⟨e10, h10, hC10⟩ := Kd.R_reads' hr8; have hk8' := HK7.out.below hb8; have hN8 := HSS.out _ _ _ hk8'; obtain ⟨-, h11, hC11⟩ := hk8'.boxF (4 - kk) (by omega) HV8.out; have HK8 := Aside0.mk hk8'; rw [HB2.out] at hC11; have sm := Same_C A10 A8 c10 c8 X (by unfold Short; omega) w8 hC10 (by omega) hC11 (by rw [List.length_map]; omega); rw [List.length_map] at e10 sm; subst e10; have SM := Aside0.mk sm; clear hk8' hr8 hb8 h10 hC10 h11 hC11 sm) | (go_at_call 37; (with_reducible refine SM.out.mono ?_); rintro e w9 ⟨rfl, hd⟩; have hk9' := HK8.out.below hd.below; have hN9 := HSS.out _ _ _ hk9'; have HK9 := Aside0.mk hk9'; clear hk9' hd))
          all_goals
            go_wp2
            go_roundw
            case rel => exact ⟨i + 1, by first | rfl | exact congrArg _ hw, ⟨by omega, by omega, _, ws, bs, vs, _, HK9.out, by have := HLL.out; simp only [List.length_append, List.length_cons, List.length_nil]; omega, HBS1.out⟩⟩
            case measure => simp [intOf]; omega
    · have hc2 : (i < l2.length ∧ ¬ i < 100) ∨ ¬ i < l2.length := by omega
      clear hil
      rcases hc2 with ⟨h1, h2⟩ | h1
      · have d1 := decide_eq_true (show (i : Int) < (l2.length : Int) by omega)
        have d2 := decide_eq_false (show ¬ (i : Int) < (100 : Int) by omega)
        go_wp2
        go_ret
        exact ⟨rfl, HK.out.bel⟩
      · have d1 := decide_eq_false (show ¬ (i : Int) < (l2.length : Int) by omega)
        go_wp2
        go_ret
        exact ⟨rfl, HK.out.bel⟩
open Go.RowKit Go.Proofs.YtlcnckbmolefpaaW.PrintWords
instance : Inhabited S140 := ⟨z140⟩
theorem opens140 : Opens Try.prog 140 k140 (fun _ => True) :=
  (Opens.iso (Opens.struct (d := Kd.pair (Kd.int .i64) (Kd.pair (Kd.int .u64) (Kd.int .i64))) Try.underlying140 (by kernel_rfl)
    (OpensSeg.cons rfl (by kernel_rfl) (by decide) (opens_i64 Try.underlying3) (OpensSeg.cons rfl (by kernel_rfl) (by decide) (opens_u64 Try.underlying29) (OpensSeg.one rfl (by kernel_rfl) (opens_i64 Try.underlying2)))))
    (fun x : S140 => (x.f0, x.f1, x.f2)) (fun y => ⟨y.1, y.2.1, y.2.2⟩) (fun _ => rfl)).imp fun _ _ => trivial
theorem opens51 : Opens Try.prog 51 (Kd.slice 140 k140) (fun l => l.length ≤ maxLen ∧ ∀ y ∈ l, True) := Opens.slice Try.underlying51 (by kernel_rfl) opens140
theorem opens45 : Opens Try.prog 45 (Kd.slice 51 (Kd.slice 140 k140)) (fun l => l.length ≤ maxLen ∧ ∀ y ∈ l, y.length ≤ maxLen ∧ ∀ z ∈ y, True) := Opens.slice Try.underlying45 (by kernel_rfl) opens51
theorem opens44 : Opens Try.prog 44 (Kd.slice 29 (Kd.int .u64)) (fun l => l.length ≤ maxLen ∧ ∀ y ∈ l, 0 ≤ y ∧ y ≤ 18446744073709551615) := Opens.slice Try.underlying44 (by kernel_rfl) (opens_u64 Try.underlying29)
def marchlandlaw08_MemKeeps.f (_k : Nat) (_l0 : List Int) (_l1 : List (List S140)) (_l2 : List Int) : Option Bool := some true
theorem marchlandlaw08_MemKeeps.calls (k : Nat) (A0 : Option Addr) (c0 : Nat) (l0 : List Int) (A1 : Option Addr) (c1 : Nat) (l1 : List (List S140)) (A2 : Option Addr) (c2 : Nat) (l2 : List Int) (r : Bool) (w : World)
    (hC0 : Kd.C (Kd.int .u64) w A0 l0.length l0) (_hc0 : l0.length ≤ c0) (hC1 : Kd.C (Kd.slice 140 k140) w A1 l1.length l1) (_hc1 : l1.length ≤ c1) (hC2 : Kd.C (Kd.int .i64) w A2 l2.length l2) (_hc2 : l2.length ≤ c2) (h : marchlandlaw08_MemKeeps.f k l0 l1 l2 = some r) :
    Calls Try.prog 7 #[.slice A0 l0.length c0, .slice A1 l1.length c1, .slice A2 l2.length c2] w fun e w' => e = .returned (.bool r) ∧ Below w.heap.size w w' := by
  obtain rfl := Option.some.inj h
  exact Keeps_calls A0 A1 A2 c0 c1 c2 l0 l1 l2 w hC0 hC1 hC2
end Go.Proofs.Ytlcnckbmolefpaa.P
namespace Go.Proofs.Ytlcnckbmolefpaa.Pure
theorem MemKeeps (l0 : List Int) (l1 : List (List P.S140)) (l2 : List Int) : ∃ k, P.marchlandlaw08_MemKeeps.f k l0 l1 l2 = some true := ⟨0, rfl⟩
end Go.Proofs.Ytlcnckbmolefpaa.Pure
end
