/- Walks and laws of several statements of this seat, joined into one text; no condition. -/
import Derived.Test.YtlcnckbmolefpaaProg
import Derived.Below
import Derived.Deep.Draws
import Derived.Deep.AppendLies
import Derived.Maps.AppendAt
import Derived.OwnWalk
import Derived.Laws.BytesArg
import Derived.Laws.MakeOwn
import Derived.Laws.OwnMore
import Derived.Deep.OwnRows
import Derived.Tactics
import Derived.Lib.ConvBytes
import Derived.Laws.Slices
import Derived.WalkKit
import Derived.KernelRfl
import Derived.RowKit3
import Derived.Deep.LoopGhost
import Derived.Deep.QuietTactic
import Derived.BigQuiet
import Derived.WideLaws
import Derived.Deep.DeepCutAuto
import Derived.Deep.CutBlock
import Derived.Deep.RegionHeld3
import Derived.Laws.Rows
import Derived.Lib.AppendStr
import Derived.ArgAppend
import Derived.Laws.IdiomCopy
import Derived.OrdersHeld
import Derived.Laws.BitsLemmas
import Derived.RowKit
import Derived.Laws.StructEq
import Derived.Maps.RangeWalk
import Derived.Maps.OwnRows
import Derived.Maps.Views
import Derived.Maps.OwnSet
import Derived.IntWalk
import Derived.Shelf.SlMaps.Clone
import Derived.Laws.CopyOwn
import Derived.Deep.RegionLaw
import Derived.LoopTactic
import Derived.Outline
import Derived.Lib.BufferMore
import Derived.Deep.CutRange
import Derived.Deep.RegionHeldLaw
import Derived.Maps.GroupsBeside
import Derived.Deep.Slices
import Derived.SizedLaws
import Derived.OpenShut
import Derived.Lib.SmallJoins
import Derived.Test.YtlcnckbmolefpaaCHa0
import Derived.Test.YtlcnckbmolefpaaCHa1
import Derived.Test.YtlcnckbmolefpaaCHa2
import Derived.Test.YtlcnckbmolefpaaCHa3
import Derived.Test.YtlcnckbmolefpaaCHa4
section
namespace Go.Proofs.Ytlcnckbmolefpaa.P
open Go.RowKit Go.Maps Go.Proofs.Ytlcnckbmolefpaa.CK Go.Proofs.YtlcnckbmolefpaaW.PrintWords Go.Proofs.YtlcnckbmolefpaaW.PrintLast Go.Proofs.YtlcnckbmolefpaaW.PrintMore
set_option linter.unusedVariables false
set_option linter.unusedSimpArgs false
set_option maxRecDepth 100000
theorem told9h : marchlandlaw09_told.f = some true := by decide +kernel
def HandsM (L : List S128) (wd : Int) : MS := ⟨[wd], [[]], [], fun _ => none, 0, L⟩
theorem HandsM.set (L : List S128) (wd : Int) : (HandsM L wd).set_ 0 0 [] = HandsM (L ++ [⟨0, 3, 0, true⟩]) wd := rfl
theorem HandsM.store (L : List S128) (wd v : Int) : (HandsM L wd).store 0 0 v = HandsM (L ++ [⟨0, 1, 0, true⟩]) v := rfl
theorem HandsM.load (L : List S128) (wd i : Int) (h : 0 ≤ i) : (HandsM L wd).loadTo i 0 = HandsM (L ++ [⟨i, 0, 0, true⟩]) wd := by
  have f : (HandsM L wd).fits i 0 ((HandsM L wd).words.length : Int) = true := by simp [HandsM, MS.fits, h]
  unfold MS.loadTo; rw [f]; rfl
theorem HandsM.get (L : List S128) (wd i : Int) (h : 0 ≤ i) : (HandsM L wd).getTo i 0 = HandsM (L ++ [⟨i, 2, 0, true⟩]) wd := by
  have f : (HandsM L wd).fits i 0 ((HandsM L wd).boxes.length : Int) = true := by simp [HandsM, MS.fits, h]
  unfold MS.getTo; rw [f]; rfl
theorem handL_len {looks : List Bool} : ∀ n, (handL looks n).length ≤ 2 * n
  | 0 => Nat.le_refl _
  | n + 1 => by
    have := handL_len (looks := looks) n
    rw [handL, List.length_append]
    have : (handI looks n).length ≤ 2 := by unfold handI; split <;> simp
    omega
theorem handAll_len {k n : Nat} {looks : List Bool} : (handAll k looks n).length ≤ k + 1 + 2 * n := by
  have := handL_len (looks := looks) n
  unfold handAll; simp; omega
theorem handAll_ok {k n : Nat} {looks : List Bool} (hk : k ≤ 5) (hn : n ≤ 20) : evsB (handAll k looks n) = true := by
  have hl := handAll_len (k := k) (n := n) (looks := looks)
  unfold evsB
  rw [Bool.and_eq_true, decide_eq_true_iff, List.all_eq_true]
  refine ⟨by omega, fun e he => ?_⟩
  have hb : 0 ≤ e.f0 ∧ e.f0 ≤ 20 ∧ e.f2 = 0 := by
    unfold handAll at he
    rcases List.mem_append.1 he with he | he
    · rw [(List.mem_replicate.1 he).2]; exact ⟨by show (0 : Int) ≤ 0; omega, by show (0 : Int) ≤ 20; omega, rfl⟩
    · rcases List.mem_cons.1 he with rfl | he
      · exact ⟨by show (0 : Int) ≤ 0; omega, by show (0 : Int) ≤ 20; omega, rfl⟩
      · have := handL_who he
        exact ⟨by omega, by omega, this.2.1⟩
  unfold EvB
  simp only [Bool.and_eq_true, decide_eq_true_eq]
  omega
theorem handAll_race {k n : Nat} {looks : List Bool} (h0 : 0 < k) (hk : k ≤ 5) (hn : n ≤ 20) : ∃ r1 r2 : Int, clock_Race.f (handAll k looks n) = some (r1, r2) ∧ (handBare looks n = true → 0 ≤ r1 ∧ r1 < r2) ∧ (handBare looks n = false → r1 = -1 ∧ r2 = -1) := by
  refine ⟨_, _, by unfold clock_Race.f; rw [if_pos (handAll_ok hk hn)], fun h => ?_, fun h => ?_⟩
  · obtain ⟨i, j, e, hij⟩ := hands_bare h0 h
    rw [e]
    exact ⟨by show (0 : Int) ≤ (i : Int); omega, by show (i : Int) < (j : Int); omega⟩
  · rw [hands_look h]
    exact ⟨rfl, rfl⟩
theorem handAll_zero (k : Nat) (looks : List Bool) : List.replicate k ⟨0, 3, 0, true⟩ ++ [⟨0, 1, 0, true⟩] = handAll k looks 0 := rfl
theorem handAll_next (k : Nat) (looks : List Bool) (n : Nat) : handAll k looks (n + 1) = handAll k looks n ++ handI looks n := by unfold handAll; rw [handL]; simp
theorem wfI {i : Int} (h0 : -9223372036854775808 ≤ i) (h1 : i ≤ 9223372036854775807) : (Lit.int .i64 i).wf = true := WalkArith.wf_i64 (by omega)
theorem box1 (L : List S128) (wd : Int) : ∀ b ∈ (HandsM L wd).boxes, b.length ≤ 1000000 := fun b hb => by
  have : b ∈ ([[]] : List (List S143)) := hb
  rw [List.mem_singleton.1 this]; simp
set_option maxHeartbeats 4000000 in
theorem Hands_calls (n : Int) (A : Option Addr) (c : Nat) (l : List Bool) (W : World) (hC : Kd.C Kd.bool W A l.length l) (hc : l.length ≤ c) : Calls Try.prog 11 #[.int .i64 n, .slice A l.length c] W fun e w' => e = .returned (.bool true) ∧ Below W.heap.size W w' := by
  have HC := Aside0.mk hC
  have HT := Aside0.mk (fun W => marchlandlaw09_told.calls true W told9h)
  have hmx := hC.2.1
  have W0 := Aside0.mk (show (Lit.int .i64 0).wf = true by decide)
  clear hC
  obtain ⟨x, hx⟩ : ∃ x, Int.tmod (IntKind.u64.wrap n) 5 = x := ⟨_, rfl⟩
  have x0 : 0 ≤ x := by rw [← hx]; exact Int.tmod_nonneg _ (u64_pos n)
  have x5 : x < 5 := by rw [← hx]; exact Int.tmod_lt_of_pos _ (by omega)
  have e1 : IntKind.i64.wrap x = x := by rw [IntKind.wrap_i64]; omega
  have e2 : IntKind.i64.wrap (1 + x) = 1 + x := by rw [IntKind.wrap_i64]; omega
  obtain ⟨k, hk⟩ : ∃ k : Nat, (k : Int) = 1 + x := ⟨(1 + x).toNat, by omega⟩
  replace e2 : IntKind.i64.wrap (1 + x) = (k : Int) := by rw [e2, hk]
  have HK := Aside0.mk (show _ ∧ _ ∧ _ from ⟨hk, x5, x0⟩)
  have hk5 : k ≤ 5 := by omega
  have hk1 : 0 < k := by omega
  clear hk
  go_enter Try.func11, Try.ntmps11
  go_wp2_with (first | (go_at_call 30; ((refine (New_C 1 1 0 (by decide) (by decide) (by decide) _).mono ?_); rintro e w1 ⟨g, own0, rfl, hm, -, hb⟩; have HM := Aside0.mk (show MemC w1 W.heap.size own0 g (HandsM [] 0) from hm); have HB := Aside0.mk hb; clear hm hb)) | (go_at_call 26; (with_reducible refine (HT.out _).mono ?_); rintro e w2 ⟨rfl, hb2⟩; have HB1 := Aside0.mk (below_step HB.out hb2); have HM1 := Aside0.mk (HM.out.below hb2); clear hb2 HB HM; have HB := HB1; have HM := HM1; clear HB1 HM1))
  clear hx e1 e2 x0 x5
  go_loopw [8] (fun v8 wr => ∃ s : Nat, v8 = .int .i64 (s : Int) ∧ Aside0 (s ≤ k ∧ (∃ own, MemC wr W.heap.size own g (HandsM (List.replicate s ⟨0, 3, 0, true⟩) 0)) ∧ Below W.heap.size W wr)) (fun v8 _ => ((k : Int) - intOf v8).toNat)
  case atStart => exact ⟨0, rfl, ⟨by omega, ⟨_, HM.out⟩, HB.out⟩⟩
  case round =>
    clear HM HB
    obtain ⟨s, rfl, HI⟩ := hrel
    obtain ⟨hs, ⟨own, hm⟩, hb⟩ := HI.out
    have HM := Aside0.mk hm
    have HB := Aside0.mk hb
    clear hm hb HI
    by_cases hlt : s < k
    · have hltb := decide_eq_true (show (s : Int) < (k : Int) by omega)
      have hw : IntKind.i64.wrap ((s : Int) + 1) = ((s + 1 : Nat) : Int) := by rw [IntKind.wrap_i64]; omega
      have hlog : (HandsM (List.replicate s ⟨0, 3, 0, true⟩) 0).log.length ≤ 1000000 := by show (List.replicate s _).length ≤ _; rw [List.length_replicate]; omega
      have HL := Aside0.mk hlog
      clear hlog
      go_wp2_with (first | (go_at_call 34; ((refine (Set_C 0 0 W0.out none 0 [] HM.out HL.out (Kd.F_nil _ _ _) (Nat.le_refl _) (by simp)).mono ?_); rintro e w2 ⟨rfl, ⟨own1, hc1, -⟩, -, hb1⟩; rw [HandsM.set, ← List.replicate_succ'] at hc1; have HM1 := Aside0.mk hc1; have HB1 := Aside0.mk (HB.out.trans hb1); clear hc1 hb1 HM HB; have HM := HM1; have HB := HB1; clear HM1 HB1)))
      go_roundw
      case rel => exact ⟨s + 1, by first | rfl | exact congrArg _ hw, ⟨by omega, ⟨_, HM.out⟩, HB.out⟩⟩
      case measure => simp [intOf]; omega
    · obtain rfl : s = k := by omega
      have hltb := decide_eq_false (show ¬ (s : Int) < (s : Int) by omega)
      have hlog : (HandsM (List.replicate s ⟨0, 3, 0, true⟩) 0).log.length ≤ 1000000 := by show (List.replicate s _).length ≤ _; rw [List.length_replicate]; omega
      have HL := Aside0.mk hlog
      have hs5 : s ≤ 5 := by omega
      clear hlog hlt
      go_wp2_with (first | (go_at_call 32; ((with_reducible refine (Store_C 0 0 1 W0.out HM.out HL.out).mono ?_); rintro e w2 ⟨rfl, ⟨own1, hc1, -⟩, -, hb1⟩; rw [HandsM.store, handAll_zero _ l] at hc1; have HM1 := Aside0.mk hc1; have HB1 := Aside0.mk (HB.out.trans hb1); clear hc1 hb1 HM HB; have HM := HM1; have HB := HB1; clear HM1 HB1)))
      go_loopw [9, 10] (fun v9 v10 wr => ∃ i : Nat, v10 = .int .i64 (i : Int) ∧ v9 = .bool (handBare l i) ∧ Aside0 (i ≤ l.length ∧ i ≤ 20 ∧ (∃ own, MemC wr W.heap.size own g (HandsM (handAll s l i) 1)) ∧ Below W.heap.size W wr)) (fun _ v10 _ => (20 - intOf v10).toNat)
      case atStart => exact ⟨0, rfl, rfl, ⟨by omega, by omega, ⟨_, HM.out⟩, HB.out⟩⟩
      case round =>
        clear HM HB HL
        obtain ⟨i, rfl, rfl, HI⟩ := hrel
        obtain ⟨hi1, hi2, ⟨own, hm⟩, hb⟩ := HI.out
        have HM := Aside0.mk hm
        have HB := Aside0.mk hb
        have HAL := Aside0.mk (handAll_len (k := s) (n := i) (looks := l))
        have HL := Aside0.mk (show (HandsM (handAll s l i) 1).log.length ≤ 1000000 from by show (handAll s l i).length ≤ _; have := HAL.out; omega)
        clear hm hb HI
        by_cases hil : i < l.length ∧ i < 20
        · obtain ⟨h1, h2⟩ := hil
          have d1 := decide_eq_true (show (i : Int) < (l.length : Int) by omega)
          have d2 := decide_eq_true (show (i : Int) < (20 : Int) by omega)
          have q0 : (0 : Int) ≤ (i : Int) := by omega
          obtain ⟨ad, rfl, hx0⟩ := Kd.at_bool HC.out (i : Int) q0 (by omega)
          rw [Int.toNat_natCast] at hx0
          have HX := Aside0.mk (fun (w' : World) (hb : Below W.heap.size W w') => (hb.cell (p := ad.add i) (World.block_lt_of_cell? W _ hx0)).trans hx0)
          have hy := HX.out _ HB.out
          have er : rdOf false l (i : Int) = l.getD i false := by unfold rdOf; rw [Int.toNat_natCast]
          have hw : IntKind.i64.wrap ((i : Int) + 1) = (i : Int) + 1 := by rw [IntKind.wrap_i64]; omega
          have WI := Aside0.mk (show (Lit.int .i64 ((i : Int) + 1)).wf = true from wfI (by omega) (by omega))
          cases hlk : l.getD i false
          · rw [er, hlk] at hx0 hy HX
            have hI : handI l i = [⟨(i : Int) + 1, 2, 0, true⟩] := by unfold handI; rw [hlk]; rfl
            have hN := handAll_next s l i
            rw [hI] at hN
            have HN := Aside0.mk hN
            clear hx0 er hI hN
            cases hbi : handBare l i
            all_goals
              have HBN := Aside0.mk (show handBare l (i + 1) = true by rw [handBare, hbi, hlk]; rfl)
              go_wp2_with (first | (go_at_call 39; ((with_reducible refine (Get_C ((i : Int) + 1) 0 WI.out HM.out HL.out (box1 _ _)).mono ?_); rintro e w2 ⟨v2, own1, rfl, hr2, ⟨hc1, -⟩, -, hb1⟩; obtain ⟨A2, n2, c2, rfl⟩ := R_any hr2; rw [HandsM.get _ _ _ (by omega), ← HN.out] at hc1; clear hr2; have HM1 := Aside0.mk hc1; have HB1 := Aside0.mk (HB.out.trans hb1); clear hc1 hb1 HM HB; have HM := HM1; have HB := HB1; clear HM1 HB1)))
              go_roundw
              case rel => exact ⟨i + 1, by first | rfl | exact congrArg _ hw, congrArg Value.bool HBN.out.symm, ⟨by omega, by omega, ⟨_, HM.out⟩, HB.out⟩⟩
              case measure => simp [intOf]; omega
          · rw [er, hlk] at hx0 hy HX
            have hI : handI l i = [⟨(i : Int) + 1, 0, 0, true⟩, ⟨(i : Int) + 1, 2, 0, true⟩] := by unfold handI; rw [hlk]; rfl
            have hN := handAll_next s l i
            rw [hI] at hN
            have HN := Aside0.mk hN
            have HL2 := Aside0.mk (show (HandsM (handAll s l i ++ [⟨(i : Int) + 1, 0, 0, true⟩]) 1).log.length ≤ 1000000 from by show (handAll s l i ++ [_]).length ≤ _; have := HAL.out; simp; omega)
            clear hx0 er hI hN
            cases hbi : handBare l i
            all_goals
              have HBN := Aside0.mk (show handBare l (i + 1) = handBare l i by rw [handBare, hbi, hlk]; rfl)
              rw [hbi] at HBN
              go_wp2_with (first | (go_at_call 36; ((with_reducible refine (Load_C ((i : Int) + 1) 0 WI.out HM.out HL.out).mono ?_); rintro e w2 ⟨rfl, ⟨own1, hc1, -⟩, -, hb1⟩; rw [HandsM.load _ _ _ (by omega)] at hc1; have HM1 := Aside0.mk hc1; have HB1 := Aside0.mk (HB.out.trans hb1); clear hc1 hb1 HM HB; have HM := HM1; have HB := HB1; clear HM1 HB1; have hy2 := HX.out _ HB.out)) | (go_at_call 39; ((with_reducible refine (Get_C ((i : Int) + 1) 0 WI.out HM.out HL2.out (box1 _ _)).mono ?_); rintro e w2 ⟨v2, own1, rfl, hr2, ⟨hc1, -⟩, -, hb1⟩; obtain ⟨A2, n2, c2, rfl⟩ := R_any hr2; rw [HandsM.get _ _ _ (by omega), List.append_assoc, List.singleton_append, ← HN.out] at hc1; clear hr2; have HM1 := Aside0.mk hc1; have HB1 := Aside0.mk (HB.out.trans hb1); clear hc1 hb1 HM HB; have HM := HM1; have HB := HB1; clear HM1 HB1)))
              go_roundw
              case rel => exact ⟨i + 1, by first | rfl | exact congrArg _ hw, congrArg Value.bool HBN.out.symm, ⟨by omega, by omega, ⟨_, HM.out⟩, HB.out⟩⟩
              case measure => simp [intOf]; omega
        · obtain ⟨r1, r2, hR, hr1, hr2⟩ := handAll_race (k := s) (n := i) (looks := l) (by omega) hs5 hi2
          have HR := Aside0.mk hR
          have hc2 : (i < l.length ∧ ¬ i < 20) ∨ ¬ i < l.length := by omega
          clear hR hil HC
          cases hbare : handBare l i
          · obtain ⟨rfl, rfl⟩ := hr2 hbare
            clear hr1 hr2
            rcases hc2 with ⟨h1, h2⟩ | h1
            · have d1 := decide_eq_true (show (i : Int) < (l.length : Int) by omega)
              have d2 := decide_eq_false (show ¬ (i : Int) < (20 : Int) by omega)
              go_wp2_with (first | (go_at_call 48; ((with_reducible refine (Log_C HM.out HL.out).mono ?_); rintro e w2 ⟨v2, rfl, hq2, hb2⟩; obtain ⟨A2, n2, c2, rfl⟩ := R_any hq2; obtain ⟨e1_, e2_, e3_⟩ := Kd.R_reads' hq2; obtain rfl : n2 = (handAll s l i).length := e1_; have HRC := Aside0.mk (clock_Race.calls A2 c2 (handAll s l i) _ _ w2 e3_ e2_ HR.out); have HB1 := Aside0.mk (below_step HB.out hb2); clear hq2 hb2 HB e2_ e3_; have HB := HB1; clear HB1)) | (go_at_call 28; ((with_reducible refine HRC.out.mono ?_); rintro e w3 ⟨rfl, hb3⟩; have HB1 := Aside0.mk (below_step HB.out hb3); clear hb3 HB; have HB := HB1; clear HB1)))
              go_ret
              exact ⟨by first | rfl | (simp; done) | (simp [*]; done), HB.out⟩
            · have d1 := decide_eq_false (show ¬ (i : Int) < (l.length : Int) by omega)
              go_wp2_with (first | (go_at_call 48; ((with_reducible refine (Log_C HM.out HL.out).mono ?_); rintro e w2 ⟨v2, rfl, hq2, hb2⟩; obtain ⟨A2, n2, c2, rfl⟩ := R_any hq2; obtain ⟨e1_, e2_, e3_⟩ := Kd.R_reads' hq2; obtain rfl : n2 = (handAll s l i).length := e1_; have HRC := Aside0.mk (clock_Race.calls A2 c2 (handAll s l i) _ _ w2 e3_ e2_ HR.out); have HB1 := Aside0.mk (below_step HB.out hb2); clear hq2 hb2 HB e2_ e3_; have HB := HB1; clear HB1)) | (go_at_call 28; ((with_reducible refine HRC.out.mono ?_); rintro e w3 ⟨rfl, hb3⟩; have HB1 := Aside0.mk (below_step HB.out hb3); clear hb3 HB; have HB := HB1; clear HB1)))
              go_ret
              exact ⟨by first | rfl | (simp; done) | (simp [*]; done), HB.out⟩
          · obtain ⟨p1, p2⟩ := hr1 hbare
            clear hr1 hr2
            have b1 := decide_eq_true p1
            have b2 := decide_eq_true p2
            rcases hc2 with ⟨h1, h2⟩ | h1
            · have d1 := decide_eq_true (show (i : Int) < (l.length : Int) by omega)
              have d2 := decide_eq_false (show ¬ (i : Int) < (20 : Int) by omega)
              go_wp2_with (first | (go_at_call 48; ((with_reducible refine (Log_C HM.out HL.out).mono ?_); rintro e w2 ⟨v2, rfl, hq2, hb2⟩; obtain ⟨A2, n2, c2, rfl⟩ := R_any hq2; obtain ⟨e1_, e2_, e3_⟩ := Kd.R_reads' hq2; obtain rfl : n2 = (handAll s l i).length := e1_; have HRC := Aside0.mk (clock_Race.calls A2 c2 (handAll s l i) _ _ w2 e3_ e2_ HR.out); have HB1 := Aside0.mk (below_step HB.out hb2); clear hq2 hb2 HB e2_ e3_; have HB := HB1; clear HB1)) | (go_at_call 28; ((with_reducible refine HRC.out.mono ?_); rintro e w3 ⟨rfl, hb3⟩; have HB1 := Aside0.mk (below_step HB.out hb3); clear hb3 HB; have HB := HB1; clear HB1)))
              go_ret
              exact ⟨by first | rfl | (simp; done) | (simp [*]; done), HB.out⟩
            · have d1 := decide_eq_false (show ¬ (i : Int) < (l.length : Int) by omega)
              go_wp2_with (first | (go_at_call 48; ((with_reducible refine (Log_C HM.out HL.out).mono ?_); rintro e w2 ⟨v2, rfl, hq2, hb2⟩; obtain ⟨A2, n2, c2, rfl⟩ := R_any hq2; obtain ⟨e1_, e2_, e3_⟩ := Kd.R_reads' hq2; obtain rfl : n2 = (handAll s l i).length := e1_; have HRC := Aside0.mk (clock_Race.calls A2 c2 (handAll s l i) _ _ w2 e3_ e2_ HR.out); have HB1 := Aside0.mk (below_step HB.out hb2); clear hq2 hb2 HB e2_ e3_; have HB := HB1; clear HB1)) | (go_at_call 28; ((with_reducible refine HRC.out.mono ?_); rintro e w3 ⟨rfl, hb3⟩; have HB1 := Aside0.mk (below_step HB.out hb3); clear hb3 HB; have HB := HB1; clear HB1)))
              go_ret
              exact ⟨by first | rfl | (simp; done) | (simp [*]; done), HB.out⟩
open Go.RowKit Go.Proofs.YtlcnckbmolefpaaW.PrintWords
def marchlandlaw09_ClockHands.f (_k : Nat) (_a : Int) (_l : List Bool) : Option Bool := some true
theorem marchlandlaw09_ClockHands.calls (k : Nat) (a : Int) (A : Option Addr) (c : Nat) (l : List Bool) (r : Bool) (w : World) (hC : Kd.C Kd.bool w A l.length l) (hc : l.length ≤ c) (h : marchlandlaw09_ClockHands.f k a l = some r) :
    Calls Try.prog 11 #[.int .i64 a, .slice A l.length c] w fun e w' => e = .returned (.bool r) ∧ Below w.heap.size w w' := by
  obtain rfl := Option.some.inj h
  exact Hands_calls a A c l w hC hc
end Go.Proofs.Ytlcnckbmolefpaa.P
namespace Go.Proofs.Ytlcnckbmolefpaa.Pure
theorem ClockHands (a : Int) (l : List Bool) : ∃ k, P.marchlandlaw09_ClockHands.f k a l = some true := ⟨0, rfl⟩
end Go.Proofs.Ytlcnckbmolefpaa.Pure
end
section
namespace Go.Proofs.Ytlcnckbmolefpaa.P
open Go.RowKit Go.Proofs.YtlcnckbmolefpaaW.PrintWords Go.Proofs.YtlcnckbmolefpaaW.PrintLast Go.Proofs.YtlcnckbmolefpaaW.PrintMore
set_option linter.unusedVariables false
set_option linter.unusedSimpArgs false
open Go.ChangeShapes Go.WideShapes Go.Deep
def Opens (P : Program) (t : TypeId) {α : Type} (d : Kd α) (q : α → Prop) : Prop :=
  ∀ (H : Type) (enc : TypeId × Value → H) (w : World) (base : Nat) (spare : Nat → Bool) (held : Bool) (fuel : Nat) (cs : List Value) (x : DataW H × List MemPlace),
    DataW.trod enc P w base spare held fuel t cs = some x → ∃ y : α, d.K w y cs ∧ q y
theorem Opens.int {P : Program} {t : TypeId} {k : IntKind} (hu : P.underlying t = some (.int k)) : Opens P t (Kd.int k) (fun n => (Lit.int k n).wf = true) := by
  intro H enc w base spare held fuel cs x h
  obtain ⟨n, rfl, _, hw⟩ := DataW.trod_int hu h
  exact ⟨n, rfl, hw⟩
theorem Opens.bool {P : Program} {t : TypeId} (hu : P.underlying t = some .bool) : Opens P t Kd.bool (fun _ => True) := by
  intro H enc w base spare held fuel cs x h
  obtain ⟨b, rfl, _⟩ := DataW.trod_bool hu h
  exact ⟨b, rfl, trivial⟩
theorem Opens.imp {P : Program} {t : TypeId} {α : Type} {d : Kd α} {q q' : α → Prop} (h : Opens P t d q) (hq : ∀ y, q y → q' y) : Opens P t d q' := by
  intro H enc w base spare held fuel cs x hx
  obtain ⟨y, h1, h2⟩ := h H enc w base spare held fuel cs x hx
  exact ⟨y, h1, hq y h2⟩
theorem Opens.iso {P : Program} {t : TypeId} {α β : Type} {d : Kd α} {q : α → Prop} (h : Opens P t d q) (f : β → α) (g : α → β) (hfg : ∀ y, f (g y) = y) : Opens P t (Kd.iso d f) (fun x => q (f x)) := by
  intro H enc w base spare held fuel cs x hx
  obtain ⟨y, h1, h2⟩ := h H enc w base spare held fuel cs x hx
  refine ⟨g y, ?_, by show q (f (g y)); rw [hfg]; exact h2⟩
  show d.K w (f (g y)) cs
  rw [hfg]; exact h1
theorem Opens.slice {P : Program} {t e : TypeId} {α : Type} [Inhabited α] {d : Kd α} {q : α → Prop} (hu : P.underlying t = some (.slice e)) (hc : P.cellsOf e = d.sz) (h : Opens P e d q) : Opens P t (Kd.slice e d) (fun l => l.length ≤ maxLen ∧ ∀ y ∈ l, q y) := by
  intro H enc w base spare held fuel cs x hx
  rcases open_slice hu hx with ⟨rfl, _⟩ | ⟨a, len, cap, m, n, D, Pl, rfl, hb, hl, hm, hmm, _, hel⟩
  · exact ⟨[], ⟨none, 0, rfl, Nat.le_refl _, rfl, Nat.zero_le _, fun h => absurd h (by simp)⟩, Nat.zero_le _, fun y hy => by simp at hy⟩
  · have hlm : len ≤ m := by rw [hmm]; split <;> omega
    obtain ⟨Y, hY⟩ := choose_lt (α := α) (n := len) (p := fun i y => ∃ cs', w.cells? base (a.add (i * P.cellsOf e)) (P.cellsOf e) = some cs' ∧ d.K w y cs' ∧ q y) (fun i hi => by
      obtain ⟨cs', h1, h2⟩ := hel i (by omega)
      obtain ⟨y, h3, h4⟩ := h H enc w base spare held n cs' _ h2
      exact ⟨y, cs', h1, h3, h4⟩)
    have hlen : ((List.range len).map Y).length = len := by simp
    refine ⟨(List.range len).map Y, ⟨some a, cap, by rw [hlen], by rw [hlen]; exact hl, rfl, ?_, fun _ => ⟨a, rfl, fun j p hj => ?_⟩⟩, ?_, fun y hy => ?_⟩
    · rw [hlen]; unfold maxLen at hm; omega
    · obtain ⟨hjl, hje⟩ := List.getElem?_eq_some_iff.1 hj
      rw [hlen] at hjl
      have hpj : p = Y j := by rw [← hje]; simp
      obtain ⟨cs', h1, h3, _⟩ := hY j hjl
      obtain ⟨_, hcl, hcc⟩ := World.cells?_some h1
      refine ⟨cs', d.K_len h3, by rw [hpj]; exact h3, fun i u hu2 => ?_⟩
      have hi := (List.getElem?_eq_some_iff.1 hu2).1
      rw [d.K_len h3] at hi
      have h5 := hcc i (by rw [hc]; exact hi)
      rw [hc, Go.Deep.add_add] at h5
      rw [h5, ← hu2]
    · rw [hlen]; omega
    · obtain ⟨j, hj, rfl⟩ := List.mem_map.1 hy
      obtain ⟨_, _, _, h4⟩ := hY j (List.mem_range.1 hj)
      exact h4
def OpensSeg (P : Program) (fs : List Field) (off : Nat) {α : Type} (d : Kd α) (q : α → Prop) : Prop :=
  ∀ (H : Type) (enc : TypeId × Value → H) (w : World) (base : Nat) (spare : Nat → Bool) (held : Bool) (fuel : Nat) (cs : List Value), cs.length = d.sz →
    (∀ f ∈ fs, ∃ x : DataW H × List MemPlace, DataW.trod enc P w base spare held fuel f.type ((cs.drop (f.offset - off)).take (P.cellsOf f.type)) = some x) → ∃ y : α, d.K w y cs ∧ q y
theorem OpensSeg.one {P : Program} {f : Field} {off : Nat} {α : Type} {d : Kd α} {q : α → Prop} (ho : f.offset = off) (hc : P.cellsOf f.type = d.sz) (h : Opens P f.type d q) : OpensSeg P [f] off d q := by
  intro H enc w base spare held fuel cs hl hf
  obtain ⟨x, hx⟩ := hf f List.mem_cons_self
  rw [ho, Nat.sub_self, List.drop_zero, hc, ← hl, List.take_length] at hx
  exact h H enc w base spare held fuel cs x hx
theorem OpensSeg.cons {P : Program} {f : Field} {fs : List Field} {off : Nat} {α β : Type} {d : Kd α} {d2 : Kd β} {q : α → Prop} {q2 : β → Prop} (ho : f.offset = off) (hc : P.cellsOf f.type = d.sz) (hm : ∀ g ∈ fs, off + d.sz ≤ g.offset) (h : Opens P f.type d q) (h2 : OpensSeg P fs (off + d.sz) d2 q2) :
    OpensSeg P (f :: fs) off (Kd.pair d d2) (fun y => q y.1 ∧ q2 y.2) := by
  intro H enc w base spare held fuel cs hl hf
  have hl' : cs.length = d.sz + d2.sz := hl
  obtain ⟨x, hx⟩ := hf f List.mem_cons_self
  rw [ho, Nat.sub_self, List.drop_zero, hc] at hx
  obtain ⟨y, h3, h4⟩ := h H enc w base spare held fuel _ x hx
  obtain ⟨y2, h5, h6⟩ := h2 H enc w base spare held fuel (cs.drop d.sz) (by rw [List.length_drop]; omega) (fun g hg => by
    obtain ⟨x2, hx2⟩ := hf g (List.mem_cons_of_mem _ hg)
    refine ⟨x2, ?_⟩
    have := hm g hg
    rw [List.drop_drop, show d.sz + (g.offset - (off + d.sz)) = g.offset - off by omega]
    exact hx2)
  exact ⟨(y, y2), ⟨cs.take d.sz, cs.drop d.sz, (List.take_append_drop _ _).symm, h3, h5⟩, h4, h6⟩
theorem Opens.struct {P : Program} {t : TypeId} {fs : Array Field} {α : Type} {d : Kd α} {q : α → Prop} (hu : P.underlying t = some (.struct fs)) (hc : P.cellsOf t = d.sz) (h : OpensSeg P fs.toList 0 d q) : Opens P t d q := by
  intro H enc w base spare held fuel cs x hx
  obtain ⟨xs, n, rfl, _, hl, hxs, hf⟩ := DataW.trod_struct hu hx
  refine h H enc w base spare held n cs (by rw [hl, hc]) (fun f hf2 => ?_)
  obtain ⟨i, hi, rfl⟩ := List.getElem_of_mem hf2
  have h1 := hf i fs.toList[i] (by rw [Array.getElem?_eq_getElem (by simpa using hi)]; simp)
  have hi2 : i < fs.size := by simpa using hi
  rw [List.getElem?_eq_getElem (by omega)] at h1
  exact ⟨_, by rw [Nat.sub_zero]; exact h1⟩
theorem Opens.arg {P : Program} {t e : TypeId} {α : Type} {d : Kd α} {q : List α → Prop} (ho : Opens P t (Kd.slice e d) q) {H : Type} {enc : TypeId × Value → H} {w : World} {base : Nat} {spare : Nat → Bool} {held : Bool} {a : Option Addr} {len cap : Nat} {D : DataW H} {ps : List MemPlace} (h : DataW.Trod enc P w base spare held t (.slice a len cap) D ps) :
    ∃ l : List α, len = l.length ∧ Kd.C d w a l.length l ∧ l.length ≤ cap ∧ q l := by
  obtain ⟨fuel, hf⟩ := h
  obtain ⟨l, ⟨A, c, he, hlc, hC⟩, hq⟩ := ho H enc w base spare held fuel _ _ hf
  simp [Value.cells] at he
  obtain ⟨rfl, rfl, rfl⟩ := he
  exact ⟨l, rfl, hC, hlc, hq⟩
theorem sized_slice_any {H : Type} {enc : TypeId × Value → H} {P : Program} {W : World} {base : Nat} {spare : Nat → Bool} {held : Bool} {t e : TypeId} {a : Option Addr} {len cap : Nat} {d : DataW H} {ps : List MemPlace} {ts : List TypeId} {ds : List (DataW H)} {j : Nat}
    (hsz : (DataW.weightsEach P ts ds).all (· ≤ reachBytes) = true) (ht : ts[j]? = some t) (hd : ds[j]? = some d) (hu : P.underlying t = some (.slice e)) {B : Nat} (hB : P.bytesOf e = B)
    (h : DataW.Trod enc P W base spare held t (.slice a len cap) d ps) : len * B ≤ 140737488351232 := by
  obtain ⟨fuel, hf⟩ := h
  rcases open_slice hu hf with ⟨hcs, _⟩ | ⟨x, l, c, m, n, D, Pl, hcs, _, hl, _, hm, hx, _⟩
  · simp [Value.cells] at hcs
    obtain ⟨rfl, rfl, rfl⟩ := hcs
    simp
  · simp [Value.cells] at hcs
    obtain ⟨rfl, rfl, rfl⟩ := hcs
    obtain ⟨hx, _⟩ := Prod.mk.inj hx
    subst hx
    have z := sized_slice hsz ht hd hu
    rw [hB] at z
    have h1 : len ≤ ((List.range len).map D).length + ((List.range (m - len)).map fun j => D (len + j)).length := by simp
    exact Nat.le_trans (Nat.mul_le_mul_right _ h1) z
instance : Inhabited S127 := ⟨z127⟩
theorem opens_bool {P : Program} {t : TypeId} (hu : P.underlying t = some .bool) : Opens P t Kd.bool (fun _ => True) := (Opens.bool hu).imp fun _ _ => trivial
theorem opens38 : Opens Try.prog 38 (Kd.slice 4 Kd.bool) (fun l => l.length ≤ maxLen ∧ ∀ y ∈ l, True) := Opens.slice Try.underlying38 (by kernel_rfl) (opens_bool Try.underlying4)
end Go.Proofs.Ytlcnckbmolefpaa.P
end
