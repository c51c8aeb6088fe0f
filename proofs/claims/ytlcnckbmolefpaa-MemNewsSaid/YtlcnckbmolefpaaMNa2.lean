/- Walks and laws of several statements of this seat, joined into one text; no condition. -/
import Derived.Test.YtlcnckbmolefpaaProg
import Derived.Below
import Derived.Deep.Draws
import Derived.Deep.AppendLies
import Derived.Maps.AppendAt
import Derived.OwnWalk
import Derived.Laws.BytesArg
import Derived.Laws.MakeOwn
import Derived.Laws.OwnMore
import Derived.Deep.OwnRows
import Derived.Tactics
import Derived.Lib.ConvBytes
import Derived.Laws.Slices
import Derived.WalkKit
import Derived.KernelRfl
import Derived.RowKit3
import Derived.Deep.LoopGhost
import Derived.Deep.QuietTactic
import Derived.BigQuiet
import Derived.WideLaws
import Derived.Deep.DeepCutAuto
import Derived.Deep.CutBlock
import Derived.Deep.RegionHeld3
import Derived.Laws.Rows
import Derived.Lib.AppendStr
import Derived.ArgAppend
import Derived.Laws.IdiomCopy
import Derived.OrdersHeld
import Derived.Laws.BitsLemmas
import Derived.RowKit
import Derived.Laws.StructEq
import Derived.Maps.RangeWalk
import Derived.Maps.OwnRows
import Derived.Maps.Views
import Derived.Maps.OwnSet
import Derived.IntWalk
import Derived.Shelf.SlMaps.Clone
import Derived.Laws.CopyOwn
import Derived.Deep.RegionLaw
import Derived.LoopTactic
import Derived.Outline
import Derived.Lib.BufferMore
import Derived.Deep.CutRange
import Derived.Deep.Slices
import Derived.SizedLaws
import Derived.Test.YtlcnckbmolefpaaMNa0
import Derived.Test.YtlcnckbmolefpaaMNa1
section
namespace Go.Proofs.Ytlcnckbmolefpaa.P
open Go.RowKit Go.Maps Go.Proofs.Ytlcnckbmolefpaa.CK Go.Proofs.YtlcnckbmolefpaaW.PrintWords Go.Proofs.YtlcnckbmolefpaaW.PrintLast Go.Proofs.YtlcnckbmolefpaaW.PrintMore
set_option linter.unusedVariables false
set_option linter.unusedSimpArgs false
set_option maxRecDepth 100000
def T8.t0 : MS := ⟨List.replicate 1 0, List.replicate 1 [], List.replicate 1 (-1), fun _ => none, 0, []⟩
def T8.t1 : MS := T8.t0.pass 0 4 0 (-1) 0
def T8.t2 : MS := T8.t1.pass 1 4 0 (-1) 1
def T8.t3 : MS := T8.t2.sleep 0 0
def T8.t4 : MS := T8.t3.pass 1 4 0 (-1) 1
def T8.t5 : MS := T8.t4.pass 0 4 0 (-1) 0
def T8.t6 : MS := T8.t5.wake 1 0
def T8.t7 : MS := T8.t6.store 0 0 7
def T8.t8 : MS := T8.t7.loadTo 1 0
theorem T8.facts : (T8.t0.passB 0 0 (-1) = true ∧ T8.t1.passB 1 0 (-1) = false ∧ T8.t2.passB 0 0 0 = true ∧ T8.t3.passB 1 0 (-1) = true) ∧ ((T8.t4.beds 0).isSome = true ∧ T8.t4.passB 0 0 (-1) = false ∧ T8.t5.passB 1 0 1 = true ∧ (T8.t7.beds 0).isSome = false) ∧ (T8.t7.load 1 0 = 7 ∧ T8.t8.log.length = 7 ∧ T8.t8.holder 0 = 1) := by
  refine ⟨⟨?_, ?_, ?_, ?_⟩, ⟨?_, ?_, ?_, ?_⟩, ?_, ?_, ?_⟩ <;> decide
theorem T8.small : (T8.t0.log.length ≤ 1000000 ∧ T8.t1.log.length ≤ 1000000 ∧ T8.t2.log.length ≤ 1000000 ∧ T8.t3.log.length ≤ 1000000) ∧ (T8.t4.log.length ≤ 1000000 ∧ T8.t5.log.length ≤ 1000000 ∧ T8.t6.log.length ≤ 1000000 ∧ T8.t7.log.length ≤ 1000000) ∧ (T8.t2.nb ≤ 1000000 ∧ T8.t5.nb ≤ 1000000) := by
  refine ⟨⟨?_, ?_, ?_, ?_⟩, ⟨?_, ?_, ?_, ?_⟩, ?_, ?_⟩ <;> decide
theorem T8.bed (x : Int) : T8.t5.beds x = some 0 ↔ x = 0 := by
  have e : T8.t5.beds = upd (fun _ => none) 0 (some 0) := rfl
  rw [e]
  unfold upd
  by_cases h : x = 0
  · simp [h]
  · simp [h]
theorem T8.one {V : List Int} (hn : V.Nodup) (h : ∀ x, x ∈ V ↔ T8.t5.passB 1 0 1 = true ∧ T8.t5.beds x = some 0) : V.length = 1 := by
  have h2 : ∀ x, x ∈ V ↔ x = 0 := fun x => by rw [h, T8.bed, T8.facts.2.1.2.2.1]; simp
  match V, hn, h2 with
  | [], _, h2 => exact absurd ((h2 0).2 rfl) List.not_mem_nil
  | [a], _, _ => rfl
  | a :: b :: l, hn, h2 =>
    have ha := (h2 a).1 (by simp)
    have hb := (h2 b).1 (by simp)
    rw [ha, hb] at hn
    simp at hn
theorem told8_calls (W : World) : Calls Try.prog 31 #[] W fun e w' => e = .returned (.bool true) ∧ Below W.heap.size W w' := by
  have w0 : (Lit.int .i64 0).wf = true := by decide
  have w1 : (Lit.int .i64 1).wf = true := by decide
  have W0 := Aside0.mk w0
  have W1 := Aside0.mk w1
  have SM := Aside0.mk T8.small
  obtain ⟨⟨b0, b1, b2, b3⟩, ⟨b4, b5, b6, b7⟩, b8, b9, b10⟩ := T8.facts
  clear w0 w1
  go_enter Try.func31, Try.ntmps31
  go_upto_region 4 with (first | (go_at_call 30; ((refine (New_C 1 1 1 (by decide) (by decide) (by decide) _).mono ?_); rintro e w1 ⟨g, own0, rfl, hm, -, hb⟩; have HM := Aside0.mk (show MemC w1 W.heap.size own0 g T8.t0 from hm); have HB := Aside0.mk hb; clear hm hb)))
  go_upto_region 5 with (first
    | (go_at_call 49; ((with_reducible refine (Take_C 0 0 W0.out HM.out SM.out.1.1).mono ?_); rintro e w2 ⟨rfl, ⟨own1, hc1, -⟩, -, hb1⟩; have HM1 := Aside0.mk (show MemC w2 W.heap.size own1 g T8.t1 from hc1); have HB1 := Aside0.mk (HB.out.trans hb1); clear hc1 hb1 HM HB; have HM := HM1; have HB := HB1; clear HM1 HB1))
    | (go_at_call 49; ((with_reducible refine (Take_C 1 0 W1.out HM.out SM.out.1.2.1).mono ?_); rintro e w2 ⟨rfl, ⟨own1, hc1, -⟩, -, hb1⟩; have HM1 := Aside0.mk (show MemC w2 W.heap.size own1 g T8.t2 from hc1); have HB1 := Aside0.mk (HB.out.trans hb1); clear hc1 hb1 HM HB; have HM := HM1; have HB := HB1; clear HM1 HB1))
    | (go_at_call 51; ((with_reducible refine (Sleep_C 0 0 W0.out W0.out HM.out SM.out.1.2.2.1 SM.out.2.2.1).mono ?_); rintro e w2 ⟨rfl, ⟨own1, hc1, -⟩, -, hb1⟩; have HM1 := Aside0.mk (show MemC w2 W.heap.size own1 g T8.t3 from hc1); have HB1 := Aside0.mk (HB.out.trans hb1); clear hc1 hb1 HM HB; have HM := HM1; have HB := HB1; clear HM1 HB1))
    | (go_at_call 49; ((with_reducible refine (Take_C 1 0 W1.out HM.out SM.out.1.2.2.2).mono ?_); rintro e w2 ⟨rfl, ⟨own1, hc1, -⟩, -, hb1⟩; have HM1 := Aside0.mk (show MemC w2 W.heap.size own1 g T8.t4 from hc1); have HB1 := Aside0.mk (HB.out.trans hb1); clear hc1 hb1 HM HB; have HM := HM1; have HB := HB1; clear HM1 HB1)))
  go_upto_region 6 with (first
    | (go_at_call 44; (with_reducible refine (Asleep_C 0 W0.out HM.out).mono ?_); rintro e w2 ⟨rfl, rfl⟩)
    | (go_at_call 49; ((with_reducible refine (Take_C 0 0 W0.out HM.out SM.out.2.1.1).mono ?_); rintro e w2 ⟨rfl, ⟨own1, hc1, -⟩, -, hb1⟩; have HM1 := Aside0.mk (show MemC w2 W.heap.size own1 g T8.t5 from hc1); have HB1 := Aside0.mk (HB.out.trans hb1); clear hc1 hb1 HM HB; have HM := HM1; have HB := HB1; clear HM1 HB1)))
  go_upto_region 7 with (first
    | (go_at_call 52; ((with_reducible refine (Wake_C 1 0 W1.out HM.out SM.out.2.1.2.1 SM.out.2.2.2).mono ?_); rintro e w2 ⟨V, rfl, hV1, hV2, ⟨own1, hc1, -⟩, -, hb1⟩; have hV := T8.one hV1 hV2; have HM1 := Aside0.mk (show MemC w2 W.heap.size own1 g T8.t6 from hc1); have HB1 := Aside0.mk (HB.out.trans hb1); clear hc1 hb1 HM HB hV1 hV2; have HM := HM1; have HB := HB1; clear HM1 HB1)))
  go_upto_region 8 with (first
    | (go_at_call 32; ((with_reducible refine (Store_C 0 0 7 W0.out HM.out SM.out.2.1.2.2.1).mono ?_); rintro e w2 ⟨rfl, ⟨own1, hc1, -⟩, -, hb1⟩; have HM1 := Aside0.mk (show MemC w2 W.heap.size own1 g T8.t7 from hc1); have HB1 := Aside0.mk (HB.out.trans hb1); clear hc1 hb1 HM HB; have HM := HM1; have HB := HB1; clear HM1 HB1)))
  go_wp2_with (first
    | (go_at_call 44; (with_reducible refine (Asleep_C 0 W0.out HM.out).mono ?_); rintro e w2 ⟨rfl, rfl⟩)
    | (go_at_call 36; ((with_reducible refine (Load_C 1 0 W1.out HM.out SM.out.2.1.2.2.2).mono ?_); rintro e w2 ⟨rfl, ⟨own1, hc1, -⟩, -, hb1⟩; have HM1 := Aside0.mk (show MemC w2 W.heap.size own1 g T8.t8 from hc1); have HB1 := Aside0.mk (HB.out.trans hb1); clear hc1 hb1 HM HB; have HM := HM1; have HB := HB1; clear HM1 HB1))
    | (go_at_call 43; (with_reducible refine (Time_C HM.out).mono ?_); rintro e w2 ⟨rfl, rfl⟩)
    | (go_at_call 46; (with_reducible refine (Holder_C 0 HM.out).mono ?_); rintro e w2 ⟨rfl, rfl⟩))
  go_ret
  exact ⟨by first | rfl | (simp; done) | (simp [*]; done), HB.out⟩
set_option maxRecDepth 100000
def News.m (a b c : Nat) : MS := ⟨List.replicate a 0, List.replicate b [], List.replicate c (-1), fun _ => none, 0, []⟩
theorem News.facts (a b c : Nat) : (News.m a b c).loadTo 0 a = News.m a b c ∧ (News.m a b c).load 0 a = 0 ∧ (News.m a b c).pass 0 4 c (-1) 0 = News.m a b c ∧ (News.m a b c).passB 0 c (-1) = false ∧ (News.m a b c).getTo 0 b = News.m a b c ∧ (News.m a b c).get 0 b = [] := by
  have f1 : (News.m a b c).fits 0 a ((News.m a b c).words.length : Int) = false := by simp [News.m, MS.fits]
  have f2 : (News.m a b c).fits 0 b ((News.m a b c).boxes.length : Int) = false := by simp [News.m, MS.fits]
  have f3 : (News.m a b c).fits 0 c ((News.m a b c).latches.length : Int) = false := by simp [News.m, MS.fits]
  refine ⟨?_, ?_, ?_, ?_, ?_, ?_⟩
  · unfold MS.loadTo; rw [f1]; rfl
  · unfold MS.load; rw [f1]; rfl
  · unfold MS.pass; rw [f3]; rfl
  · unfold MS.passB; rw [f3]; rfl
  · unfold MS.getTo; rw [f2]; rfl
  · unfold MS.get; rw [f2]; rfl
theorem News.small (a b c : Nat) : (News.m a b c).log.length ≤ 1000000 ∧ ∀ x ∈ (News.m a b c).boxes, x.length ≤ 1000000 := ⟨by simp [News.m], fun x hx => by
  have : x ∈ List.replicate b ([] : List S143) := hx
  rw [(List.mem_replicate.1 this).2]; simp⟩
theorem R_len {α : Type} {d : Kd α} {e : Nat} {w : World} {base : Nat} {ok : Nat → Prop} {v : Value} (h : Kd.R d e w base ok v ([] : List α)) : ∃ A c, v = .slice A 0 c := by
  obtain ⟨A, c, e⟩ := Kd.R_slice h
  exact ⟨A, c, e⟩
set_option maxHeartbeats 4000000 in
theorem MemNews_calls (a b c : Int) (W : World) : Calls Try.prog 9 #[.int .i64 a, .int .i64 b, .int .i64 c] W fun e w' => e = .returned (.bool true) ∧ Below W.heap.size W w' := by
  have w0 : (Lit.int .i64 0).wf = true := by decide
  have W0 := Aside0.mk w0
  clear w0
  go_enter Try.func9, Try.ntmps9
  go_wp2_with (first | (at_builtin; fail) | ((with_reducible refine gate_dst (N := 16) rfl ?_); (refine Kd.R_lit (Kd.int .i64) W.heap.size 3 rfl (N := 16) rfl (xs := [a, b, c]) (inner := [.int .i64 a, .int .i64 b, .int .i64 c]) (ok := fun _ => True) (okp := fun _ => True) (by first | (go_simp; done) | (go_simp; rfl)) (Kd.reps_scalar (enc := fun x : Int => Value.int .i64 x) [a, b, c]) (fun _ h => h) trivial (Below.refl _ W) (Nat.le_refl _) (by simp) ?_; intro v1 w1 hr hb _ _; obtain ⟨A1, n1, c1, rfl⟩ := R_any hr; obtain ⟨e1, -, hC⟩ := Kd.R_reads' hr; obtain rfl : n1 = 3 := e1; have HR := Aside0.mk hr; have HB := Aside0.mk hb; clear hr hb hC)))
  go_loopw [18] (fun v18 wr => ∃ i : Int, v18 = .int .i64 i ∧ 0 ≤ i ∧ i ≤ 3 ∧ wr = w1) (fun v18 _ => ((3 : Int) - intOf v18).toNat)
  case atStart => exact ⟨0, rfl, by omega, by omega, rfl⟩
  case round =>
    obtain ⟨i, rfl, i0, i3, rfl⟩ := hrel
    by_cases hlt : i < 3
    · have hltb := decide_eq_true hlt
      obtain ⟨ad, rfl, hx⟩ := Kd.at_int (Kd.R_reads' HR.out).2.2 i i0 hlt
      by_cases h1 : 9000 < rd [a, b, c] i
      · by_cases h2 : rd [a, b, c] i ≤ 65536
        · have d1 := decide_eq_true h1
          have d2 := decide_eq_true h2
          go_wp2_with (first | (go_at_call 31; (with_reducible refine (told8_calls _).mono ?_); rintro e w2 ⟨rfl, hb2⟩))
          go_ret
          exact ⟨rfl, below_step HB.out hb2⟩
        · have d1 := decide_eq_true h1
          have d2 := decide_eq_false h2
          go_wp2
          go_roundw
          case rel => exact ⟨i + 1, by go_num, by omega, by omega, by first | rfl | trivial⟩
          case measure => simp [intOf]; omega
      · have d1 := decide_eq_false h1
        go_wp2
        go_roundw
        case rel => exact ⟨i + 1, by go_num, by omega, by omega, by first | rfl | trivial⟩
        case measure => simp [intOf]; omega
    · have hltb := decide_eq_false hlt
      clear HR
      by_cases hok : (mayB a && mayB b && mayB c) = true
      · have ha : 0 ≤ a ∧ a ≤ 65536 := by simp [mayB] at hok; exact hok.1.1
        have hb : 0 ≤ b ∧ b ≤ 65536 := by simp [mayB] at hok; exact hok.1.2
        have hc : 0 ≤ c ∧ c ≤ 65536 := by simp [mayB] at hok; exact hok.2
        obtain ⟨na, rfl⟩ := Int.eq_ofNat_of_zero_le ha.1
        obtain ⟨nb, rfl⟩ := Int.eq_ofNat_of_zero_le hb.1
        obtain ⟨nc, rfl⟩ := Int.eq_ofNat_of_zero_le hc.1
        have d1 := decide_eq_true ha.1
        have d2 := decide_eq_true hb.1
        have d3 := decide_eq_true hc.1
        have d4 := decide_eq_true ha.2
        have d5 := decide_eq_true hb.2
        have d6 := decide_eq_true hc.2
        have HN := Aside0.mk (fun W => New_C na nb nc (by omega) (by omega) (by omega) W)
        clear ha hb hc hok
        have HNS := Aside0.mk (News.small na nb nc)
        have HBS := Aside0.mk HB.out.size
        obtain ⟨f1, f2, f3, f4, f5, f6⟩ := News.facts na nb nc
        have f7 : ((News.m na nb nc).log.length : Int) = 0 := rfl
        go_upto_region 8 with (first | (go_at_call 30; ((with_reducible refine (HN.out _).mono ?_); rintro e w2 ⟨g, own0, rfl, hm, -, hb2⟩; have HM := Aside0.mk (show MemC w2 _ own0 g (News.m na nb nc) from hm); have HB1 := Aside0.mk (below_step HB.out hb2); clear hm hb2 HB; have HB := HB1; clear HB1)))
        go_upto_region 14 with (first | (go_at_call 31; (with_reducible refine (told8_calls _).mono ?_); rintro e w2 ⟨rfl, hb2⟩; have HB1 := Aside0.mk (below_step HB.out hb2); have HM1 := Aside0.mk (HM.out.below hb2); clear hb2 HB HM; have HB := HB1; have HM := HM1; clear HB1 HM1) | (go_at_call 43; (with_reducible refine (Time_nil _).mono ?_); rintro e w2 ⟨rfl, rfl⟩) | (go_at_call 48; (with_reducible refine (Log_nil _).mono ?_); rintro e w2 ⟨rfl, rfl⟩) | (go_at_call 36; (with_reducible refine (Load_nil 0 0 _).mono ?_); rintro e w2 ⟨rfl, rfl⟩) | (go_at_call 39; (with_reducible refine (Get_nil 0 0 _).mono ?_); rintro e w2 ⟨rfl, rfl⟩) | (go_at_call 49; (with_reducible refine (Take_nil 0 0 _).mono ?_); rintro e w2 ⟨rfl, rfl⟩) | (go_at_call 50; (with_reducible refine (Free_nil 0 0 _).mono ?_); rintro e w2 ⟨rfl, rfl⟩) | (go_at_call 51; (with_reducible refine (Sleep_nil 0 0 _).mono ?_); rintro e w2 ⟨rfl, rfl⟩) | (go_at_call 52; (with_reducible refine (Wake_nil 0 0 _).mono ?_); rintro e w2 ⟨rfl, rfl⟩) | (go_at_call 44; (with_reducible refine (Asleep_nil 0 _).mono ?_); rintro e w2 ⟨rfl, rfl⟩) | (go_at_call 46; (with_reducible refine (Holder_nil 0 _).mono ?_); rintro e w2 ⟨rfl, rfl⟩) | (go_at_call 32; (with_reducible refine (Store_nil 0 0 1 _).mono ?_); rintro e w2 ⟨rfl, rfl⟩) | (go_at_call 34; (with_reducible refine (Set_nil 0 0 _ _).mono ?_); rintro e w2 ⟨rfl, rfl⟩))
        go_wp2_with (first
          | (go_at_call 43; (with_reducible refine (Time_C HM.out).mono ?_); rintro e w2 ⟨rfl, rfl⟩)
          | (go_at_call 48; ((with_reducible refine (Log_C HM.out HNS.out.1).mono ?_); rintro e w2 ⟨v2, rfl, hr2, hb2⟩; obtain ⟨A2, c2, rfl⟩ := R_len hr2; have HB1 := Aside0.mk (below_step HB.out hb2); have HM1 := Aside0.mk (HM.out.below hb2); clear hr2 hb2 HB HM; have HB := HB1; have HM := HM1; clear HB1 HM1))
          | (go_at_call 36; ((with_reducible refine (Load_C 0 na W0.out HM.out HNS.out.1).mono ?_); rintro e w2 ⟨rfl, ⟨own1, hc1, -⟩, -, hb1⟩; rw [f1] at hc1; have HB1 := Aside0.mk (HB.out.trans (hb1.mono HBS.out)); have HM1 := Aside0.mk hc1; clear hc1 hb1 HB HM; have HB := HB1; have HM := HM1; clear HB1 HM1))
          | (go_at_call 49; ((with_reducible refine (Take_C 0 nc W0.out HM.out HNS.out.1).mono ?_); rintro e w2 ⟨rfl, ⟨own1, hc1, -⟩, -, hb1⟩; rw [f3] at hc1; have HB1 := Aside0.mk (HB.out.trans (hb1.mono HBS.out)); have HM1 := Aside0.mk hc1; clear hc1 hb1 HB HM; have HB := HB1; have HM := HM1; clear HB1 HM1))
          | (go_at_call 39; ((with_reducible refine (Get_C 0 nb W0.out HM.out HNS.out.1 HNS.out.2).mono ?_); rintro e w2 ⟨v2, own1, rfl, hr2, ⟨hc1, -⟩, -, hb1⟩; rw [f6] at hr2; obtain ⟨A2, c2, rfl⟩ := R_len hr2; rw [f5] at hc1; have HB1 := Aside0.mk (HB.out.trans (hb1.mono HBS.out)); have HM1 := Aside0.mk hc1; clear hr2 hc1 hb1 HB HM; have HB := HB1; have HM := HM1; clear HB1 HM1)))
        go_ret
        exact ⟨by first | rfl | (simp; done) | (simp [*]; done), HB.out⟩
      · have hbad : (mayB a && mayB b && mayB c) = false := by simpa using hok
        have HN := Aside0.mk (fun W => New_bad a b c hbad W)
        have hc6 : (¬ 0 ≤ a) ∨ (0 ≤ a ∧ ¬ 0 ≤ b) ∨ (0 ≤ a ∧ 0 ≤ b ∧ ¬ 0 ≤ c) ∨ (0 ≤ a ∧ 0 ≤ b ∧ 0 ≤ c ∧ ¬ a ≤ 65536) ∨ (0 ≤ a ∧ 0 ≤ b ∧ 0 ≤ c ∧ a ≤ 65536 ∧ ¬ b ≤ 65536) ∨ (0 ≤ a ∧ 0 ≤ b ∧ 0 ≤ c ∧ a ≤ 65536 ∧ b ≤ 65536 ∧ ¬ c ≤ 65536) := by
          simp [mayB] at hok
          omega
        clear hok hbad
        rcases hc6 with h1 | ⟨h1, h2⟩ | ⟨h1, h2, h3⟩ | ⟨h1, h2, h3, h4⟩ | ⟨h1, h2, h3, h4, h5⟩ | ⟨h1, h2, h3, h4, h5, h6⟩
        all_goals
          (first | have d1 := decide_eq_true h1 | have d1 := decide_eq_false h1)
          (try first | have d2 := decide_eq_true h2 | have d2 := decide_eq_false h2)
          (try first | have d3 := decide_eq_true h3 | have d3 := decide_eq_false h3)
          (try first | have d4 := decide_eq_true h4 | have d4 := decide_eq_false h4)
          (try first | have d5 := decide_eq_true h5 | have d5 := decide_eq_false h5)
          (try first | have d6 := decide_eq_true h6 | have d6 := decide_eq_false h6)
          go_wp2_with (first | (go_at_call 30; ((with_reducible refine (HN.out _).mono ?_); rintro e w2 ⟨rfl, hb2⟩; have HB1 := Aside0.mk (below_step HB.out hb2); clear hb2 HB; have HB := HB1; clear HB1)) | (go_at_call 31; (with_reducible refine (told8_calls _).mono ?_); rintro e w2 ⟨rfl, hb2⟩; have HB1 := Aside0.mk (below_step HB.out hb2); clear hb2 HB; have HB := HB1; clear HB1) | (go_at_call 43; (with_reducible refine (Time_nil _).mono ?_); rintro e w2 ⟨rfl, rfl⟩) | (go_at_call 48; (with_reducible refine (Log_nil _).mono ?_); rintro e w2 ⟨rfl, rfl⟩) | (go_at_call 36; (with_reducible refine (Load_nil 0 0 _).mono ?_); rintro e w2 ⟨rfl, rfl⟩) | (go_at_call 39; (with_reducible refine (Get_nil 0 0 _).mono ?_); rintro e w2 ⟨rfl, rfl⟩) | (go_at_call 49; (with_reducible refine (Take_nil 0 0 _).mono ?_); rintro e w2 ⟨rfl, rfl⟩) | (go_at_call 50; (with_reducible refine (Free_nil 0 0 _).mono ?_); rintro e w2 ⟨rfl, rfl⟩) | (go_at_call 51; (with_reducible refine (Sleep_nil 0 0 _).mono ?_); rintro e w2 ⟨rfl, rfl⟩) | (go_at_call 52; (with_reducible refine (Wake_nil 0 0 _).mono ?_); rintro e w2 ⟨rfl, rfl⟩) | (go_at_call 44; (with_reducible refine (Asleep_nil 0 _).mono ?_); rintro e w2 ⟨rfl, rfl⟩) | (go_at_call 46; (with_reducible refine (Holder_nil 0 _).mono ?_); rintro e w2 ⟨rfl, rfl⟩) | (go_at_call 32; (with_reducible refine (Store_nil 0 0 1 _).mono ?_); rintro e w2 ⟨rfl, rfl⟩) | (go_at_call 34; (with_reducible refine (Set_nil 0 0 _ _).mono ?_); rintro e w2 ⟨rfl, rfl⟩))
          go_ret
          exact ⟨rfl, HB.out⟩
open Go.RowKit
def marchlandlaw08_MemNews.f (_k : Nat) (_a _b _c : Int) : Option Bool := some true
theorem marchlandlaw08_MemNews.calls (k : Nat) (a b c : Int) (r : Bool) (w : World) (h : marchlandlaw08_MemNews.f k a b c = some r) :
    Calls Try.prog 9 #[.int .i64 a, .int .i64 b, .int .i64 c] w fun e w' => e = .returned (.bool r) ∧ Below w.heap.size w w' := by
  obtain rfl := Option.some.inj h
  exact MemNews_calls a b c w
end Go.Proofs.Ytlcnckbmolefpaa.P
namespace Go.Proofs.Ytlcnckbmolefpaa.Pure
theorem MemNews (a b c : Int) : ∃ k, P.marchlandlaw08_MemNews.f k a b c = some true := ⟨0, rfl⟩
end Go.Proofs.Ytlcnckbmolefpaa.Pure
end
section
namespace Go.Proofs.Ytlcnckbmolefpaa.P
open Go.RowKit Go.Proofs.YtlcnckbmolefpaaW.PrintWords Go.Proofs.YtlcnckbmolefpaaW.PrintLast Go.Proofs.YtlcnckbmolefpaaW.PrintMore
set_option linter.unusedVariables false
set_option linter.unusedSimpArgs false
open Go.ChangeShapes Go.WideShapes Go.Deep
def Opens (P : Program) (t : TypeId) {α : Type} (d : Kd α) (q : α → Prop) : Prop :=
  ∀ (H : Type) (enc : TypeId × Value → H) (w : World) (base : Nat) (spare : Nat → Bool) (held : Bool) (fuel : Nat) (cs : List Value) (x : DataW H × List MemPlace),
    DataW.trod enc P w base spare held fuel t cs = some x → ∃ y : α, d.K w y cs ∧ q y
theorem Opens.int {P : Program} {t : TypeId} {k : IntKind} (hu : P.underlying t = some (.int k)) : Opens P t (Kd.int k) (fun n => (Lit.int k n).wf = true) := by
  intro H enc w base spare held fuel cs x h
  obtain ⟨n, rfl, _, hw⟩ := DataW.trod_int hu h
  exact ⟨n, rfl, hw⟩
theorem Opens.bool {P : Program} {t : TypeId} (hu : P.underlying t = some .bool) : Opens P t Kd.bool (fun _ => True) := by
  intro H enc w base spare held fuel cs x h
  obtain ⟨b, rfl, _⟩ := DataW.trod_bool hu h
  exact ⟨b, rfl, trivial⟩
theorem Opens.iso {P : Program} {t : TypeId} {α β : Type} {d : Kd α} {q : α → Prop} (h : Opens P t d q) (f : β → α) (g : α → β) (hfg : ∀ y, f (g y) = y) : Opens P t (Kd.iso d f) (fun x => q (f x)) := by
  intro H enc w base spare held fuel cs x hx
  obtain ⟨y, h1, h2⟩ := h H enc w base spare held fuel cs x hx
  refine ⟨g y, ?_, by show q (f (g y)); rw [hfg]; exact h2⟩
  show d.K w (f (g y)) cs
  rw [hfg]; exact h1
theorem Opens.slice {P : Program} {t e : TypeId} {α : Type} [Inhabited α] {d : Kd α} {q : α → Prop} (hu : P.underlying t = some (.slice e)) (hc : P.cellsOf e = d.sz) (h : Opens P e d q) : Opens P t (Kd.slice e d) (fun l => l.length ≤ maxLen ∧ ∀ y ∈ l, q y) := by
  intro H enc w base spare held fuel cs x hx
  rcases open_slice hu hx with ⟨rfl, _⟩ | ⟨a, len, cap, m, n, D, Pl, rfl, hb, hl, hm, hmm, _, hel⟩
  · exact ⟨[], ⟨none, 0, rfl, Nat.le_refl _, rfl, Nat.zero_le _, fun h => absurd h (by simp)⟩, Nat.zero_le _, fun y hy => by simp at hy⟩
  · have hlm : len ≤ m := by rw [hmm]; split <;> omega
    obtain ⟨Y, hY⟩ := choose_lt (α := α) (n := len) (p := fun i y => ∃ cs', w.cells? base (a.add (i * P.cellsOf e)) (P.cellsOf e) = some cs' ∧ d.K w y cs' ∧ q y) (fun i hi => by
      obtain ⟨cs', h1, h2⟩ := hel i (by omega)
      obtain ⟨y, h3, h4⟩ := h H enc w base spare held n cs' _ h2
      exact ⟨y, cs', h1, h3, h4⟩)
    have hlen : ((List.range len).map Y).length = len := by simp
    refine ⟨(List.range len).map Y, ⟨some a, cap, by rw [hlen], by rw [hlen]; exact hl, rfl, ?_, fun _ => ⟨a, rfl, fun j p hj => ?_⟩⟩, ?_, fun y hy => ?_⟩
    · rw [hlen]; unfold maxLen at hm; omega
    · obtain ⟨hjl, hje⟩ := List.getElem?_eq_some_iff.1 hj
      rw [hlen] at hjl
      have hpj : p = Y j := by rw [← hje]; simp
      obtain ⟨cs', h1, h3, _⟩ := hY j hjl
      obtain ⟨_, hcl, hcc⟩ := World.cells?_some h1
      refine ⟨cs', d.K_len h3, by rw [hpj]; exact h3, fun i u hu2 => ?_⟩
      have hi := (List.getElem?_eq_some_iff.1 hu2).1
      rw [d.K_len h3] at hi
      have h5 := hcc i (by rw [hc]; exact hi)
      rw [hc, Go.Deep.add_add] at h5
      rw [h5, ← hu2]
    · rw [hlen]; omega
    · obtain ⟨j, hj, rfl⟩ := List.mem_map.1 hy
      obtain ⟨_, _, _, h4⟩ := hY j (List.mem_range.1 hj)
      exact h4
def OpensSeg (P : Program) (fs : List Field) (off : Nat) {α : Type} (d : Kd α) (q : α → Prop) : Prop :=
  ∀ (H : Type) (enc : TypeId × Value → H) (w : World) (base : Nat) (spare : Nat → Bool) (held : Bool) (fuel : Nat) (cs : List Value), cs.length = d.sz →
    (∀ f ∈ fs, ∃ x : DataW H × List MemPlace, DataW.trod enc P w base spare held fuel f.type ((cs.drop (f.offset - off)).take (P.cellsOf f.type)) = some x) → ∃ y : α, d.K w y cs ∧ q y
theorem OpensSeg.one {P : Program} {f : Field} {off : Nat} {α : Type} {d : Kd α} {q : α → Prop} (ho : f.offset = off) (hc : P.cellsOf f.type = d.sz) (h : Opens P f.type d q) : OpensSeg P [f] off d q := by
  intro H enc w base spare held fuel cs hl hf
  obtain ⟨x, hx⟩ := hf f List.mem_cons_self
  rw [ho, Nat.sub_self, List.drop_zero, hc, ← hl, List.take_length] at hx
  exact h H enc w base spare held fuel cs x hx
theorem OpensSeg.cons {P : Program} {f : Field} {fs : List Field} {off : Nat} {α β : Type} {d : Kd α} {d2 : Kd β} {q : α → Prop} {q2 : β → Prop} (ho : f.offset = off) (hc : P.cellsOf f.type = d.sz) (hm : ∀ g ∈ fs, off + d.sz ≤ g.offset) (h : Opens P f.type d q) (h2 : OpensSeg P fs (off + d.sz) d2 q2) :
    OpensSeg P (f :: fs) off (Kd.pair d d2) (fun y => q y.1 ∧ q2 y.2) := by
  intro H enc w base spare held fuel cs hl hf
  have hl' : cs.length = d.sz + d2.sz := hl
  obtain ⟨x, hx⟩ := hf f List.mem_cons_self
  rw [ho, Nat.sub_self, List.drop_zero, hc] at hx
  obtain ⟨y, h3, h4⟩ := h H enc w base spare held fuel _ x hx
  obtain ⟨y2, h5, h6⟩ := h2 H enc w base spare held fuel (cs.drop d.sz) (by rw [List.length_drop]; omega) (fun g hg => by
    obtain ⟨x2, hx2⟩ := hf g (List.mem_cons_of_mem _ hg)
    refine ⟨x2, ?_⟩
    have := hm g hg
    rw [List.drop_drop, show d.sz + (g.offset - (off + d.sz)) = g.offset - off by omega]
    exact hx2)
  exact ⟨(y, y2), ⟨cs.take d.sz, cs.drop d.sz, (List.take_append_drop _ _).symm, h3, h5⟩, h4, h6⟩
theorem Opens.struct {P : Program} {t : TypeId} {fs : Array Field} {α : Type} {d : Kd α} {q : α → Prop} (hu : P.underlying t = some (.struct fs)) (hc : P.cellsOf t = d.sz) (h : OpensSeg P fs.toList 0 d q) : Opens P t d q := by
  intro H enc w base spare held fuel cs x hx
  obtain ⟨xs, n, rfl, _, hl, hxs, hf⟩ := DataW.trod_struct hu hx
  refine h H enc w base spare held n cs (by rw [hl, hc]) (fun f hf2 => ?_)
  obtain ⟨i, hi, rfl⟩ := List.getElem_of_mem hf2
  have h1 := hf i fs.toList[i] (by rw [Array.getElem?_eq_getElem (by simpa using hi)]; simp)
  have hi2 : i < fs.size := by simpa using hi
  rw [List.getElem?_eq_getElem (by omega)] at h1
  exact ⟨_, by rw [Nat.sub_zero]; exact h1⟩
end Go.Proofs.Ytlcnckbmolefpaa.P
end
