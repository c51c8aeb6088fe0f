/- Walks and laws of several statements of this seat, joined into one text; no condition. -/
import Derived.Test.YtlcnckbmolefpaaProg
import Derived.Below
import Derived.Deep.Draws
import Derived.Deep.AppendLies
import Derived.Maps.AppendAt
import Derived.OwnWalk
import Derived.Laws.BytesArg
import Derived.Laws.MakeOwn
import Derived.Laws.OwnMore
import Derived.Deep.OwnRows
import Derived.Tactics
import Derived.Lib.ConvBytes
import Derived.Laws.Slices
import Derived.WalkKit
import Derived.KernelRfl
import Derived.RowKit3
import Derived.Deep.LoopGhost
import Derived.Deep.QuietTactic
import Derived.BigQuiet
import Derived.WideLaws
import Derived.Deep.DeepCutAuto
import Derived.Deep.CutBlock
import Derived.Deep.RegionHeld3
import Derived.Laws.Rows
import Derived.Lib.AppendStr
import Derived.ArgAppend
import Derived.Laws.IdiomCopy
import Derived.OrdersHeld
import Derived.Laws.BitsLemmas
import Derived.RowKit
import Derived.Laws.StructEq
import Derived.Maps.RangeWalk
import Derived.Maps.OwnRows
import Derived.Maps.Views
import Derived.Maps.OwnSet
import Derived.IntWalk
import Derived.Shelf.SlMaps.Clone
import Derived.Laws.CopyOwn
import Derived.Deep.RegionLaw
import Derived.LoopTactic
import Derived.Outline
import Derived.Lib.BufferMore
import Derived.Deep.CutRange
import Derived.Lib.Zigzag
import Derived.Laws.EntriesVeiled
import Derived.Lib.Builder
import Derived.LaidEqlPtr
import Derived.Deep.Slices
import Derived.SizedLaws
import Derived.OpenShut
import Derived.Lib.SmallJoins
import Derived.Test.YtlcnckbmolefpaaRAa0
import Derived.Test.YtlcnckbmolefpaaRAa1
import Derived.Test.YtlcnckbmolefpaaRAa2
import Derived.Test.YtlcnckbmolefpaaRAa4
section
namespace Go.Proofs.Ytlcnckbmolefpaa.P
open Go.RowKit Go.Maps Go.Proofs.Ytlcnckbmolefpaa.CK Go.Proofs.YtlcnckbmolefpaaW.PrintWords Go.Proofs.YtlcnckbmolefpaaW.PrintLast Go.Proofs.YtlcnckbmolefpaaW.PrintMore
set_option linter.unusedVariables false
set_option linter.unusedSimpArgs false
section
variable {W w w' w2 : World} {B : Nat} {own own' : Nat → Prop} {gr na : Nat} {M M' : MS} {R R' : RC} {A : AC} {bl bl' : List S143} {n a : Nat} {q : List (List S143)} {who : Int} {v0 : Value}
theorem RGTo.trans1 {A' : AC} (hs : ∀ k, own' k → own k ∨ w.heap.size ≤ k) (hk : Kept w w' (fun k => own k ∨ k = gr ∨ k = na)) (hb : Below B w w') (h2 : RGTo w' w2 B own' gr na M' R' A' bl') : RGTo w w2 B own gr na M' R' A' bl' := by
  obtain ⟨own2, h3, hs3, hk3, hb3⟩ := h2
  refine ⟨own2, h3, fun k ho => (hs3 k ho).elim (hs k) (fun hl => .inr (Nat.le_trans hk.1 hl)), kept_trans hk (kept_or hk3 (fun k e => ?_)), hb.trans hb3⟩
  rcases e with e | e
  · exact (hs k e).imp .inl id
  · exact .inl (.inr e)
theorem RGTo.bind {f : FuncId} {args : Array Value} {E : Ending} {A' : Value → AC} (hT : RGTo W w B own gr na M R A bl) (hc : ∀ own', RG w B own' gr na M R A bl → Calls Try.prog f args w fun e w' => e = E ∧ ∃ v, RGTo w w' B own' gr na M' R' (A' v) bl') :
    Calls Try.prog f args w fun e w' => e = E ∧ ∃ v, RGTo W w' B own gr na M' R' (A' v) bl' := by
  obtain ⟨own', h1, hs, hk, hb⟩ := hT
  refine (hc own' h1).mono ?_
  rintro e w' ⟨rfl, v, h2⟩
  exact ⟨rfl, v, RGTo.trans1 hs hk hb h2⟩
def Fini (W w' : World) (B : Nat) (own : Nat → Prop) (gr na : Nat) (M : MS) (R : RC) (A : AC) (bl : List S143) : Prop := RGTo W w' B own gr na M R A bl ∧ A.st = .nilFunc ∧ A.mark = (M.log.length : Int)
theorem Fini.over (h : Fini W w' B own gr na M R A bl) : Calls Try.prog 57 #[.pointer (some ⟨na, 0, none⟩)] w' fun e w2 => e = .returned (.bool true) ∧ w2 = w' := by
  obtain ⟨⟨own', h1, -⟩, hs, -⟩ := h
  exact Over_done h1.act hs
theorem pushFull (h : RG W B own gr na M R (pushA who v0) bl) (hi : QI M R n a q) (hl : a + q.length ≤ 100000) (hq : q.length = n) (hwho : (Lit.int .i64 who).wf = true) (h0 : 0 ≤ who) (hlog : M.log.length ≤ 900000) :
    Calls Try.prog 58 #[.pointer (some ⟨na, 0, none⟩)] W fun e w' => e = .returned (.bool true) ∧ ∃ v, Fini W w' B own gr na (M.note who 0 2 true) R { pushA who v0 with st := .nilFunc, ok := false, b := v, mark := ((M.note who 0 2 true).log.length : Int) } bl := by
  obtain ⟨l1, l2⟩ := hi.look_in h0
  have hd : decide (R.size ≤ IntKind.u64.wrap (R.ci - M.load who R.wo)) = true := by rw [l1, hi.full hl]; exact decide_eq_true hq
  refine finish_gen 1 ⟨by omega, by omega⟩ (fun _ w => RGTo W w B own gr na M R (pushA who v0) bl) (fun w' => ∃ v, Fini W w' B own gr na (M.note who 0 2 true) R { pushA who v0 with st := .nilFunc, ok := false, b := v, mark := ((M.note who 0 2 true).log.length : Int) } bl) h.self (fun i hi => absurd hi (by omega)) ?_ ?_
  · intro i _ w hT
    refine (hT.bind (M' := M.note who 0 2 true) (R' := R) (bl' := bl) (fun own' hg => Step95e (A' := { pushA who v0 with st := .nilFunc, ok := false }) hg rfl (by rw [hi.bd]; rfl) hwho rfl (fun W1 hg1 => (room_C true hg1 rfl hwho (by omega) hd).mono ?_))).mono ?_
    · rintro e w' ⟨rfl, h2⟩
      rw [show (pushA who v0).who = who from rfl, l2] at h2
      exact ⟨rfl, v0, h2⟩
    · rintro e w' ⟨rfl, v, h2⟩
      exact ⟨rfl, v, h2, rfl, rfl⟩
  · rintro w ⟨v, hf⟩
    exact hf.over
theorem pushRoom (h : RG W B own gr na M R (pushA who v0) bl) (hi : QI M R n a q) (hl : a + q.length ≤ 100000) (hq : q.length < n) (hwho : (Lit.int .i64 who).wf = true) (h0 : 0 ≤ who) (hlog : M.log.length ≤ 900000) (hbl : bl.length ≤ 12) :
    Calls Try.prog 58 #[.pointer (some ⟨na, 0, none⟩)] W fun e w' => e = .returned (.bool true) ∧ ∃ v M3, Fini W w' B own gr na M3 { R with ci := IntKind.u64.wrap (R.ci + 1) } { pushA who v0 with st := .nilFunc, ok := true, b := v, mark := (M3.log.length : Int) } bl ∧ QI M3 { R with ci := IntKind.u64.wrap (R.ci + 1) } n a (q ++ [bl]) ∧ M3.log.length = M.log.length + 3 := by
  obtain ⟨l1, l2⟩ := hi.look_in h0
  have hd : decide (R.size ≤ IntKind.u64.wrap (R.ci - M.load who R.wo)) = false := by rw [l1, hi.full hl]; exact decide_eq_false (by omega)
  obtain ⟨M2, M3, e2, e3, hi3, g2, g3, gb⟩ := (hi.note who 0 2 true).push hl hq hbl h0
  have gn : (M.note who 0 2 true).log.length = M.log.length + 1 := by simp [MS.note]
  have hbd : ∀ w : Int, ((M.note who 0 2 true).beds w).isSome = false := fun w => by rw [(hi.note who 0 2 true).bd]; rfl
  refine (finish_gen 3 ⟨by omega, by omega⟩ (fun i w => if i = 0 then RGTo W w B own gr na M R (pushA who v0) bl else if i = 1 then ∃ v, RGTo W w B own gr na (M.note who 0 2 true) R { pushA who v0 with st := stg 114, b := v } bl else ∃ v, RGTo W w B own gr na M2 R { pushA who v0 with st := stg 123, b := v } bl) (fun w' => ∃ v, Fini W w' B own gr na M3 { R with ci := IntKind.u64.wrap (R.ci + 1) } { pushA who v0 with st := .nilFunc, ok := true, b := v, mark := (M3.log.length : Int) } bl) h.self ?_ ?_ ?_).mono ?_
  · intro i hi3' w hT
    have hi2 : i = 0 ∨ i = 1 := by omega
    rcases hi2 with rfl | rfl
    · have hT : RGTo W w B own gr na M R (pushA who v0) bl := hT
      refine (hT.bind (M' := M.note who 0 2 true) (R' := R) (bl' := bl) (fun own' hg => Step95 (A' := { pushA who v0 with st := stg 114 }) hg rfl (by rw [hi.bd]; rfl) hwho rfl (fun W1 hg1 => (room_C false hg1 rfl hwho (by omega) hd).mono ?_)))
      rintro e w' ⟨rfl, h2⟩
      rw [show (pushA who v0).who = who from rfl, l2] at h2
      exact ⟨rfl, v0, h2⟩
    · obtain ⟨v, hT⟩ : ∃ v, RGTo W w B own gr na (M.note who 0 2 true) R { pushA who v0 with st := stg 114, b := v } bl := hT
      refine (hT.bind (M' := M2) (R' := R) (bl' := bl) (fun own' hg => Step114 (A' := { pushA who v0 with st := stg 123, b := v }) hg rfl (hbd _) hwho rfl (fun W1 hg1 => (lay_C hg1 hwho (by omega) (by omega)).mono ?_)))
      rintro e w' ⟨rfl, h2⟩
      have h2' : RGTo W1 w' B own' gr na ((M.note who 0 2 true).set_ who (R.place R.ci) bl) R { pushA who v0 with st := stg 123, b := v } bl := h2
      rw [e2] at h2'
      exact ⟨rfl, v, h2'⟩
  · intro i hi3' w hT
    obtain rfl : i = 2 := by omega
    obtain ⟨v, hT⟩ : ∃ v, RGTo W w B own gr na M2 R { pushA who v0 with st := stg 123, b := v } bl := hT
    refine (hT.bind (M' := M3) (R' := { R with ci := IntKind.u64.wrap (R.ci + 1) }) (bl' := bl) (fun own' hg => Step123e (A' := { pushA who v0 with st := .nilFunc, ok := true, b := v }) hg rfl (by rw [gb]; rfl) hwho rfl (fun W1 hg1 => (tell_in hg1 rfl hwho (by omega)).mono ?_))).mono ?_
    · rintro e w' ⟨rfl, h2⟩
      have h2' : RGTo W1 w' B own' gr na (M2.store who R.wi (IntKind.u64.wrap (R.ci + 1))) { R with ci := IntKind.u64.wrap (R.ci + 1) } { pushA who v0 with st := .nilFunc, ok := true, b := v } bl := h2
      rw [e3] at h2'
      exact ⟨rfl, v, h2'⟩
    · rintro e w' ⟨rfl, v, h2⟩
      exact ⟨rfl, v, h2, rfl, rfl⟩
  · rintro w ⟨v, hf⟩
    exact hf.over
  · rintro e w' ⟨rfl, v, hf⟩
    exact ⟨rfl, v, M3, hf, hi3, by omega⟩
theorem popEmpty (h : RG W B own gr na M R (popA who) bl) (hi : QI M R n a q) (hl : a + q.length ≤ 100000) (hq : q.length = 0) (hwho : (Lit.int .i64 who).wf = true) (h0 : 0 ≤ who) (hlog : M.log.length ≤ 900000) :
    Calls Try.prog 58 #[.pointer (some ⟨na, 0, none⟩)] W fun e w' => e = .returned (.bool true) ∧ ∃ v, Fini W w' B own gr na (M.note who 0 1 true) R { popA who with st := .nilFunc, ok := false, b := v, mark := ((M.note who 0 1 true).log.length : Int) } bl := by
  obtain ⟨l1, l2⟩ := hi.look_out h0
  have hd : (M.load who R.wi == R.co) = true := by rw [l1, hi.emp]; exact decide_eq_true hq
  refine finish_gen 1 ⟨by omega, by omega⟩ (fun _ w => RGTo W w B own gr na M R (popA who) bl) (fun w' => ∃ v, Fini W w' B own gr na (M.note who 0 1 true) R { popA who with st := .nilFunc, ok := false, b := v, mark := ((M.note who 0 1 true).log.length : Int) } bl) h.self (fun i hi => absurd hi (by omega)) ?_ ?_
  · intro i _ w hT
    refine (hT.bind (M' := M.note who 0 1 true) (R' := R) (bl' := bl) (fun own' hg => Step94e (A' := { popA who with st := .nilFunc, ok := false }) hg rfl (by rw [hi.bd]; rfl) hwho rfl (fun W1 hg1 => (some_C true hg1 rfl hwho (by omega) hd).mono ?_))).mono ?_
    · rintro e w' ⟨rfl, h2⟩
      rw [show (popA who).who = who from rfl, l2] at h2
      exact ⟨rfl, _, h2⟩
    · rintro e w' ⟨rfl, v, h2⟩
      exact ⟨rfl, v, h2, rfl, rfl⟩
  · rintro w ⟨v, hf⟩
    exact hf.over
theorem popOne {b : List S143} (h : RG W B own gr na M R (popA who) bl) (hi : QI M R n a (b :: q)) (hl : a + q.length + 1 ≤ 100000) (hwho : (Lit.int .i64 who).wf = true) (h0 : 0 ≤ who) (hlog : M.log.length ≤ 900000) :
    Calls Try.prog 58 #[.pointer (some ⟨na, 0, none⟩)] W fun e w' => e = .returned (.bool true) ∧ ∃ v M3, Fini W w' B own gr na M3 { R with co := IntKind.u64.wrap (R.co + 1) } { popA who with st := .nilFunc, ok := true, b := v, mark := (M3.log.length : Int) } b ∧ QI M3 { R with co := IntKind.u64.wrap (R.co + 1) } n (a + 1) q ∧ M3.log.length = M.log.length + 3 := by
  obtain ⟨l1, l2⟩ := hi.look_out h0
  have hd : (M.load who R.wi == R.co) = false := by rw [l1, hi.emp]; exact decide_eq_false (by simp)
  obtain ⟨M2, M3, e2, eb, e3, hi3, g2, g3, gb⟩ := (hi.note who 0 1 true).pop hl h0
  have gn : (M.note who 0 1 true).log.length = M.log.length + 1 := by simp [MS.note]
  have hbd : ∀ w : Int, ((M.note who 0 1 true).beds w).isSome = false := fun w => by rw [(hi.note who 0 1 true).bd]; rfl
  refine (finish_gen 3 ⟨by omega, by omega⟩ (fun i w => if i = 0 then RGTo W w B own gr na M R (popA who) bl else if i = 1 then ∃ v, RGTo W w B own gr na (M.note who 0 1 true) R { popA who with st := stg 113, b := v } bl else ∃ v, RGTo W w B own gr na M2 R { popA who with st := stg 123, b := v } b) (fun w' => ∃ v, Fini W w' B own gr na M3 { R with co := IntKind.u64.wrap (R.co + 1) } { popA who with st := .nilFunc, ok := true, b := v, mark := (M3.log.length : Int) } b) h.self ?_ ?_ ?_).mono ?_
  · intro i hi3' w hT
    have hi2 : i = 0 ∨ i = 1 := by omega
    rcases hi2 with rfl | rfl
    · have hT : RGTo W w B own gr na M R (popA who) bl := hT
      refine (hT.bind (M' := M.note who 0 1 true) (R' := R) (bl' := bl) (fun own' hg => Step94 (A' := { popA who with st := stg 113 }) hg rfl (by rw [hi.bd]; rfl) hwho rfl (fun W1 hg1 => (some_C false hg1 rfl hwho (by omega) hd).mono ?_)))
      rintro e w' ⟨rfl, h2⟩
      rw [show (popA who).who = who from rfl, l2] at h2
      exact ⟨rfl, _, h2⟩
    · obtain ⟨v, hT⟩ : ∃ v, RGTo W w B own gr na (M.note who 0 1 true) R { popA who with st := stg 113, b := v } bl := hT
      refine (hT.bind (M' := M2) (R' := R) (bl' := b) (fun own' hg => Step113 (A' := { popA who with st := stg 123, b := v }) hg rfl (hbd _) hwho rfl (fun W1 hg1 => (fetch_C hg1 hwho (by omega) (fun c hc => Nat.le_trans ((hi.note who 0 1 true).sm c hc) (by omega))).mono ?_)))
      rintro e w' ⟨rfl, v2, h2⟩
      have h2' : RGTo W1 w' B own' gr na ((M.note who 0 1 true).getTo who (R.place R.co)) R { popA who with st := stg 123, b := v2 } ((M.note who 0 1 true).get who (R.place R.co)) := h2
      rw [e2, eb] at h2'
      exact ⟨rfl, v2, h2'⟩
  · intro i hi3' w hT
    obtain rfl : i = 2 := by omega
    obtain ⟨v, hT⟩ : ∃ v, RGTo W w B own gr na M2 R { popA who with st := stg 123, b := v } b := hT
    refine (hT.bind (M' := M3) (R' := { R with co := IntKind.u64.wrap (R.co + 1) }) (bl' := b) (fun own' hg => Step123e (A' := { popA who with st := .nilFunc, ok := true, b := v }) hg rfl (by rw [gb]; rfl) hwho rfl (fun W1 hg1 => (tell_out hg1 rfl hwho (by omega)).mono ?_))).mono ?_
    · rintro e w' ⟨rfl, h2⟩
      have h2' : RGTo W1 w' B own' gr na (M2.store who R.wo (IntKind.u64.wrap (R.co + 1))) { R with co := IntKind.u64.wrap (R.co + 1) } { popA who with st := .nilFunc, ok := true, b := v } b := h2
      rw [e3] at h2'
      exact ⟨rfl, v, h2'⟩
    · rintro e w' ⟨rfl, v, h2⟩
      exact ⟨rfl, v, h2, rfl, rfl⟩
  · rintro w ⟨v, hf⟩
    exact hf.over
  · rintro e w' ⟨rfl, v, hf⟩
    exact ⟨rfl, v, M3, hf, hi3, by omega⟩
end
attribute [local go_sem] max2_int min2_int max_two min_two
set_option maxRecDepth 100000
theorem QI.start (n gm : Nat) (hn : n = 1 ∨ n = 2 ∨ n = 4 ∨ n = 8 ∨ n = 16) : QI (RingM n) (RC.start gm (n : Int)) n 0 [] :=
  ⟨rfl, by show rd (List.replicate 4 0) 1 = 0; decide, by show rd (List.replicate 4 0) 2 = 0; decide, by simp [RingM], rfl, rfl, rfl, rfl, rfl, rfl, rfl, by simp, hn, fun j hj => absurd hj (by simp), fun b hb => by
    have hb : b ∈ List.replicate (n + 2) ([] : List S143) := hb
    rw [(List.mem_replicate.1 hb).2]; simp⟩
theorem QI.setAi {M : MS} {R : RC} {n a : Nat} {q : List (List S143)} (h : QI M R n a q) (v : Value) : QI M { R with ai := v } n a q := ⟨h.wl, h.w1, h.w2, h.bl, h.bx, h.sz, h.wi, h.wo, h.bd, h.co, h.ci, h.le, h.hn, h.it, h.sm⟩
theorem QI.setAo {M : MS} {R : RC} {n a : Nat} {q : List (List S143)} (h : QI M R n a q) (v : Value) : QI M { R with ao := v } n a q := ⟨h.wl, h.w1, h.w2, h.bl, h.bx, h.sz, h.wi, h.wo, h.bd, h.co, h.ci, h.le, h.hn, h.it, h.sm⟩
theorem ActAt.kept {w w' : World} {gr nb : Nat} {A : AC} {S : Nat → Prop} (h : ActAt w gr nb A) (hk : Kept w w' S) (hn : ¬ S nb) : ActAt w' gr nb A := (hk.2 nb (blk_lt h) hn).trans h
theorem ActAt.below {w w' : World} {gr nb : Nat} {A : AC} (h : ActAt w gr nb A) (hb : Below w.heap.size w w') : ActAt w' gr nb A := (hb.block nb (blk_lt h)).trans h
theorem over_at {w w1 : World} {gr nb : Nat} {A : AC} (h : ActAt w gr nb A) (hs : A.st = .nilFunc) (hb : Below w.heap.size w w1) : Calls Try.prog 57 #[.pointer (some ⟨nb, 0, none⟩)] w1 fun e w' => e = .returned (.bool true) ∧ w' = w1 := Over_done (h.below hb) hs
def e5 : S143 := ⟨0, 5, 1⟩
set_option maxHeartbeats 4000000 in
theorem told11_C (W : World) : Calls Try.prog 55 #[] W fun e w' => e = .returned (.bool true) ∧ Below W.heap.size W w' := by
  go_enter Try.func55, Try.ntmps55
  go_upto_region 4 with (first | (go_at_call 54; ((refine (rbegin_C 1 (by omega) W).mono ?_); rintro e w1 ⟨gm, gr, own, rfl, hrb, hown, hb⟩; have HRB := Aside0.mk hrb; have HB := Aside0.mk hb; clear hrb hown hb)))
  have QI0 := Aside0.mk (QI.start 1 gm (by omega))
  go_upto_region 5 with (first | ((with_reducible refine gate_dst (N := 16) rfl ?_); refine Kd.R_lit k143 _ 143 ?hg (N := 16) ?hd (xs := ([(⟨0, 5, 1⟩ : S143)])) (inner := [.int .i64 0, .int .u64 5, .int .i64 1]) (ok := fun _ => True) (okp := fun _ => True) ?hr ?hp (fun _ hk => hk) trivial (Below.refl _ _) (Nat.le_refl _) (by simp) ?_; (case hd => rfl); (case hg => rfl); (case hr => first | (go_simp; done) | (go_simp; rfl)); (case hp => exact (Reps.c3 (show Kd.M k143 _ _ _ (⟨0, 5, 1⟩ : S143) [.int .i64 0, .int .u64 5, .int .i64 1] from (k143_mkM _ _ _ (⟨0, 5, 1⟩ : S143))) (Reps.none _ _))); intro v1 w2 ho1 hb1 hg_ hnew_; clear hg_ hnew_; obtain ⟨A1, n1, c1, rfl⟩ := R_any ho1; obtain ⟨en1, -, hC1⟩ := Kd.R_reads' ho1; subst en1; have HRB2 := Aside0.mk (HRB.out.below hb1); have PU := Aside0.mk (Push_ok (bl := [e5]) 0 A1 c1 HRB2.out hC1 (by decide) (fun w1 _ => Over_nil w1)); have HB2 := Aside0.mk (below_step HB.out hb1); clear ho1 hb1 hC1) | (go_at_call 63; ((refine PU.out.mono ?_); rintro e w3 ⟨na, v, rfl, hge, hrg, hk, hb⟩; have HG := Aside0.mk hrg; have HB3 := Aside0.mk (HB2.out.trans hb); clear hge hrg hk hb)))
  have F1 := Aside0.mk (pushRoom HG.out (QI0.out.setAi _) (by decide) (by decide) (by decide) (by decide) (by show ([] : List S128).length ≤ _; decide) (by decide))
  clear PU HRB HRB2 HB HB2
  go_upto_region 6 with (first | (go_at_call 58; ((refine F1.out.mono ?_); rintro e w4 ⟨rfl, v4, M4, ⟨⟨own4, hg4, hs4, hk4, hb4⟩, -, -⟩, hqi, hlg⟩; have HG4 := Aside0.mk hg4; have HQ4 := Aside0.mk hqi; have HL4 := Aside0.mk hlg; have HB4 := Aside0.mk (HB3.out.trans hb4); clear hg4 hs4 hk4 hb4 hqi hlg)) | (go_at_call 60; ((refine (Ok_C HG4.out.act).mono ?_); rintro e w5 ⟨rfl, hw5⟩; obtain rfl : w4 = w5 := hw5.symm)))
  clear F1 HG HB3 QI0
  have PU0 := Push_ok (bl := []) 0 none 0 HG4.out.rb (Kd.R_reads' (Kd.R_nil k143 143 w4 0 (fun _ => True))).2.2 (by decide) (fun w1 hb => over_at HG4.out.act rfl hb)
  have PU := Aside0.mk (show Calls Try.prog 63 #[.pointer (some ⟨gr, 0, none⟩), .int .i64 0, .slice none 0 0] w4 _ from PU0)
  clear PU0
  go_upto_region 7 with (first | (go_at_call 63; ((refine PU.out.mono ?_); rintro e w6 ⟨nb, vb, rfl, hge, hrg, hk, hb⟩; have HG6 := Aside0.mk hrg; have HB6 := Aside0.mk (HB4.out.trans hb); clear hge hrg hk hb)))
  have F2 := Aside0.mk (pushFull HG6.out (HQ4.out.setAi _) (by decide) (by decide) (by decide) (by decide) (by have := HL4.out; rw [this]; decide))
  clear PU HG4
  go_upto_region 8 with (first | (go_at_call 58; ((refine F2.out.mono ?_); rintro e w7 ⟨rfl, v7, ⟨own7, hg7, hs7, hk7, hb7⟩, -, -⟩; have HG7 := Aside0.mk hg7; have HB7 := Aside0.mk (HB6.out.trans hb7); clear hg7 hs7 hk7 hb7)) | (go_at_call 60; ((refine (Ok_C HG7.out.act).mono ?_); rintro e w5 ⟨rfl, hw5⟩; obtain rfl : w7 = w5 := hw5.symm)))
  have QI7 := Aside0.mk ((HQ4.out.setAi (.pointer (some ⟨nb, 0, none⟩))).note 0 0 2 true)
  have ML7 := Aside0.mk (show (M4.note 0 0 2 true).log.length = 4 by have h1 := HL4.out; show (M4.log ++ _).length = 4; rw [List.length_append, h1]; rfl)
  obtain ⟨M7, hM7⟩ : ∃ M7, M4.note 0 0 2 true = M7 := ⟨_, rfl⟩
  rw [hM7] at HG7 QI7 ML7
  have HBA := Aside0.mk (show ActAt w7 gr nb _ ∧ ¬ own7 nb ∧ gr ≠ nb ∧ nb < w7.heap.size from ⟨HG7.out.act, HG7.out.a1, HG7.out.ne, blk_lt HG7.out.act⟩)
  have PO := Aside0.mk (Pop_ok 1 HG7.out.rb (fun w1 _ => Over_nil w1))
  clear F2 HG6 HB6 HQ4 HL4
  go_upto_region 9 with (first | (go_at_call 56; ((refine PO.out.mono ?_); rintro e w8 ⟨nc, rfl, hge, hrg, hk, hb⟩; have HG8 := Aside0.mk hrg; have HB8 := Aside0.mk (HB7.out.trans hb); have HBC := Aside0.mk (show ActAt w8 gr nb _ ∧ nb ≠ nc from ⟨HBA.out.1.kept hk (fun e => HBA.out.2.2.1 e.symm), by have := HBA.out.2.2.2; omega⟩); clear hge hrg hk hb)))
  have F3 := Aside0.mk (popOne (b := [e5]) (q := []) (a := 0) HG8.out (QI7.out.setAo _) (by decide) (by decide) (by decide) (by rw [ML7.out]; decide))
  clear PO HG7 HB7
  go_wp2_with (first | (go_at_call 58; ((refine F3.out.mono ?_); rintro e w9 ⟨rfl, v9, M9, ⟨⟨own9, hg9, hs9, hk9, hb9⟩, -, -⟩, hqi, hlg⟩; have HGc := Aside0.mk hg9; have HBb := Aside0.mk (HBC.out.1.kept hk9 (fun hS => hS.elim HBA.out.2.1 (fun e => e.elim (fun e => HBA.out.2.2.1 e.symm) HBC.out.2))); have HBl := Aside0.mk (HB8.out.trans hb9); have g3 : M7.log.length < M9.log.length := (by have := ML7.out; omega); have g4 : 0 < M7.log.length := (by have := ML7.out; omega); clear hg9 hs9 hk9 hb9 hqi hlg)) | (go_at_call 60; ((refine (Ok_C HGc.out.act).mono ?_); rintro e w5 ⟨rfl, hw5⟩; obtain rfl := hw5)) | (go_at_call 61; ((refine (Batch_C HGc.out (by decide)).mono ?_); rintro e w10 ⟨v10, rfl, hr, hb⟩; have hr2 : Kd.R k143 143 w10 _ (fun _ => True) v10 [e5] := hr; obtain ⟨Ax, nx, cx, rfl⟩ := R_any hr2; obtain ⟨ex, -, hCx⟩ := Kd.R_reads' hr2; obtain rfl : nx = 1 := ex; obtain ⟨adx, rfl, hq0, hq1, hq2⟩ := at_T143 hCx 0 (by decide) (by decide); have hz : adx.add (Int.toNat 0 * 3) = adx := (by simp [Addr.add]); rw [hz] at hq1; replace hq1 : w10.cell? ⟨adx.block, adx.off + 1, none⟩ = some (.int .u64 5) := hq1; have HG1 := Aside0.mk (HGc.out.below hb); have HB1 := Aside0.mk (HBb.out.below hb); have HBl1 := Aside0.mk (below_then HBl.out (HBl.out.size) hb); clear HGc HBb HBl hr hr2 hCx hb hq0 hq2 hz; have HGc := HG1; have HBb := HB1; have HBl := HBl1; clear HG1 HB1 HBl1)) | (go_at_call 62; ((refine (Mark_C HGc.out.act).mono ?_); rintro e w5 ⟨rfl, hw5⟩; obtain rfl := hw5)) | (go_at_call 62; ((refine (Mark_C HBb.out).mono ?_); rintro e w5 ⟨rfl, hw5⟩; obtain rfl := hw5)))
  go_ret
  first | exact ⟨rfl, HBl.out⟩ | (refine ⟨?_, HBl.out⟩; simp [ML7.out])
open Go.RowKit Go.Proofs.YtlcnckbmolefpaaW.PrintWords Go.Proofs.YtlcnckbmolefpaaW.PrintLast Go.Proofs.YtlcnckbmolefpaaW.PrintMore
attribute [local go_sem] max2_int min2_int max_two min_two max_three min_three max_four min_four   -- for this text's walks alone
/-! ### marchlandref11_Size: function 53 -/
def marchlandref11_Size.f (a0 : Int) : Option (Int) := (some (([1, 2, 4, 8, 1, 2, 4, 16] : List Int) : List Int)).bind fun y319 => (if 0 ≤ (wrap64 (Int.tmod (IntKind.u64.wrap (a0)) 8)) then (if (wrap64 (Int.tmod (IntKind.u64.wrap (a0)) 8)) < (y319.length : Int) then (some (rd y319 (wrap64 (Int.tmod (IntKind.u64.wrap (a0)) 8)))) else (none)) else (none))
set_option maxHeartbeats 8000000 in
set_option maxRecDepth 100000 in
theorem marchlandref11_Size.calls (a0 : Int) (r : Int) (w : World) (h : marchlandref11_Size.f a0 = some r) :
    Calls Try.prog 53 #[.int .i64 a0] w fun e w' => e = .returned (.int .i64 r) ∧ Below w.heap.size w w' := by
  have HB := Aside0.mk (Below.refl w.heap.size w)
  have H : ((some (([1, 2, 4, 8, 1, 2, 4, 16] : List Int) : List Int)).bind fun y319 => (if 0 ≤ (wrap64 (Int.tmod (IntKind.u64.wrap (a0)) 8)) then (if (wrap64 (Int.tmod (IntKind.u64.wrap (a0)) 8)) < (y319.length : Int) then (some (rd y319 (wrap64 (Int.tmod (IntKind.u64.wrap (a0)) 8)))) else (none)) else (none))) = some r := h
  clear h
  obtain ⟨y319, hy319⟩ : ∃ y_ : List Int, y_ = (([1, 2, 4, 8, 1, 2, 4, 16] : List Int)) := ⟨_, rfl⟩
  replace H : (if 0 ≤ (wrap64 (Int.tmod (IntKind.u64.wrap (a0)) 8)) then (if (wrap64 (Int.tmod (IntKind.u64.wrap (a0)) 8)) < (y319.length : Int) then (some (rd y319 (wrap64 (Int.tmod (IntKind.u64.wrap (a0)) 8)))) else (none)) else (none)) = some r := by first | (rw [hy319]; with_reducible exact H) | (have H2_ := (Option.bind_some _ _).symm.trans H; rw [hy319]; with_reducible exact H2_) | (have H2_ := (Option.bind_some _ _).symm.trans H; with_reducible exact H2_) | with_reducible exact H | (rw [hy319]; exact H) | exact H
  have Ny319 := Aside0.mk hy319
  clear hy319
  obtain ⟨ji2, hji2⟩ : ∃ j_ : Int, (wrap64 (Int.tmod (IntKind.u64.wrap (a0)) 8)) = j_ := ⟨_, rfl⟩
  replace H : (if 0 ≤ (ji2) then (if (ji2) < (y319.length : Int) then (some (rd y319 (ji2))) else (none)) else (none)) = some r := by first | (rw [hji2] at H; exact H) | (simp only [hji2] at H ⊢; exact H)
  have hji2w : (IntKind.i64.wrap (Int.tmod (IntKind.u64.wrap (a0)) 8)) = ji2 := (i64_w _).trans hji2
  by_cases c3 : 0 ≤ (ji2)
  · rw [if_pos c3] at H
    have c3b0 : decide (0 ≤ (ji2)) = true := decide_eq_true c3
    clear c3
    by_cases c4 : (ji2) < (y319.length : Int)
    · rw [if_pos c4] at H
      have c4b0 : decide ((ji2) < (y319.length : Int)) = true := decide_eq_true c4
      clear c4
      obtain rfl := Option.some.inj H
      go_enter Try.func53, Try.ntmps53
      go_wp2_with (first | ((with_reducible refine gate_dst (N := 3) rfl ?_); refine Kd.R_lit (Kd.int .i64) _ 3 ?hg (N := 3) ?hd (xs := ([1, 2, 4, 8, 1, 2, 4, 16] : List Int)) (inner := [.int .i64 1, .int .i64 2, .int .i64 4, .int .i64 8, .int .i64 1, .int .i64 2, .int .i64 4, .int .i64 16]) (ok := fun _ => True) (okp := fun _ => True) ?hr ?hp (fun _ hk => hk) trivial (Below.refl _ _) (Nat.le_refl _) (by simp) ?_; (case hd => rfl); (case hg => rfl); (case hr => first | (go_simp; done) | (go_simp; rfl)); (case hp => exact (Reps.one (show Kd.M (Kd.int .i64) _ _ _ 1 [.int .i64 1] from rfl) (Reps.one (show Kd.M (Kd.int .i64) _ _ _ 2 [.int .i64 2] from rfl) (Reps.one (show Kd.M (Kd.int .i64) _ _ _ 4 [.int .i64 4] from rfl) (Reps.one (show Kd.M (Kd.int .i64) _ _ _ 8 [.int .i64 8] from rfl) (Reps.one (show Kd.M (Kd.int .i64) _ _ _ 1 [.int .i64 1] from rfl) (Reps.one (show Kd.M (Kd.int .i64) _ _ _ 2 [.int .i64 2] from rfl) (Reps.one (show Kd.M (Kd.int .i64) _ _ _ 4 [.int .i64 4] from rfl) (Reps.one (show Kd.M (Kd.int .i64) _ _ _ 16 [.int .i64 16] from rfl) (Reps.none _ _)))))))))); intro v320 w5 ho6 hb hg_ hnew_; clear hg_ hnew_; (first | rw [← Ny319.out] at ho6 | (simp only [Int.reduceToNat] at ho6; rw [← Ny319.out] at ho6)); have n0_ := Aside0.mk (Kd.R_lower ho6 (below_size (by repeat (first | (with_reducible first | exact HB.out | apply below_alloc | apply pw_below_drewN | apply below_drew1) | exact HB.out)))); have n1_ := Aside0.mk (below_step (by repeat (first | (with_reducible first | exact HB.out | apply below_alloc | apply pw_below_drewN | apply below_drew1) | exact HB.out)) hb); clear HB; have HO321 := n0_; have HB := n1_; clear n0_ n1_; clear hb ho6; obtain ⟨Ao7, co7, eo7⟩ := Kd.R_slice HO321.out; subst eo7; have p322 : 0 ≤ ((ji2) : Int) := of_decide_eq_true (by first | (with_reducible assumption) | assumption); have q322 : (ji2) < (y319.length : Int) := of_decide_eq_true (by first | (with_reducible assumption) | assumption); obtain ⟨ad322, e322, hx322_0⟩ := Kd.at_int (Kd.R_reads' HO321.out).2.2 (ji2) p322 q322; cases e322; replace p322 := eq_true p322; replace q322 := eq_true q322))
      go_ret
      exact ⟨by first | rfl | (simp [errW_none, errW_some] <;> rfl) | (simp only [← hji2]; first | rfl | (simp [errW_none, errW_some] <;> rfl)) | (simp [*, errW_none, errW_some] <;> rfl), by repeat (first | (with_reducible first | exact HB.out | apply below_alloc | apply pw_below_drewN | apply below_drew1) | exact HB.out)⟩
    · rw [if_neg c4] at H
      exact absurd H (by simp)
  · rw [if_neg c3] at H
    exact absurd H (by simp)
set_option maxRecDepth 100000
theorem add_block (ad : Addr) (n : Nat) : (ad.add n).block = ad.block := by unfold Addr.add; split <;> rfl
theorem cell_block {w w' : World} {p : Addr} (h : w'.heap[p.block]? = w.heap[p.block]?) : w'.cell? p = w.cell? p := by
  unfold World.cell?
  simp only [h]
theorem F143 {w : World} {A : Option Addr} {n : Nat} {xs : List S143} (h : Kd.C k143 w A n xs) : Kd.F k143 w (fun k => ∃ ad, A = some ad ∧ k = ad.block ∧ 0 < n) A n xs := by
  intro w' hm
  obtain ⟨h1, h2, h3⟩ := h
  refine ⟨h1, h2, fun hp => ?_⟩
  obtain ⟨ad, rfl, hc⟩ := h3 hp
  refine ⟨ad, rfl, fun j p hj => ?_⟩
  obtain ⟨cs, e1, e2, e3⟩ := hc j p hj
  refine ⟨cs, e1, by obtain rfl := k143_open e2; exact k143_mk _ _, fun i u hu => ?_⟩
  have h4 := e3 i u hu
  have hb : ad.block < w.heap.size := by have := World.block_lt_of_cell? w _ h4; rwa [add_block] at this
  exact (cell_block (w := w) (w' := w') (p := ad.add (j * k143.sz + i)) (by rw [add_block]; exact hm ad.block ⟨ad, rfl, rfl, hp⟩ hb)).trans h4
theorem F143_ne {w : World} {A : Option Addr} {xs : List S143} {gq : Nat} {vL : Value} {s : Int} (hv : ∀ x, vL ≠ .int .u64 x) (hq : w.heap[gq]? = some (.cells #[vL, .int .i64 s] 93 (0, 0))) (h : Kd.C k143 w A xs.length xs) : ∀ ad, A = some ad → 0 < xs.length → ad.block ≠ gq := by
  intro ad hA hp e
  subst hA
  obtain ⟨ad', e1, -, hc, -⟩ := at_T143 h 0 (by decide) (by omega)
  obtain rfl : ad = ad' := Option.some.inj e1
  rw [add_block] at hc
  rw [e] at hc
  generalize (ad.add (Int.toNat 0 * 3)).off + 1 = o at hc
  rw [blk_cell hq] at hc
  rcases o with _ | _ | o
  · injection hc with hc; exact hv _ hc
  · injection hc with hc; injection hc with hc; cases hc
  · simp at hc
section
variable {W w w' : World} {B : Nat} {own own' ownq ownq' : Nat → Prop} {gr gq na n a : Nat} {size : Int} {M M' : MS} {R R' : RC} {A : AC} {bl : List S143} {vL vL' : Value} {hs hs' : List Hd} {q q' : List (List S143)}
theorem RG.keepQ (h : RG w B own gr na M R A bl) (hv : ∀ x, vL ≠ .int .u64 x) (hq : w.heap[gq]? = some (.cells #[vL, .int .i64 size] 93 (0, 0))) (hk : Kept w w' (fun k => k = gq)) (h1 : ¬ own gq) (h2 : gq ≠ gr) (h3 : gq ≠ na) : RG w' B own gr na M R A bl := by
  obtain ⟨Ab, cb, e1, e2, e3⟩ := h.bx
  have hC := Kd.F_now e3
  have hne := F143_ne hv hq hC
  refine ⟨h.mem.kept hk (fun k ho e => h1 (e ▸ ho)), (hk.2 gr (blk_lt h.ring) (fun e => h2 e.symm)).trans h.ring, (hk.2 na (blk_lt h.act) (fun e => h3 e.symm)).trans h.act, h.fit, h.r1, h.a1, h.ne, h.gB, h.aB, Ab, cb, e1, e2, ?_⟩
  refine Kd.F_mono (Kd.F_step (F143 hC) (fun k hk2 hlt => ?_)) (fun k hk2 => ?_)
  · obtain ⟨ad, f1, f2, f3⟩ := hk2
    exact hk.2 k hlt (fun e => hne ad f1 f3 (f2 ▸ e))
  · obtain ⟨ad, f1, f2, f3⟩ := hk2
    have := Kd.F_in e3 f1 f3 (by decide)
    rw [← f2] at this
    exact ⟨this.1, this.2.1, this.2.2.1, Nat.lt_of_lt_of_le this.2.2.2 hk.1⟩
def EndOk (w : World) (own : Nat → Prop) (gr gq : Nat) (v : Value) : Prop := v = .pointer none ∨ ∃ nb A, v = .pointer (some ⟨nb, 0, none⟩) ∧ ActAt w gr nb A ∧ A.st = .nilFunc ∧ ¬ own nb ∧ nb ≠ gr ∧ nb ≠ gq
theorem EndOk.over {v : Value} (h : EndOk w own gr gq v) (hb : Below w.heap.size w w') : Calls Try.prog 57 #[v] w' fun e w2 => e = .returned (.bool true) ∧ w2 = w' := by
  rcases h with rfl | ⟨nb, A, rfl, h1, h2, -⟩
  · exact Over_nil w'
  · exact over_at h1 h2 hb
theorem EndOk.step {v : Value} (h : EndOk w own gr gq v) (hm : ∀ k, k < w.heap.size → ¬ own k → k ≠ gr → k ≠ gq → w'.heap[k]? = w.heap[k]?) (ho : ∀ k, own' k → own k ∨ w.heap.size ≤ k) : EndOk w' own' gr gq v := by
  rcases h with rfl | ⟨nb, A, rfl, h1, h2, h3, h4, h5⟩
  · exact .inl rfl
  · exact .inr ⟨nb, A, rfl, (hm nb (blk_lt h1) h3 h4 h5).trans h1, h2, fun hh => (ho nb hh).elim h3 (fun hl => by have := blk_lt h1; omega), h4, h5⟩
structure RAL (W w : World) (own : Nat → Prop) (gr gq : Nat) (ownq : Nat → Prop) (n a : Nat) (M : MS) (R : RC) (vL : Value) (hs : List Hd) (q : List (List S143)) : Prop where
  rb : RB w W.heap.size own gr M R
  qi : QI M R n a q
  ei : EndOk w own gr gq R.ai
  eo : EndOk w own gr gq R.ao
  qo : QO w W.heap.size ownq gq (n : Int) vL hs q
  dq : ∀ k, ownq k → ¬ own k ∧ k ≠ gr ∧ k < w.heap.size
  bel : Below W.heap.size W w
theorem QO.val (h : QO w B ownq gq size vL hs q) : ∀ x, vL ≠ .int .u64 x := by
  obtain ⟨A, c, e⟩ := Kd.R_slice h.hl
  intro x h2
  rw [e] at h2
  cases h2
theorem RAL.below (h : RAL W w own gr gq ownq n a M R vL hs q) (hb : Below w.heap.size w w') : RAL W w' own gr gq ownq n a M R vL hs q :=
  ⟨h.rb.below hb, h.qi, h.ei.step (fun k hk _ _ _ => hb.block k hk) (fun k => .inl), h.eo.step (fun k hk _ _ _ => hb.block k hk) (fun k => .inl), h.qo.step hb.size (fun k _ hk => hb.block k hk), fun k hk => ⟨(h.dq k hk).1, (h.dq k hk).2.1, Nat.lt_of_lt_of_le (h.dq k hk).2.2 hb.size⟩, below_step h.bel hb⟩
end
section
variable {W w w' w1 w2 w3 : World} {B : Nat} {own own' own3 ownq ownq' : Nat → Prop} {gr gq na n a a' : Nat} {size : Int} {M M' : MS} {R R' R1 : RC} {A A' : AC} {bl bl' : List S143} {vL vL' : Value} {hs hs' : List Hd} {q q' q0 q0' : List (List S143)}
theorem QO.bound (h : QO w B ownq gq size vL hs q) : QO w B (fun k => ownq k ∧ k < w.heap.size) gq size vL hs q :=
  ⟨h.hq, ⟨h.og, blk_lt h.hq⟩, h.bg, Kd.R_mono (Kd.R_bound h.hl) (fun k hk => ⟨hk.1, hk.2.2.1⟩), h.len, fun j hj => by
    obtain ⟨A, c, e1, e2, e3⟩ := h.it j hj
    exact ⟨A, c, e1, e2, Kd.F_mono e3 (fun k ho => ⟨⟨ho.1, ho.2.2⟩, ho.2⟩)⟩⟩
structure RAM (W w : World) (own : Nat → Prop) (gr gq na : Nat) (ownq : Nat → Prop) (n a : Nat) (M : MS) (R : RC) (A : AC) (bl : List S143) (vL : Value) (hs : List Hd) (q q0 : List (List S143)) : Prop where
  rg : RG w W.heap.size own gr na M R A bl
  qi : QI M R n a q
  ei : EndOk w own gr gq R.ai
  eo : EndOk w own gr gq R.ao
  qo : QO w W.heap.size ownq gq (n : Int) vL hs q0
  dq : ∀ k, ownq k → ¬ own k ∧ k ≠ gr ∧ k < w.heap.size
  bel : Below W.heap.size W w
  nq : na ≠ gq
theorem way (hna : w.heap.size ≤ na) (k1 : Kept w w1 (fun k => k = gr)) (b2 : Below w1.heap.size w1 w2) (k3 : Kept w2 w3 (fun k => own k ∨ k = gr ∨ k = na)) : ∀ k, k < w.heap.size → ¬ own k → k ≠ gr → w3.heap[k]? = w.heap[k]? := by
  intro k hk h1 h2
  have s1 := k1.1
  have s2 := b2.size
  rw [k3.2 k (by omega) (fun hS => hS.elim h1 (fun e => e.elim h2 (fun e => by omega))), b2.block k (by omega), k1.2 k hk h2]
theorem RAM.made (h : RAL W w own gr gq ownq n a M R vL hs q) (hna : w.heap.size ≤ na) (k1 : Kept w w1 (fun k => k = gr)) (b1 : Below W.heap.size w w1) (b2 : Below w1.heap.size w1 w2) (h3 : RGTo w2 w3 W.heap.size own gr na M' R' A' bl') (hst : A'.st = .nilFunc) (hq : QI M' R' n a' q')
    (hai : R'.ai = R.ai ∨ R'.ai = .pointer (some ⟨na, 0, none⟩)) (hao : R'.ao = R.ao ∨ R'.ao = .pointer (some ⟨na, 0, none⟩)) : ∃ own3, RAM W w3 own3 gr gq na ownq n a' M' R' A' bl' vL hs q' q ∧ (∀ k, ownq k → w3.heap[k]? = w.heap[k]?) ∧ w.heap.size ≤ w3.heap.size := by
  obtain ⟨own3, hg, hs3, k3, b3⟩ := h3
  have hw := way hna k1 b2 k3
  have s1 := k1.1
  have s2 := b2.size
  have s3 := k3.1
  have hB := h.rb.mem.size
  have hgq := blk_lt h.qo.hq
  have hown : ∀ k, own3 k → own k ∨ w.heap.size ≤ k := fun k hk => (hs3 k hk).imp id (fun hl => by omega)
  have nw : EndOk w3 own3 gr gq (.pointer (some ⟨na, 0, none⟩)) := .inr ⟨na, A', rfl, hg.act, hst, hg.a1, fun e => hg.ne e.symm, by omega⟩
  have old : ∀ v, EndOk w own gr gq v → EndOk w3 own3 gr gq v := fun v hv => hv.step (fun k hk h1 h2 _ => hw k hk h1 h2) hown
  have hqk : ∀ k, ownq k → w3.heap[k]? = w.heap[k]? := fun k hk => hw k (h.dq k hk).2.2 (h.dq k hk).1 (h.dq k hk).2.1
  refine ⟨own3, ⟨hg, hq, ?_, ?_, h.qo.step (by omega) (fun k hk _ => hqk k hk), fun k hk => ?_, ?_, by omega⟩, hqk, by omega⟩
  · rcases hai with e | e
    · rw [e]; exact old _ h.ei
    · rw [e]; exact nw
  · rcases hao with e | e
    · rw [e]; exact old _ h.eo
    · rw [e]; exact nw
  · obtain ⟨e1, e2, e3⟩ := h.dq k hk
    exact ⟨fun ho => (hown k ho).elim e1 (fun hl => by omega), e2, by omega⟩
  · exact (h.bel.trans b1).trans ((below_then (Below.refl _ w1) (by have := b1.size; omega) b2).trans b3)
theorem RAM.below (h : RAM W w own gr gq na ownq n a M R A bl vL hs q q0) (hb : Below w.heap.size w w') : RAM W w' own gr gq na ownq n a M R A bl vL hs q q0 :=
  ⟨h.rg.below hb, h.qi, h.ei.step (fun k hk _ _ _ => hb.block k hk) (fun k => .inl), h.eo.step (fun k hk _ _ _ => hb.block k hk) (fun k => .inl), h.qo.step hb.size (fun k _ hk => hb.block k hk), fun k hk => ⟨(h.dq k hk).1, (h.dq k hk).2.1, Nat.lt_of_lt_of_le (h.dq k hk).2.2 hb.size⟩, below_step h.bel hb, h.nq⟩
theorem RAM.queue (h : RAM W w own gr gq na ownq n a M R A bl vL hs q q0) (hQ : QO w' W.heap.size (fun k => ownq k ∨ w.heap.size ≤ k) gq (n : Int) vL' hs' q0') (hk : Kept w w' (fun k => k = gq)) (hb : Below W.heap.size w w') : ∃ ownq', RAM W w' own gr gq na ownq' n a M R A bl vL' hs' q q0' := by
  have g1 := (h.dq gq h.qo.og).1
  have g2 := (h.dq gq h.qo.og).2.1
  refine ⟨_, h.rg.keepQ h.qo.val h.qo.hq hk g1 g2 (fun e => h.nq e.symm), h.qi, h.ei.step (fun k hk2 _ _ h3 => hk.2 k hk2 h3) (fun k => .inl), h.eo.step (fun k hk2 _ _ h3 => hk.2 k hk2 h3) (fun k => .inl), hQ.bound, fun k hk2 => ?_, h.bel.trans hb, h.nq⟩
  obtain ⟨h1, h2⟩ := hk2
  rcases h1 with h1 | h1
  · exact ⟨(h.dq k h1).1, (h.dq k h1).2.1, h2⟩
  · exact ⟨fun ho => by have := h.rg.mem.2 k ho; omega, by have := blk_lt h.rg.ring; omega, h2⟩
theorem RAM.ral (h : RAM W w own gr gq na ownq n a M R A bl vL hs q q) : RAL W w own gr gq ownq n a M R vL hs q := ⟨h.rg.rb, h.qi, h.ei, h.eo, h.qo, h.dq, h.bel⟩
theorem RAL.take (h : RAL W w own gr gq ownq n a M R vL hs q) (hb : Below w.heap.size w w') {Ab : Option Addr} {c : Nat} {X : List S140} (hR : Kd.R k140 140 w' w.heap.size (fun _ => True) (.slice Ab X.length c) X) : RAL W w' own gr gq (fun k => ownq k ∨ (w.heap.size ≤ k ∧ k < w'.heap.size)) n a M R vL hs q ∧ Kd.F k140 w' (fun k => (ownq k ∨ (w.heap.size ≤ k ∧ k < w'.heap.size)) ∧ k ≠ gq ∧ k < w'.heap.size) Ab X.length X := by
  have h2 := h.below hb
  have hgq := blk_lt h.qo.hq
  refine ⟨⟨h2.rb, h2.qi, h2.ei, h2.eo, h2.qo.mono (fun k => .inl), fun k hk => ?_, h2.bel⟩, Kd.R_F (Kd.R_mono (Kd.R_bound hR) (fun k hk => ⟨.inr ⟨hk.2.1, hk.2.2.1⟩, by have := hk.2.1; omega, hk.2.2.1⟩))⟩
  rcases hk with hk | hk
  · exact h2.dq k hk
  · exact ⟨fun ho => by have := h.rb.mem.2 k ho; omega, by have := blk_lt h.rb.ring; omega, hk.2⟩
theorem RAL.start {gm : Nat} (h : RB w W.heap.size own gr (RingM n) (RC.start gm (n : Int))) (hn : n = 1 ∨ n = 2 ∨ n = 4 ∨ n = 8 ∨ n = 16) (hb : Below W.heap.size W w) : RAL W (w.alloc (.cells #[.slice none 0 0, .int .i64 (n : Int)] 93)) own gr w.heap.size (fun k => k = w.heap.size) n 0 (RingM n) (RC.start gm (n : Int)) (.slice none 0 0) [] [] := by
  have b1 := below_alloc (Below.refl w.heap.size w) (.cells #[.slice none 0 0, .int .i64 (n : Int)] 93)
  have s1 : (w.alloc (.cells #[.slice none 0 0, .int .i64 (n : Int)] 93)).heap.size = w.heap.size + 1 := by simp
  exact ⟨h.below b1, QI.start n gm hn, .inl rfl, .inl rfl, ⟨blk_new w _, rfl, hb.size, Kd.R_nil _ _ _ _ _, rfl, fun j hj => absurd hj (by simp)⟩, fun k hk => by subst hk; exact ⟨fun ho => by have := h.mem.2 _ ho; omega, by have := blk_lt h.ring; omega, by omega⟩, below_step hb b1⟩
theorem size_C (s : Int) : ∃ n : Nat, (n = 1 ∨ n = 2 ∨ n = 4 ∨ n = 8 ∨ n = 16) ∧ marchlandref11_Size.f s = some (n : Int) := by
  have a := Int.tmod_nonneg 8 (u64_pos s)
  have b := Int.tmod_lt_of_pos (IntKind.u64.wrap s) (show (0 : Int) < 8 by omega)
  obtain ⟨k, hk⟩ : ∃ k, Int.tmod (IntKind.u64.wrap s) 8 = k := ⟨_, rfl⟩
  rw [hk] at a b
  have hk8 : k = 0 ∨ k = 1 ∨ k = 2 ∨ k = 3 ∨ k = 4 ∨ k = 5 ∨ k = 6 ∨ k = 7 := by omega
  unfold marchlandref11_Size.f
  rw [hk]
  rcases hk8 with rfl | rfl | rfl | rfl | rfl | rfl | rfl | rfl
  · exact ⟨1, by omega, by decide +kernel⟩
  · exact ⟨2, by omega, by decide +kernel⟩
  · exact ⟨4, by omega, by decide +kernel⟩
  · exact ⟨8, by omega, by decide +kernel⟩
  · exact ⟨1, by omega, by decide +kernel⟩
  · exact ⟨2, by omega, by decide +kernel⟩
  · exact ⟨4, by omega, by decide +kernel⟩
  · exact ⟨16, by omega, by decide +kernel⟩
end
set_option maxRecDepth 100000
theorem meas200 {i : Nat} (h : i < 200) : (300 - ((i : Int) + 1)).toNat < (300 - (i : Int)).toNat := by omega
theorem over_on_at {w w1 : World} {gr nb : Nat} {A : AC} {f : Nat} (h : ActAt w gr nb A) (hs : A.st = stg f) (hb : Below w.heap.size w w1) : Calls Try.prog 57 #[.pointer (some ⟨nb, 0, none⟩)] w1 fun e w' => e = .returned (.bool false) ∧ w' = w1 := Over_on (h.below hb) hs
set_option maxHeartbeats 8000000 in
theorem RAlone_calls (s : Int) (A1 A2 : Option Addr) (c1 c2 : Nat) (l1 : List (List S140)) (l2 : List Bool) (W : World) (h1 : Kd.C (Kd.slice 140 k140) W A1 l1.length l1) (h2 : Kd.C Kd.bool W A2 l2.length l2) :
    Calls Try.prog 12 #[.int .i64 s, .slice A1 l1.length c1, .slice A2 l2.length c2] W fun e w' => e = .returned (.bool true) ∧ Below W.heap.size W w' := by
  obtain ⟨n, hn, hsz⟩ := size_C s
  have H1 := Aside0.mk h1
  have H2 := Aside0.mk h2
  have HN := Aside0.mk hn
  have m1 := h1.2.1
  have m2 := h2.2.1
  have SZ := Aside0.mk (marchlandref11_Size.calls s (n : Int) W hsz)
  clear h1 h2 hn hsz
  go_enter Try.func12, Try.ntmps12
  go_upto_region 6 with (first | (go_at_call 53; ((with_reducible refine SZ.out.mono ?_); rintro e w1 ⟨rfl, hb⟩; have HB1 := Aside0.mk hb; clear hb)) | (go_at_call 54; ((refine (rbegin_C n HN.out w1).mono ?_); rintro e w2 ⟨gm, gr, own, rfl, hrb, -, hb⟩; have HR := Aside0.mk hrb; have HB2 := Aside0.mk (below_step HB1.out hb); have HBY := Aside0.mk hb; have HSZ := Aside0.mk HB1.out.size; clear hrb hb)) | (go_at_call 55; ((with_reducible refine (told11_C _).mono ?_); rintro e w3 ⟨rfl, hb⟩; have HR3 := Aside0.mk (HR.out.below hb); have HB3 := Aside0.mk (below_step HB2.out hb); have HBX := Aside0.mk (below_step HBY.out hb); clear hb)))
  have HA0 := Aside0.mk (RAL.start (W := w1) HR3.out HN.out (by have h1 := HR3.out; exact HBX.out))
  generalize ew : World.alloc w3 _ = w4 at HA0 ⊢
  generalize eg : w3.heap.size = gq at HA0 ⊢
  clear HR HR3 HB2 HB3 HSZ SZ HBX ew eg
  go_wp2
  go_loopw [11, 12] (fun v11 v12 wr => ∃ i at_ : Nat, v12 = .int .i64 (i : Int) ∧ v11 = .int .i64 (at_ : Int) ∧ Aside0 (i ≤ l2.length ∧ i ≤ 200 ∧ at_ ≤ i ∧ ∃ own ownq a M R vL hs q, RAL w1 wr own gr gq ownq n a M R vL hs q ∧ R.gm = gm ∧ M.log.length ≤ 3 * i ∧ a + q.length ≤ i)) (fun v11 v12 _ => (300 - intOf v12).toNat)
  case atStart => exact ⟨0, 0, rfl, rfl, ⟨by omega, by omega, by omega, _, _, _, _, _, _, _, _, HA0.out, rfl, by simp [RingM], by simp⟩⟩
  case round =>
    clear HA0
    obtain ⟨i, at_, rfl, rfl, HI⟩ := hrel
    obtain ⟨hi1, hi2, hat, own1, ownq, a, M, R, vL, hs, q, hra, hgm, hlg, hlq⟩ := HI.out
    have HA := Aside0.mk hra
    have HL := Aside0.mk (show _ ∧ _ ∧ _ ∧ _ from ⟨hlg, hlq, hi2, hat⟩)
    have HGM := Aside0.mk hgm
    clear hra hlg hlq hgm HI
    by_cases hil : i < l2.length ∧ i < 200
    · obtain ⟨p1, p2⟩ := hil
      have d1 := decide_eq_true (show (i : Int) < (l2.length : Int) by omega)
      have d2 := decide_eq_true (show (i : Int) < (200 : Int) by omega)
      have q0 : (0 : Int) ≤ (i : Int) := by omega
      have q1 : (i : Int) < (l2.length : Int) := by omega
      have hw : IntKind.i64.wrap ((i : Int) + 1) = (i : Int) + 1 := by rw [IntKind.wrap_i64]; omega
      have hwa : IntKind.i64.wrap ((at_ : Int) + 1) = (at_ : Int) + 1 := by rw [IntKind.wrap_i64]; omega
      have HBW := Aside0.mk (below_step HB1.out HA.out.bel)
      obtain ⟨ad2, rfl, hx2⟩ := Kd.at_bool (Kd.C_below H2.out HBW.out) (i : Int) q0 q1
      rw [Int.toNat_natCast] at hx2
      have TM0 := Time_C HA.out.rb.mem
      rw [HGM.out] at TM0
      have TM := Aside0.mk TM0
      clear TM0
      have HP2 := Aside0.mk (show _ ∧ _ from ⟨p1, p2⟩)
      clear p1 p2
      obtain ⟨pb, hpb⟩ : ∃ pb, rdOf false l2 (i : Int) = pb := ⟨_, rfl⟩
      rw [hpb] at hx2
      by_cases hpop : pb = true ∨ l1.length ≤ at_
      · have _hT : True := trivial
        have hcase : pb = true ∨ (pb = false ∧ l1.length ≤ at_) := by cases pb <;> simp_all
        clear hpop
        rcases hcase with rfl | ⟨rfl, hge⟩
        · cases q with
          | nil =>
            have PO := Aside0.mk (Pop_ok (gr := gr) 1 HA.out.rb (fun w1 hb => HA.out.eo.over hb))
            go_upto_region 13 with (first | (go_at_call 43; ((with_reducible refine TM.out.mono ?_); rintro e w5 ⟨rfl, hw5⟩; obtain rfl := hw5)) | (go_at_call 56; ((refine PO.out.mono ?_); rintro e w5 ⟨na, rfl, hna, hrg, hk, hb⟩; have HG5 := Aside0.mk hrg; have HK5 := Aside0.mk (show _ ∧ _ ∧ _ from ⟨hna, hk, hb⟩); clear hna hrg hk hb)))
            have OV := Aside0.mk (fun w1 (hb : Below w5.heap.size w5 w1) => over_on_at HG5.out.act rfl hb)
            have PN := Aside0.mk (Pop_no 1 HG5.out.rb (fun w1 hb => OV.out w1 hb))
            have OV1 := Aside0.mk (OV.out w5 (Below.refl _ _))
            clear PO TM
            go_upto_region 15 with (first | (go_at_call 57; ((refine OV1.out.mono ?_); rintro e w6 ⟨rfl, hw6⟩; obtain rfl := hw6)) | (go_at_call 56; ((refine PN.out.mono ?_); rintro e w7 ⟨rfl, hb⟩; have HB7 := Aside0.mk hb; have FN := Aside0.mk (popEmpty (HG5.out.below hb) (HA.out.qi.setAo _) (by have := HL.out; simp only [List.length_nil] at this ⊢; omega) rfl (by decide) (by decide) (by have := HL.out; omega)); clear hb)) | (go_at_call 58; ((refine FN.out.mono ?_); rintro e w8 ⟨rfl, v8, hT, -, -⟩; obtain ⟨own8, hram, -, -⟩ := RAM.made HA.out HK5.out.1 HK5.out.2.1 HK5.out.2.2 HB7.out hT rfl ((HA.out.qi.setAo _).note 1 0 1 true) (.inl rfl) (.inr rfl); have HR8 := Aside0.mk hram; clear hT hram)))
            obtain ⟨M8, hM8⟩ : ∃ M8, M.note 1 0 1 true = M8 := ⟨_, rfl⟩
            have HM8 := Aside0.mk (show M8.log.length = M.log.length + 1 by rw [← hM8]; simp [MS.note])
            rw [hM8] at HR8
            have QP := Aside0.mk (QPop_no HR8.out.qo)
            clear FN OV OV1 PN HG5 HK5 HB7 HA
            go_upto_region 16 with (first | (go_at_call 59; ((refine QP.out.mono ?_); rintro e w9 ⟨rfl, hw9⟩; obtain rfl := hw9)))
            have OKC := Aside0.mk (Ok_C HR8.out.rg.act)
            have BC := Aside0.mk (Batch_C HR8.out.rg (by simp))
            clear QP
            go_wp2_with (first | (go_at_call 60; ((refine OKC.out.mono ?_); rintro e w6 ⟨rfl, hw6⟩; obtain rfl := hw6)) | (go_at_call 61; ((refine BC.out.mono ?_); rintro e w10 ⟨v10, rfl, hr, hb⟩; have hr2 : Kd.R k143 143 w10 _ (fun _ => True) v10 ([] : List S143) := hr; obtain ⟨A10, n10, c10, rfl⟩ := R_any hr2; obtain ⟨e10, h10, hC10⟩ := Kd.R_reads' hr2; subst e10; have HR10 := Aside0.mk (HR8.out.below hb); have FR := Aside0.mk (From_C A10 c10 ([] : List S143) (by unfold Pure.Short; simp) w10 hC10 h10); have HB10 := Aside0.mk hb; clear hr hr2 h10 hC10 hb)) | (go_at_call 38; ((refine FR.out.mono ?_); rintro e w11 ⟨v11, rfl, hr, hb⟩; obtain ⟨A11, n11, c11, rfl⟩ := R_any hr; obtain ⟨e11, h11, hC11⟩ := Kd.R_reads' hr; obtain rfl : n11 = ([] : List S143).length := e11.trans (List.length_map ..); have HR11 := Aside0.mk (HR10.out.below hb); have SM0 := Same_C A11 none c11 0 [] (by unfold Pure.Short; simp) w11 hC11 h11 (Kd.R_reads' (Kd.R_nil k140 140 w11 0 (fun _ => True))).2.2 (Nat.le_refl _); have SM := Aside0.mk SM0; clear hr hb h11 hC11 SM0 e11)) | (go_at_call 37; ((refine SM.out.mono ?_); rintro e w12 ⟨rfl, ⟨nd, rfl⟩⟩; have HR12 := Aside0.mk (HR11.out.below (pw_below_drewN (Below.refl _ _) nd)); have TM2a := Time_C HR12.out.rg.mem; have TM2b : Calls Try.prog 43 #[.pointer (some ⟨gm, 0, none⟩)] _ _ := (by rw [← HGM.out]; exact TM2a); have TM2 := Aside0.mk TM2b; have MK := Aside0.mk (Mark_C HR12.out.rg.act); have gle : ¬ M8.log.length ≤ M.log.length := (by have := HM8.out; omega); clear TM2a TM2b)) | (go_at_call 62; ((refine MK.out.mono ?_); rintro e w6 ⟨rfl, hw6⟩; obtain rfl := hw6)) | (go_at_call 43; ((refine TM2.out.mono ?_); rintro e w6 ⟨rfl, hw6⟩; obtain rfl := hw6)))
            go_roundw
            case rel => exact ⟨i + 1, at_, by first | rfl | exact congrArg _ hw, rfl, ⟨by have := HP2.out; omega, by have := HP2.out; omega, by have := HL.out; omega, _, _, _, _, _, _, _, _, HR12.out.ral, HGM.out, by have := HM8.out; have := HL.out; omega, by have := HL.out; simp only [List.length_cons, List.length_nil] at this ⊢; omega⟩⟩
            case measure => exact meas200 HP2.out.2
          | cons b q =>
            have PO := Aside0.mk (Pop_ok (gr := gr) 1 HA.out.rb (fun w1 hb => HA.out.eo.over hb))
            go_upto_region 13 with (first | (go_at_call 43; ((with_reducible refine TM.out.mono ?_); rintro e w5 ⟨rfl, hw5⟩; obtain rfl := hw5)) | (go_at_call 56; ((refine PO.out.mono ?_); rintro e w5 ⟨na, rfl, hna, hrg, hk, hb⟩; have HG5 := Aside0.mk hrg; have HK5 := Aside0.mk (show _ ∧ _ ∧ _ from ⟨hna, hk, hb⟩); clear hna hrg hk hb)))
            have OV := Aside0.mk (fun w1 (hb : Below w5.heap.size w5 w1) => over_on_at HG5.out.act rfl hb)
            have PN := Aside0.mk (Pop_no 1 HG5.out.rb (fun w1 hb => OV.out w1 hb))
            have OV1 := Aside0.mk (OV.out w5 (Below.refl _ _))
            clear PO TM
            go_upto_region 15 with (first | (go_at_call 57; ((refine OV1.out.mono ?_); rintro e w6 ⟨rfl, hw6⟩; obtain rfl := hw6)) | (go_at_call 56; ((refine PN.out.mono ?_); rintro e w7 ⟨rfl, hb⟩; have HB7 := Aside0.mk hb; have FN := Aside0.mk (popOne (HG5.out.below hb) (HA.out.qi.setAo _) (by have := HL.out; simp only [List.length_cons] at this; omega) (by decide) (by decide) (by have := HL.out; omega)); clear hb)) | (go_at_call 58; ((refine FN.out.mono ?_); rintro e w8 ⟨rfl, v8, M8, ⟨hT, -, -⟩, hqi8, hlg8⟩; obtain ⟨own8, hram, -, -⟩ := RAM.made HA.out HK5.out.1 HK5.out.2.1 HK5.out.2.2 HB7.out hT rfl hqi8 (.inl rfl) (.inr rfl); have HR8 := Aside0.mk hram; have HM8 := Aside0.mk hlg8; clear hT hram hqi8 hlg8)))
            have QP := Aside0.mk (QPop_ok HR8.out.qo (by have := HL.out; simp only [List.length_cons] at this; omega))
            have HBS := Aside0.mk (show b.length ≤ 12 from by have h1 := HA.out.qi.it 0 (by simp); have h2 : b = rdB M.boxes ((1 + (a + 0) % n : Nat) : Int) := h1.symm; rw [h2]; unfold rdB; rw [List.getD_eq_getElem?_getD]; cases hb : M.boxes[((1 + (a + 0) % n : Nat) : Int).toNat]? with | none => simp | some c => exact HA.out.qi.sm c (List.mem_of_getElem? hb))
            clear FN OV OV1 PN HG5 HK5 HB7
            go_upto_region 16 with (first | (go_at_call 59; ((refine QP.out.mono ?_); rintro e w9 ⟨Ab, cb, rfl, hle, hCb, vL9, hs9, hq9, hk9, hb9⟩; obtain ⟨ownq9, hr9⟩ := HR8.out.queue hq9 hk9 hb9; have HR9 := Aside0.mk hr9; have HCB := Aside0.mk (show _ ∧ _ from ⟨hle, hCb⟩); clear hle hCb hq9 hk9 hb9 hr9)))
            clear HR8
            have HR8 := HR9
            clear HR9 HA
            have OKC := Aside0.mk (Ok_C HR8.out.rg.act)
            have BC := Aside0.mk (Batch_C HR8.out.rg (by have := HBS.out; omega))
            clear QP
            go_wp2_with (first | (go_at_call 60; ((refine OKC.out.mono ?_); rintro e w6 ⟨rfl, hw6⟩; obtain rfl := hw6)) | (go_at_call 61; ((refine BC.out.mono ?_); rintro e w10 ⟨v10, rfl, hr, hb⟩; have hr2 : Kd.R k143 143 w10 _ (fun _ => True) v10 b := hr; obtain ⟨A10, n10, c10, rfl⟩ := R_any hr2; obtain ⟨e10, h10, hC10⟩ := Kd.R_reads' hr2; subst e10; have HR10 := Aside0.mk (HR8.out.below hb); have FR := Aside0.mk (From_C A10 c10 b (by unfold Pure.Short; have := HBS.out; omega) w10 hC10 h10); have HB10 := Aside0.mk hb; clear hr hr2 h10 hC10 hb)) | (go_at_call 38; ((refine FR.out.mono ?_); rintro e w11 ⟨v11, rfl, hr, hb⟩; obtain ⟨A11, n11, c11, rfl⟩ := R_any hr; obtain ⟨e11, h11, hC11⟩ := Kd.R_reads' hr; obtain rfl : n11 = b.length := e11.trans (List.length_map ..); have HR11 := Aside0.mk (HR10.out.below hb); have SM0 := (show Calls Try.prog 37 #[.slice A11 b.length c11, .slice Ab (bq b).length cb] w11 (fun e w' => e = .returned (.bool true) ∧ Drawn0 w11 w') from (by have hS := Same_C A11 Ab c11 cb b (by unfold Pure.Short; have := HBS.out; omega) w11 hC11 (by rw [List.length_map]; exact h11) (Kd.C_below (Kd.C_below HCB.out.2 HB10.out) hb) HCB.out.1; rw [List.length_map] at hS; rw [show (bq b).length = b.length from List.length_map ..]; exact hS)); have SM := Aside0.mk SM0; clear hr hb h11 hC11 SM0 e11)) | (go_at_call 37; ((refine SM.out.mono ?_); rintro e w12 ⟨rfl, ⟨nd, rfl⟩⟩; have HR12 := Aside0.mk (HR11.out.below (pw_below_drewN (Below.refl _ _) nd)); have TM2a := Time_C HR12.out.rg.mem; have TM2b : Calls Try.prog 43 #[.pointer (some ⟨gm, 0, none⟩)] _ _ := (by rw [← HGM.out]; exact TM2a); have TM2 := Aside0.mk TM2b; have MK := Aside0.mk (Mark_C HR12.out.rg.act); have gle : ¬ M8.log.length ≤ M.log.length := (by have := HM8.out; omega); clear TM2a TM2b)) | (go_at_call 62; ((refine MK.out.mono ?_); rintro e w6 ⟨rfl, hw6⟩; obtain rfl := hw6)) | (go_at_call 43; ((refine TM2.out.mono ?_); rintro e w6 ⟨rfl, hw6⟩; obtain rfl := hw6)))
            go_roundw
            case rel => exact ⟨i + 1, at_, by first | rfl | exact congrArg _ hw, rfl, ⟨by have := HP2.out; omega, by have := HP2.out; omega, by have := HL.out; omega, _, _, _, _, _, _, _, _, HR12.out.ral, HGM.out, by have := HM8.out; have := HL.out; omega, by have := HL.out; simp only [List.length_cons, List.length_nil] at this ⊢; omega⟩⟩
            case measure => exact meas200 HP2.out.2
        · have d3 := decide_eq_true (show (l1.length : Int) ≤ (at_ : Int) by omega)
          cases q with
          | nil =>
            have PO := Aside0.mk (Pop_ok (gr := gr) 1 HA.out.rb (fun w1 hb => HA.out.eo.over hb))
            go_upto_region 13 with (first | (go_at_call 43; ((with_reducible refine TM.out.mono ?_); rintro e w5 ⟨rfl, hw5⟩; obtain rfl := hw5)) | (go_at_call 56; ((refine PO.out.mono ?_); rintro e w5 ⟨na, rfl, hna, hrg, hk, hb⟩; have HG5 := Aside0.mk hrg; have HK5 := Aside0.mk (show _ ∧ _ ∧ _ from ⟨hna, hk, hb⟩); clear hna hrg hk hb)))
            have OV := Aside0.mk (fun w1 (hb : Below w5.heap.size w5 w1) => over_on_at HG5.out.act rfl hb)
            have PN := Aside0.mk (Pop_no 1 HG5.out.rb (fun w1 hb => OV.out w1 hb))
            have OV1 := Aside0.mk (OV.out w5 (Below.refl _ _))
            clear PO TM
            go_upto_region 15 with (first | (go_at_call 57; ((refine OV1.out.mono ?_); rintro e w6 ⟨rfl, hw6⟩; obtain rfl := hw6)) | (go_at_call 56; ((refine PN.out.mono ?_); rintro e w7 ⟨rfl, hb⟩; have HB7 := Aside0.mk hb; have FN := Aside0.mk (popEmpty (HG5.out.below hb) (HA.out.qi.setAo _) (by have := HL.out; simp only [List.length_nil] at this ⊢; omega) rfl (by decide) (by decide) (by have := HL.out; omega)); clear hb)) | (go_at_call 58; ((refine FN.out.mono ?_); rintro e w8 ⟨rfl, v8, hT, -, -⟩; obtain ⟨own8, hram, -, -⟩ := RAM.made HA.out HK5.out.1 HK5.out.2.1 HK5.out.2.2 HB7.out hT rfl ((HA.out.qi.setAo _).note 1 0 1 true) (.inl rfl) (.inr rfl); have HR8 := Aside0.mk hram; clear hT hram)))
            obtain ⟨M8, hM8⟩ : ∃ M8, M.note 1 0 1 true = M8 := ⟨_, rfl⟩
            have HM8 := Aside0.mk (show M8.log.length = M.log.length + 1 by rw [← hM8]; simp [MS.note])
            rw [hM8] at HR8
            have QP := Aside0.mk (QPop_no HR8.out.qo)
            clear FN OV OV1 PN HG5 HK5 HB7 HA
            go_upto_region 16 with (first | (go_at_call 59; ((refine QP.out.mono ?_); rintro e w9 ⟨rfl, hw9⟩; obtain rfl := hw9)))
            have OKC := Aside0.mk (Ok_C HR8.out.rg.act)
            have BC := Aside0.mk (Batch_C HR8.out.rg (by simp))
            clear QP
            go_wp2_with (first | (go_at_call 60; ((refine OKC.out.mono ?_); rintro e w6 ⟨rfl, hw6⟩; obtain rfl := hw6)) | (go_at_call 61; ((refine BC.out.mono ?_); rintro e w10 ⟨v10, rfl, hr, hb⟩; have hr2 : Kd.R k143 143 w10 _ (fun _ => True) v10 ([] : List S143) := hr; obtain ⟨A10, n10, c10, rfl⟩ := R_any hr2; obtain ⟨e10, h10, hC10⟩ := Kd.R_reads' hr2; subst e10; have HR10 := Aside0.mk (HR8.out.below hb); have FR := Aside0.mk (From_C A10 c10 ([] : List S143) (by unfold Pure.Short; simp) w10 hC10 h10); have HB10 := Aside0.mk hb; clear hr hr2 h10 hC10 hb)) | (go_at_call 38; ((refine FR.out.mono ?_); rintro e w11 ⟨v11, rfl, hr, hb⟩; obtain ⟨A11, n11, c11, rfl⟩ := R_any hr; obtain ⟨e11, h11, hC11⟩ := Kd.R_reads' hr; obtain rfl : n11 = ([] : List S143).length := e11.trans (List.length_map ..); have HR11 := Aside0.mk (HR10.out.below hb); have SM0 := Same_C A11 none c11 0 [] (by unfold Pure.Short; simp) w11 hC11 h11 (Kd.R_reads' (Kd.R_nil k140 140 w11 0 (fun _ => True))).2.2 (Nat.le_refl _); have SM := Aside0.mk SM0; clear hr hb h11 hC11 SM0 e11)) | (go_at_call 37; ((refine SM.out.mono ?_); rintro e w12 ⟨rfl, ⟨nd, rfl⟩⟩; have HR12 := Aside0.mk (HR11.out.below (pw_below_drewN (Below.refl _ _) nd)); have TM2a := Time_C HR12.out.rg.mem; have TM2b : Calls Try.prog 43 #[.pointer (some ⟨gm, 0, none⟩)] _ _ := (by rw [← HGM.out]; exact TM2a); have TM2 := Aside0.mk TM2b; have MK := Aside0.mk (Mark_C HR12.out.rg.act); have gle : ¬ M8.log.length ≤ M.log.length := (by have := HM8.out; omega); clear TM2a TM2b)) | (go_at_call 62; ((refine MK.out.mono ?_); rintro e w6 ⟨rfl, hw6⟩; obtain rfl := hw6)) | (go_at_call 43; ((refine TM2.out.mono ?_); rintro e w6 ⟨rfl, hw6⟩; obtain rfl := hw6)))
            go_roundw
            case rel => exact ⟨i + 1, at_, by first | rfl | exact congrArg _ hw, rfl, ⟨by have := HP2.out; omega, by have := HP2.out; omega, by have := HL.out; omega, _, _, _, _, _, _, _, _, HR12.out.ral, HGM.out, by have := HM8.out; have := HL.out; omega, by have := HL.out; simp only [List.length_cons, List.length_nil] at this ⊢; omega⟩⟩
            case measure => exact meas200 HP2.out.2
          | cons b q =>
            have PO := Aside0.mk (Pop_ok (gr := gr) 1 HA.out.rb (fun w1 hb => HA.out.eo.over hb))
            go_upto_region 13 with (first | (go_at_call 43; ((with_reducible refine TM.out.mono ?_); rintro e w5 ⟨rfl, hw5⟩; obtain rfl := hw5)) | (go_at_call 56; ((refine PO.out.mono ?_); rintro e w5 ⟨na, rfl, hna, hrg, hk, hb⟩; have HG5 := Aside0.mk hrg; have HK5 := Aside0.mk (show _ ∧ _ ∧ _ from ⟨hna, hk, hb⟩); clear hna hrg hk hb)))
            have OV := Aside0.mk (fun w1 (hb : Below w5.heap.size w5 w1) => over_on_at HG5.out.act rfl hb)
            have PN := Aside0.mk (Pop_no 1 HG5.out.rb (fun w1 hb => OV.out w1 hb))
            have OV1 := Aside0.mk (OV.out w5 (Below.refl _ _))
            clear PO TM
            go_upto_region 15 with (first | (go_at_call 57; ((refine OV1.out.mono ?_); rintro e w6 ⟨rfl, hw6⟩; obtain rfl := hw6)) | (go_at_call 56; ((refine PN.out.mono ?_); rintro e w7 ⟨rfl, hb⟩; have HB7 := Aside0.mk hb; have FN := Aside0.mk (popOne (HG5.out.below hb) (HA.out.qi.setAo _) (by have := HL.out; simp only [List.length_cons] at this; omega) (by decide) (by decide) (by have := HL.out; omega)); clear hb)) | (go_at_call 58; ((refine FN.out.mono ?_); rintro e w8 ⟨rfl, v8, M8, ⟨hT, -, -⟩, hqi8, hlg8⟩; obtain ⟨own8, hram, -, -⟩ := RAM.made HA.out HK5.out.1 HK5.out.2.1 HK5.out.2.2 HB7.out hT rfl hqi8 (.inl rfl) (.inr rfl); have HR8 := Aside0.mk hram; have HM8 := Aside0.mk hlg8; clear hT hram hqi8 hlg8)))
            have QP := Aside0.mk (QPop_ok HR8.out.qo (by have := HL.out; simp only [List.length_cons] at this; omega))
            have HBS := Aside0.mk (show b.length ≤ 12 from by have h1 := HA.out.qi.it 0 (by simp); have h2 : b = rdB M.boxes ((1 + (a + 0) % n : Nat) : Int) := h1.symm; rw [h2]; unfold rdB; rw [List.getD_eq_getElem?_getD]; cases hb : M.boxes[((1 + (a + 0) % n : Nat) : Int).toNat]? with | none => simp | some c => exact HA.out.qi.sm c (List.mem_of_getElem? hb))
            clear FN OV OV1 PN HG5 HK5 HB7
            go_upto_region 16 with (first | (go_at_call 59; ((refine QP.out.mono ?_); rintro e w9 ⟨Ab, cb, rfl, hle, hCb, vL9, hs9, hq9, hk9, hb9⟩; obtain ⟨ownq9, hr9⟩ := HR8.out.queue hq9 hk9 hb9; have HR9 := Aside0.mk hr9; have HCB := Aside0.mk (show _ ∧ _ from ⟨hle, hCb⟩); clear hle hCb hq9 hk9 hb9 hr9)))
            clear HR8
            have HR8 := HR9
            clear HR9 HA
            have OKC := Aside0.mk (Ok_C HR8.out.rg.act)
            have BC := Aside0.mk (Batch_C HR8.out.rg (by have := HBS.out; omega))
            clear QP
            go_wp2_with (first | (go_at_call 60; ((refine OKC.out.mono ?_); rintro e w6 ⟨rfl, hw6⟩; obtain rfl := hw6)) | (go_at_call 61; ((refine BC.out.mono ?_); rintro e w10 ⟨v10, rfl, hr, hb⟩; have hr2 : Kd.R k143 143 w10 _ (fun _ => True) v10 b := hr; obtain ⟨A10, n10, c10, rfl⟩ := R_any hr2; obtain ⟨e10, h10, hC10⟩ := Kd.R_reads' hr2; subst e10; have HR10 := Aside0.mk (HR8.out.below hb); have FR := Aside0.mk (From_C A10 c10 b (by unfold Pure.Short; have := HBS.out; omega) w10 hC10 h10); have HB10 := Aside0.mk hb; clear hr hr2 h10 hC10 hb)) | (go_at_call 38; ((refine FR.out.mono ?_); rintro e w11 ⟨v11, rfl, hr, hb⟩; obtain ⟨A11, n11, c11, rfl⟩ := R_any hr; obtain ⟨e11, h11, hC11⟩ := Kd.R_reads' hr; obtain rfl : n11 = b.length := e11.trans (List.length_map ..); have HR11 := Aside0.mk (HR10.out.below hb); have SM0 := (show Calls Try.prog 37 #[.slice A11 b.length c11, .slice Ab (bq b).length cb] w11 (fun e w' => e = .returned (.bool true) ∧ Drawn0 w11 w') from (by have hS := Same_C A11 Ab c11 cb b (by unfold Pure.Short; have := HBS.out; omega) w11 hC11 (by rw [List.length_map]; exact h11) (Kd.C_below (Kd.C_below HCB.out.2 HB10.out) hb) HCB.out.1; rw [List.length_map] at hS; rw [show (bq b).length = b.length from List.length_map ..]; exact hS)); have SM := Aside0.mk SM0; clear hr hb h11 hC11 SM0 e11)) | (go_at_call 37; ((refine SM.out.mono ?_); rintro e w12 ⟨rfl, ⟨nd, rfl⟩⟩; have HR12 := Aside0.mk (HR11.out.below (pw_below_drewN (Below.refl _ _) nd)); have TM2a := Time_C HR12.out.rg.mem; have TM2b : Calls Try.prog 43 #[.pointer (some ⟨gm, 0, none⟩)] _ _ := (by rw [← HGM.out]; exact TM2a); have TM2 := Aside0.mk TM2b; have MK := Aside0.mk (Mark_C HR12.out.rg.act); have gle : ¬ M8.log.length ≤ M.log.length := (by have := HM8.out; omega); clear TM2a TM2b)) | (go_at_call 62; ((refine MK.out.mono ?_); rintro e w6 ⟨rfl, hw6⟩; obtain rfl := hw6)) | (go_at_call 43; ((refine TM2.out.mono ?_); rintro e w6 ⟨rfl, hw6⟩; obtain rfl := hw6)))
            go_roundw
            case rel => exact ⟨i + 1, at_, by first | rfl | exact congrArg _ hw, rfl, ⟨by have := HP2.out; omega, by have := HP2.out; omega, by have := HL.out; omega, _, _, _, _, _, _, _, _, HR12.out.ral, HGM.out, by have := HM8.out; have := HL.out; omega, by have := HL.out; simp only [List.length_cons, List.length_nil] at this ⊢; omega⟩⟩
            case measure => exact meas200 HP2.out.2
      · obtain ⟨hp1, hp2⟩ : pb = false ∧ at_ < l1.length := by
          cases pb
          · exact ⟨rfl, by omega⟩
          · exact absurd (.inl rfl) hpop
        subst hp1
        clear hpop
        have d3 := decide_eq_false (show ¬ (l1.length : Int) ≤ (at_ : Int) by omega)
        have q5 : (0 : Int) ≤ (at_ : Int) := by omega
        have q6 : (at_ : Int) < (l1.length : Int) := by omega
        obtain ⟨ad1, A3, c3, rfl, hx1, hl1, hC1⟩ := at_L11 (Kd.C_below H1.out HBW.out) (at_ : Int) q5 q6
        rw [Int.toNat_natCast] at hx1
        clear hp2
        have FC := Aside0.mk (Fix_C A3 c3 _ _ hC1 hl1)
        clear hC1 hl1
        go_upto_region 19 with (first | (go_at_call 43; ((with_reducible refine TM.out.mono ?_); rintro e w5 ⟨rfl, hw5⟩; obtain rfl := hw5)) | (go_at_call 33; ((refine FC.out.mono ?_); rintro e w5 ⟨v5, rfl, hr, hb⟩; obtain ⟨A5, n5, c5, rfl⟩ := R_any hr; have HR5 := Aside0.mk hr; have HB5 := Aside0.mk hb; clear hr hb)))
        obtain ⟨X, hX⟩ : ∃ X, fixR (rd_L11 l1 (at_ : Int)) = X := ⟨_, rfl⟩
        have HXL := Aside0.mk (show X.length ≤ 12 by rw [← hX]; exact fixR_len _)
        rw [hX] at HR5
        obtain ⟨e5, h5, hC5⟩ := Kd.R_reads' HR5.out
        obtain rfl : n5 = X.length := e5.trans (List.length_map ..)
        have hbl : (bq X).length = X.length := List.length_map ..
        have HTK := Aside0.mk (RAL.take (X := bq X) HA.out HB5.out (by rw [hbl]; exact HR5.out))
        have TC0 := To_C A5 c5 X (by unfold Pure.Short; have := HXL.out; omega) w5 hC5 (by rw [List.length_map]; exact h5)
        rw [List.length_map] at TC0
        have TC := Aside0.mk TC0
        have H5 := Aside0.mk h5
        clear hX e5 TC0 hC5 h5 FC TM hx1 hx2 HR5
        go_upto_region 21 with (first | (go_at_call 35; ((refine TC.out.mono ?_); rintro e w6 ⟨v6, rfl, hr, hb⟩; obtain ⟨A6, n6, c6, rfl⟩ := R_any hr; obtain ⟨e6, h6, hC6⟩ := Kd.R_reads' hr; subst e6; have HA6 := Aside0.mk (HTK.out.1.below hb); have HF6 := Aside0.mk (Kd.F_step HTK.out.2 (fun k _ hlt => hb.block k hlt)); have HS6 := Aside0.mk hb.size; have PU := Aside0.mk (Push_ok (gr := gr) (bl := X) 0 A6 c6 HA6.out.rb hC6 (by have := HXL.out; omega) (fun w1 hb => HA6.out.ei.over hb)); clear hr hb h6 hC6)) | (go_at_call 63; ((refine PU.out.mono ?_); rintro e w7 ⟨na, v7, rfl, hna, hrg, hk, hb⟩; have HG7 := Aside0.mk hrg; have HK7 := Aside0.mk (show _ ∧ _ ∧ _ from ⟨hna, hk, hb⟩); clear hna hrg hk hb)))
        clear PU TC
        have OV := Aside0.mk (fun w1 (hb : Below w7.heap.size w7 w1) => over_on_at HG7.out.act rfl hb)
        have PN0 := Push_no (gr := gr) (bl := []) 0 none 0 HG7.out.rb (Kd.R_reads' (Kd.R_nil k143 143 w7 0 (fun _ => True))).2.2 (by decide) (fun w1 hb => OV.out w1 hb)
        have PN := Aside0.mk (show Calls Try.prog 63 #[.pointer (some ⟨gr, 0, none⟩), .int .i64 0, .slice none 0 0] w7 _ from PN0)
        have OV1 := Aside0.mk (OV.out w7 (Below.refl _ _))
        clear PN0
        by_cases hfull : q.length = n
        · go_wp2_with (first | (go_at_call 57; ((refine OV1.out.mono ?_); rintro e w6 ⟨rfl, hw6⟩; obtain rfl := hw6)) | (go_at_call 63; ((refine PN.out.mono ?_); rintro e w8 ⟨rfl, hb⟩; have HB8 := Aside0.mk hb; have FN := Aside0.mk (pushFull (HG7.out.below hb) (HA6.out.qi.setAi _) (by have := HL.out; omega) hfull (by decide) (by decide) (by have := HL.out; omega)); clear hb)) | (go_at_call 58; ((refine FN.out.mono ?_); rintro e w9 ⟨rfl, v8, hT, -, -⟩; obtain ⟨own9, hram, hst9, hsz9⟩ := RAM.made HA6.out HK7.out.1 HK7.out.2.1 HK7.out.2.2 HB8.out hT rfl ((HA6.out.qi.setAi _).note 0 0 2 true) (.inr rfl) (.inl rfl); have HR9 := Aside0.mk hram; have HM8 := Aside0.mk (show (M.note 0 0 2 true).log.length = M.log.length + 1 by simp [MS.note]); have HF9 := Aside0.mk (Kd.F_step HF6.out (fun k ho hlt => hst9 k ho.1)); have HSZ := Aside0.mk hsz9; have OKC := Aside0.mk (Ok_C hram.rg.act); clear hT hram hst9 hsz9)) | (go_at_call 60; ((refine OKC.out.mono ?_); rintro e w6 ⟨rfl, hw6⟩; obtain rfl := hw6)) | (go_at_call 64; ((refine (QPush_no HR9.out.qo (by omega) _).mono ?_); rintro e w10 ⟨rfl, hb⟩; have HR10 := Aside0.mk (HR9.out.below hb); have TM2a := Time_C HR10.out.rg.mem; have TM2b : Calls Try.prog 43 #[.pointer (some ⟨gm, 0, none⟩)] _ _ := (by rw [← HGM.out]; exact TM2a); have TM2 := Aside0.mk TM2b; have MK := Aside0.mk (Mark_C HR10.out.rg.act); have BC := Aside0.mk (Batch_C HR10.out.rg (by have := HXL.out; omega)); clear TM2a TM2b; clear hb)) | (go_at_call 62; ((refine MK.out.mono ?_); rintro e w6 ⟨rfl, hw6⟩; obtain rfl := hw6)) | (go_at_call 43; ((refine TM2.out.mono ?_); rintro e w6 ⟨rfl, hw6⟩; obtain rfl := hw6)) | (go_at_call 61; ((refine BC.out.mono ?_); rintro e w12 ⟨v12, rfl, hr, hb⟩; have hr2 : Kd.R k143 143 w12 _ (fun _ => True) v12 [] := hr; obtain ⟨A12, n12, c12, rfl⟩ := R_any hr2; obtain ⟨e12, -, -⟩ := Kd.R_reads' hr2; subst e12; have HR12 := Aside0.mk (HR10.out.below hb); clear hr hr2 hb)))
          go_roundw
          case rel => exact ⟨i + 1, at_ + 1, by first | rfl | exact congrArg _ hw, by first | rfl | exact congrArg _ hwa, ⟨by have := HP2.out; omega, by have := HP2.out; omega, by have := HL.out; omega, _, _, _, _, _, _, _, _, HR12.out.ral, HGM.out, by have := HM8.out; have := HL.out; omega, by have := HL.out; (try simp only [List.length_append, List.length_cons, List.length_nil]); omega⟩⟩
          case measure => exact meas200 HP2.out.2
        · go_wp2_with (first | (go_at_call 57; ((refine OV1.out.mono ?_); rintro e w6 ⟨rfl, hw6⟩; obtain rfl := hw6)) | (go_at_call 63; ((refine PN.out.mono ?_); rintro e w8 ⟨rfl, hb⟩; have HB8 := Aside0.mk hb; have FN := Aside0.mk (pushRoom (HG7.out.below hb) (HA6.out.qi.setAi _) (by have := HL.out; omega) (by have := HA6.out.qi.le; omega) (by decide) (by decide) (by have := HL.out; omega) HXL.out); clear hb)) | (go_at_call 58; ((refine FN.out.mono ?_); rintro e w9 ⟨rfl, v8, M8, ⟨hT, -, -⟩, hqi8, hlg8⟩; obtain ⟨own9, hram, hst9, hsz9⟩ := RAM.made HA6.out HK7.out.1 HK7.out.2.1 HK7.out.2.2 HB8.out hT rfl hqi8 (.inr rfl) (.inl rfl); have HR9 := Aside0.mk hram; have HM8 := Aside0.mk hlg8; have HF9 := Aside0.mk (Kd.F_step HF6.out (fun k ho hlt => hst9 k ho.1)); have HSZ := Aside0.mk hsz9; have OKC := Aside0.mk (Ok_C hram.rg.act); clear hT hram hst9 hsz9)) | (go_at_call 60; ((refine OKC.out.mono ?_); rintro e w6 ⟨rfl, hw6⟩; obtain rfl := hw6)) | (go_at_call 64; ((refine (show Calls Try.prog 64 #[.pointer (some ⟨gq, 0, none⟩), .slice A5 X.length c5] _ _ from (by have hq1 := QPush_ok (b := X) HR9.out.qo (by have := HA6.out.qi.le; omega) (by have := HL.out; omega) A5 c5 (by rw [hbl]; exact H5.out) (Kd.F_mono HF9.out (fun k hk => ⟨hk.1, hk.2.1, by have h1 := HS6.out; have h2 := HSZ.out; have h3 := hk.2.2; omega⟩)); rw [hbl] at hq1; exact hq1)).mono ?_); rintro e w10 ⟨rfl, vL9, hs9, hq9, hk9, hb9⟩; obtain ⟨ownq9, hr9⟩ := HR9.out.queue hq9 hk9 hb9; have HR10 := Aside0.mk hr9; have TM2a := Time_C HR10.out.rg.mem; have TM2b : Calls Try.prog 43 #[.pointer (some ⟨gm, 0, none⟩)] _ _ := (by rw [← HGM.out]; exact TM2a); have TM2 := Aside0.mk TM2b; have MK := Aside0.mk (Mark_C HR10.out.rg.act); have BC := Aside0.mk (Batch_C HR10.out.rg (by have := HXL.out; omega)); clear TM2a TM2b; clear hq9 hk9 hb9 hr9)) | (go_at_call 62; ((refine MK.out.mono ?_); rintro e w6 ⟨rfl, hw6⟩; obtain rfl := hw6)) | (go_at_call 43; ((refine TM2.out.mono ?_); rintro e w6 ⟨rfl, hw6⟩; obtain rfl := hw6)) | (go_at_call 61; ((refine BC.out.mono ?_); rintro e w12 ⟨v12, rfl, hr, hb⟩; have hr2 : Kd.R k143 143 w12 _ (fun _ => True) v12 [] := hr; obtain ⟨A12, n12, c12, rfl⟩ := R_any hr2; obtain ⟨e12, -, -⟩ := Kd.R_reads' hr2; subst e12; have HR12 := Aside0.mk (HR10.out.below hb); clear hr hr2 hb)))
          go_roundw
          case rel => exact ⟨i + 1, at_ + 1, by first | rfl | exact congrArg _ hw, by first | rfl | exact congrArg _ hwa, ⟨by have := HP2.out; omega, by have := HP2.out; omega, by have := HL.out; omega, _, _, _, _, _, _, _, _, HR12.out.ral, HGM.out, by have := HM8.out; have := HL.out; omega, by have := HL.out; (try simp only [List.length_append, List.length_cons, List.length_nil]); omega⟩⟩
          case measure => exact meas200 HP2.out.2
    · have hc2 : (i < l2.length ∧ ¬ i < 200) ∨ ¬ i < l2.length := by omega
      clear hil
      have HE := Aside0.mk (below_step HB1.out HA.out.bel)
      rcases hc2 with ⟨h1, h2⟩ | h1
      · have d1 := decide_eq_true (show (i : Int) < (l2.length : Int) by omega)
        have d2 := decide_eq_false (show ¬ (i : Int) < (200 : Int) by omega)
        go_wp2
        go_ret
        exact ⟨rfl, HE.out⟩
      · have d1 := decide_eq_false (show ¬ (i : Int) < (l2.length : Int) by omega)
        go_wp2
        go_ret
        exact ⟨rfl, HE.out⟩
open Go.RowKit Go.Proofs.YtlcnckbmolefpaaW.PrintWords
instance : Inhabited S140 := ⟨z140⟩
theorem opens140 : Opens Try.prog 140 k140 (fun _ => True) :=
  (Opens.iso (Opens.struct (d := Kd.pair (Kd.int .i64) (Kd.pair (Kd.int .u64) (Kd.int .i64))) Try.underlying140 (by kernel_rfl)
    (OpensSeg.cons rfl (by kernel_rfl) (by decide) (opens_i64 Try.underlying3) (OpensSeg.cons rfl (by kernel_rfl) (by decide) (opens_u64 Try.underlying29) (OpensSeg.one rfl (by kernel_rfl) (opens_i64 Try.underlying2)))))
    (fun x : S140 => (x.f0, x.f1, x.f2)) (fun y => ⟨y.1, y.2.1, y.2.2⟩) (fun _ => rfl)).imp fun _ _ => trivial
theorem opens51 : Opens Try.prog 51 (Kd.slice 140 k140) (fun l => l.length ≤ maxLen ∧ ∀ y ∈ l, True) := Opens.slice Try.underlying51 (by kernel_rfl) opens140
theorem opens45 : Opens Try.prog 45 (Kd.slice 51 (Kd.slice 140 k140)) (fun l => l.length ≤ maxLen ∧ ∀ y ∈ l, y.length ≤ maxLen ∧ ∀ z ∈ y, True) := Opens.slice Try.underlying45 (by kernel_rfl) opens51
def marchlandlaw11_RingAlone.f (_k : Nat) (_a : Int) (_l1 : List (List S140)) (_l2 : List Bool) : Option Bool := some true
theorem marchlandlaw11_RingAlone.calls (k : Nat) (a : Int) (A1 : Option Addr) (c1 : Nat) (l1 : List (List S140)) (A2 : Option Addr) (c2 : Nat) (l2 : List Bool) (r : Bool) (w : World)
    (hC1 : Kd.C (Kd.slice 140 k140) w A1 l1.length l1) (_hc1 : l1.length ≤ c1) (hC2 : Kd.C Kd.bool w A2 l2.length l2) (_hc2 : l2.length ≤ c2) (h : marchlandlaw11_RingAlone.f k a l1 l2 = some r) :
    Calls Try.prog 12 #[.int .i64 a, .slice A1 l1.length c1, .slice A2 l2.length c2] w fun e w' => e = .returned (.bool r) ∧ Below w.heap.size w w' := by
  obtain rfl := Option.some.inj h
  exact RAlone_calls a A1 A2 c1 c2 l1 l2 w hC1 hC2
end Go.Proofs.Ytlcnckbmolefpaa.P
namespace Go.Proofs.Ytlcnckbmolefpaa.Pure
theorem RingAlone (a : Int) (l1 : List (List P.S140)) (l2 : List Bool) : ∃ k, P.marchlandlaw11_RingAlone.f k a l1 l2 = some true := ⟨0, rfl⟩
end Go.Proofs.Ytlcnckbmolefpaa.Pure
end
