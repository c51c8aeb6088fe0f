/- Walks and laws of several statements of this seat, joined into one text; no condition. -/
import Derived.Test.YtlcnckbmolefpaaProg
import Derived.Below
import Derived.Deep.Draws
import Derived.Deep.AppendLies
import Derived.Maps.AppendAt
import Derived.OwnWalk
import Derived.Laws.BytesArg
import Derived.Laws.MakeOwn
import Derived.Laws.OwnMore
import Derived.Deep.OwnRows
import Derived.Tactics
import Derived.Lib.ConvBytes
import Derived.Laws.Slices
import Derived.WalkKit
import Derived.KernelRfl
import Derived.RowKit3
import Derived.Deep.LoopGhost
import Derived.Deep.QuietTactic
import Derived.BigQuiet
import Derived.WideLaws
import Derived.Deep.DeepCutAuto
import Derived.Deep.CutBlock
import Derived.Deep.RegionHeld3
import Derived.Laws.Rows
import Derived.Lib.AppendStr
import Derived.ArgAppend
import Derived.Laws.IdiomCopy
import Derived.OrdersHeld
import Derived.Laws.BitsLemmas
import Derived.RowKit
import Derived.Laws.StructEq
import Derived.Maps.RangeWalk
import Derived.Maps.OwnRows
import Derived.Maps.Views
import Derived.Maps.OwnSet
import Derived.IntWalk
import Derived.Shelf.SlMaps.Clone
import Derived.Laws.CopyOwn
import Derived.Deep.RegionLaw
import Derived.LoopTactic
import Derived.Outline
import Derived.Lib.BufferMore
import Derived.Deep.CutRange
import Derived.Lib.Zigzag
import Derived.Laws.EntriesVeiled
import Derived.Lib.Builder
import Derived.LaidEqlPtr
import Derived.Deep.Slices
import Derived.SizedLaws
import Derived.OpenShut
import Derived.Lib.SmallJoins
import Derived.Deep.RegionHeldLaw
import Derived.Maps.GroupsBeside
import Derived.Test.YtlcnckbmolefpaaRTa0
import Derived.Test.YtlcnckbmolefpaaRTa1
import Derived.Test.YtlcnckbmolefpaaRTa2
import Derived.Test.YtlcnckbmolefpaaRTa3
import Derived.Test.YtlcnckbmolefpaaRTa6
section
namespace Go.Proofs.Ytlcnckbmolefpaa.P
open Go.RowKit Go.Maps Go.Proofs.Ytlcnckbmolefpaa.CK Go.Proofs.YtlcnckbmolefpaaW.PrintWords Go.Proofs.YtlcnckbmolefpaaW.PrintLast Go.Proofs.YtlcnckbmolefpaaW.PrintMore
set_option linter.unusedVariables false
set_option linter.unusedSimpArgs false
section
variable {W w w' w2 : World} {B : Nat} {own own' : Nat → Prop} {gr na : Nat} {M M' : MS} {R R' : RC} {A : AC} {bl bl' : List S143} {n a : Nat} {q : List (List S143)} {who : Int} {v0 : Value}
theorem RGTo.trans1 {A' : AC} (hs : ∀ k, own' k → own k ∨ w.heap.size ≤ k) (hk : Kept w w' (fun k => own k ∨ k = gr ∨ k = na)) (hb : Below B w w') (h2 : RGTo w' w2 B own' gr na M' R' A' bl') : RGTo w w2 B own gr na M' R' A' bl' := by
  obtain ⟨own2, h3, hs3, hk3, hb3⟩ := h2
  refine ⟨own2, h3, fun k ho => (hs3 k ho).elim (hs k) (fun hl => .inr (Nat.le_trans hk.1 hl)), kept_trans hk (kept_or hk3 (fun k e => ?_)), hb.trans hb3⟩
  rcases e with e | e
  · exact (hs k e).imp .inl id
  · exact .inl (.inr e)
theorem RGTo.bind {f : FuncId} {args : Array Value} {E : Ending} {A' : Value → AC} (hT : RGTo W w B own gr na M R A bl) (hc : ∀ own', RG w B own' gr na M R A bl → Calls Try.prog f args w fun e w' => e = E ∧ ∃ v, RGTo w w' B own' gr na M' R' (A' v) bl') :
    Calls Try.prog f args w fun e w' => e = E ∧ ∃ v, RGTo W w' B own gr na M' R' (A' v) bl' := by
  obtain ⟨own', h1, hs, hk, hb⟩ := hT
  refine (hc own' h1).mono ?_
  rintro e w' ⟨rfl, v, h2⟩
  exact ⟨rfl, v, RGTo.trans1 hs hk hb h2⟩
def Fini (W w' : World) (B : Nat) (own : Nat → Prop) (gr na : Nat) (M : MS) (R : RC) (A : AC) (bl : List S143) : Prop := RGTo W w' B own gr na M R A bl ∧ A.st = .nilFunc ∧ A.mark = (M.log.length : Int)
theorem Fini.over (h : Fini W w' B own gr na M R A bl) : Calls Try.prog 57 #[.pointer (some ⟨na, 0, none⟩)] w' fun e w2 => e = .returned (.bool true) ∧ w2 = w' := by
  obtain ⟨⟨own', h1, -⟩, hs, -⟩ := h
  exact Over_done h1.act hs
theorem pushFull (h : RG W B own gr na M R (pushA who v0) bl) (hi : QI M R n a q) (hl : a + q.length ≤ 100000) (hq : q.length = n) (hwho : (Lit.int .i64 who).wf = true) (h0 : 0 ≤ who) (hlog : M.log.length ≤ 900000) :
    Calls Try.prog 58 #[.pointer (some ⟨na, 0, none⟩)] W fun e w' => e = .returned (.bool true) ∧ ∃ v, Fini W w' B own gr na (M.note who 0 2 true) R { pushA who v0 with st := .nilFunc, ok := false, b := v, mark := ((M.note who 0 2 true).log.length : Int) } bl := by
  obtain ⟨l1, l2⟩ := hi.look_in h0
  have hd : decide (R.size ≤ IntKind.u64.wrap (R.ci - M.load who R.wo)) = true := by rw [l1, hi.full hl]; exact decide_eq_true hq
  refine finish_gen 1 ⟨by omega, by omega⟩ (fun _ w => RGTo W w B own gr na M R (pushA who v0) bl) (fun w' => ∃ v, Fini W w' B own gr na (M.note who 0 2 true) R { pushA who v0 with st := .nilFunc, ok := false, b := v, mark := ((M.note who 0 2 true).log.length : Int) } bl) h.self (fun i hi => absurd hi (by omega)) ?_ ?_
  · intro i _ w hT
    refine (hT.bind (M' := M.note who 0 2 true) (R' := R) (bl' := bl) (fun own' hg => Step95e (A' := { pushA who v0 with st := .nilFunc, ok := false }) hg rfl (by rw [hi.bd]; rfl) hwho rfl (fun W1 hg1 => (room_C true hg1 rfl hwho (by omega) hd).mono ?_))).mono ?_
    · rintro e w' ⟨rfl, h2⟩
      rw [show (pushA who v0).who = who from rfl, l2] at h2
      exact ⟨rfl, v0, h2⟩
    · rintro e w' ⟨rfl, v, h2⟩
      exact ⟨rfl, v, h2, rfl, rfl⟩
  · rintro w ⟨v, hf⟩
    exact hf.over
theorem pushRoom (h : RG W B own gr na M R (pushA who v0) bl) (hi : QI M R n a q) (hl : a + q.length ≤ 100000) (hq : q.length < n) (hwho : (Lit.int .i64 who).wf = true) (h0 : 0 ≤ who) (hlog : M.log.length ≤ 900000) (hbl : bl.length ≤ 12) :
    Calls Try.prog 58 #[.pointer (some ⟨na, 0, none⟩)] W fun e w' => e = .returned (.bool true) ∧ ∃ v M3, Fini W w' B own gr na M3 { R with ci := IntKind.u64.wrap (R.ci + 1) } { pushA who v0 with st := .nilFunc, ok := true, b := v, mark := (M3.log.length : Int) } bl ∧ QI M3 { R with ci := IntKind.u64.wrap (R.ci + 1) } n a (q ++ [bl]) ∧ M3.log.length = M.log.length + 3 := by
  obtain ⟨l1, l2⟩ := hi.look_in h0
  have hd : decide (R.size ≤ IntKind.u64.wrap (R.ci - M.load who R.wo)) = false := by rw [l1, hi.full hl]; exact decide_eq_false (by omega)
  obtain ⟨M2, M3, e2, e3, hi3, g2, g3, gb⟩ := (hi.note who 0 2 true).push hl hq hbl h0
  have gn : (M.note who 0 2 true).log.length = M.log.length + 1 := by simp [MS.note]
  have hbd : ∀ w : Int, ((M.note who 0 2 true).beds w).isSome = false := fun w => by rw [(hi.note who 0 2 true).bd]; rfl
  refine (finish_gen 3 ⟨by omega, by omega⟩ (fun i w => if i = 0 then RGTo W w B own gr na M R (pushA who v0) bl else if i = 1 then ∃ v, RGTo W w B own gr na (M.note who 0 2 true) R { pushA who v0 with st := stg 114, b := v } bl else ∃ v, RGTo W w B own gr na M2 R { pushA who v0 with st := stg 123, b := v } bl) (fun w' => ∃ v, Fini W w' B own gr na M3 { R with ci := IntKind.u64.wrap (R.ci + 1) } { pushA who v0 with st := .nilFunc, ok := true, b := v, mark := (M3.log.length : Int) } bl) h.self ?_ ?_ ?_).mono ?_
  · intro i hi3' w hT
    have hi2 : i = 0 ∨ i = 1 := by omega
    rcases hi2 with rfl | rfl
    · have hT : RGTo W w B own gr na M R (pushA who v0) bl := hT
      refine (hT.bind (M' := M.note who 0 2 true) (R' := R) (bl' := bl) (fun own' hg => Step95 (A' := { pushA who v0 with st := stg 114 }) hg rfl (by rw [hi.bd]; rfl) hwho rfl (fun W1 hg1 => (room_C false hg1 rfl hwho (by omega) hd).mono ?_)))
      rintro e w' ⟨rfl, h2⟩
      rw [show (pushA who v0).who = who from rfl, l2] at h2
      exact ⟨rfl, v0, h2⟩
    · obtain ⟨v, hT⟩ : ∃ v, RGTo W w B own gr na (M.note who 0 2 true) R { pushA who v0 with st := stg 114, b := v } bl := hT
      refine (hT.bind (M' := M2) (R' := R) (bl' := bl) (fun own' hg => Step114 (A' := { pushA who v0 with st := stg 123, b := v }) hg rfl (hbd _) hwho rfl (fun W1 hg1 => (lay_C hg1 hwho (by omega) (by omega)).mono ?_)))
      rintro e w' ⟨rfl, h2⟩
      have h2' : RGTo W1 w' B own' gr na ((M.note who 0 2 true).set_ who (R.place R.ci) bl) R { pushA who v0 with st := stg 123, b := v } bl := h2
      rw [e2] at h2'
      exact ⟨rfl, v, h2'⟩
  · intro i hi3' w hT
    obtain rfl : i = 2 := by omega
    obtain ⟨v, hT⟩ : ∃ v, RGTo W w B own gr na M2 R { pushA who v0 with st := stg 123, b := v } bl := hT
    refine (hT.bind (M' := M3) (R' := { R with ci := IntKind.u64.wrap (R.ci + 1) }) (bl' := bl) (fun own' hg => Step123e (A' := { pushA who v0 with st := .nilFunc, ok := true, b := v }) hg rfl (by rw [gb]; rfl) hwho rfl (fun W1 hg1 => (tell_in hg1 rfl hwho (by omega)).mono ?_))).mono ?_
    · rintro e w' ⟨rfl, h2⟩
      have h2' : RGTo W1 w' B own' gr na (M2.store who R.wi (IntKind.u64.wrap (R.ci + 1))) { R with ci := IntKind.u64.wrap (R.ci + 1) } { pushA who v0 with st := .nilFunc, ok := true, b := v } bl := h2
      rw [e3] at h2'
      exact ⟨rfl, v, h2'⟩
    · rintro e w' ⟨rfl, v, h2⟩
      exact ⟨rfl, v, h2, rfl, rfl⟩
  · rintro w ⟨v, hf⟩
    exact hf.over
  · rintro e w' ⟨rfl, v, hf⟩
    exact ⟨rfl, v, M3, hf, hi3, by omega⟩
theorem popOne {b : List S143} (h : RG W B own gr na M R (popA who) bl) (hi : QI M R n a (b :: q)) (hl : a + q.length + 1 ≤ 100000) (hwho : (Lit.int .i64 who).wf = true) (h0 : 0 ≤ who) (hlog : M.log.length ≤ 900000) :
    Calls Try.prog 58 #[.pointer (some ⟨na, 0, none⟩)] W fun e w' => e = .returned (.bool true) ∧ ∃ v M3, Fini W w' B own gr na M3 { R with co := IntKind.u64.wrap (R.co + 1) } { popA who with st := .nilFunc, ok := true, b := v, mark := (M3.log.length : Int) } b ∧ QI M3 { R with co := IntKind.u64.wrap (R.co + 1) } n (a + 1) q ∧ M3.log.length = M.log.length + 3 := by
  obtain ⟨l1, l2⟩ := hi.look_out h0
  have hd : (M.load who R.wi == R.co) = false := by rw [l1, hi.emp]; exact decide_eq_false (by simp)
  obtain ⟨M2, M3, e2, eb, e3, hi3, g2, g3, gb⟩ := (hi.note who 0 1 true).pop hl h0
  have gn : (M.note who 0 1 true).log.length = M.log.length + 1 := by simp [MS.note]
  have hbd : ∀ w : Int, ((M.note who 0 1 true).beds w).isSome = false := fun w => by rw [(hi.note who 0 1 true).bd]; rfl
  refine (finish_gen 3 ⟨by omega, by omega⟩ (fun i w => if i = 0 then RGTo W w B own gr na M R (popA who) bl else if i = 1 then ∃ v, RGTo W w B own gr na (M.note who 0 1 true) R { popA who with st := stg 113, b := v } bl else ∃ v, RGTo W w B own gr na M2 R { popA who with st := stg 123, b := v } b) (fun w' => ∃ v, Fini W w' B own gr na M3 { R with co := IntKind.u64.wrap (R.co + 1) } { popA who with st := .nilFunc, ok := true, b := v, mark := (M3.log.length : Int) } b) h.self ?_ ?_ ?_).mono ?_
  · intro i hi3' w hT
    have hi2 : i = 0 ∨ i = 1 := by omega
    rcases hi2 with rfl | rfl
    · have hT : RGTo W w B own gr na M R (popA who) bl := hT
      refine (hT.bind (M' := M.note who 0 1 true) (R' := R) (bl' := bl) (fun own' hg => Step94 (A' := { popA who with st := stg 113 }) hg rfl (by rw [hi.bd]; rfl) hwho rfl (fun W1 hg1 => (some_C false hg1 rfl hwho (by omega) hd).mono ?_)))
      rintro e w' ⟨rfl, h2⟩
      rw [show (popA who).who = who from rfl, l2] at h2
      exact ⟨rfl, _, h2⟩
    · obtain ⟨v, hT⟩ : ∃ v, RGTo W w B own gr na (M.note who 0 1 true) R { popA who with st := stg 113, b := v } bl := hT
      refine (hT.bind (M' := M2) (R' := R) (bl' := b) (fun own' hg => Step113 (A' := { popA who with st := stg 123, b := v }) hg rfl (hbd _) hwho rfl (fun W1 hg1 => (fetch_C hg1 hwho (by omega) (fun c hc => Nat.le_trans ((hi.note who 0 1 true).sm c hc) (by omega))).mono ?_)))
      rintro e w' ⟨rfl, v2, h2⟩
      have h2' : RGTo W1 w' B own' gr na ((M.note who 0 1 true).getTo who (R.place R.co)) R { popA who with st := stg 123, b := v2 } ((M.note who 0 1 true).get who (R.place R.co)) := h2
      rw [e2, eb] at h2'
      exact ⟨rfl, v2, h2'⟩
  · intro i hi3' w hT
    obtain rfl : i = 2 := by omega
    obtain ⟨v, hT⟩ : ∃ v, RGTo W w B own gr na M2 R { popA who with st := stg 123, b := v } b := hT
    refine (hT.bind (M' := M3) (R' := { R with co := IntKind.u64.wrap (R.co + 1) }) (bl' := b) (fun own' hg => Step123e (A' := { popA who with st := .nilFunc, ok := true, b := v }) hg rfl (by rw [gb]; rfl) hwho rfl (fun W1 hg1 => (tell_out hg1 rfl hwho (by omega)).mono ?_))).mono ?_
    · rintro e w' ⟨rfl, h2⟩
      have h2' : RGTo W1 w' B own' gr na (M2.store who R.wo (IntKind.u64.wrap (R.co + 1))) { R with co := IntKind.u64.wrap (R.co + 1) } { popA who with st := .nilFunc, ok := true, b := v } b := h2
      rw [e3] at h2'
      exact ⟨rfl, v, h2'⟩
    · rintro e w' ⟨rfl, v, h2⟩
      exact ⟨rfl, v, h2, rfl, rfl⟩
  · rintro w ⟨v, hf⟩
    exact hf.over
  · rintro e w' ⟨rfl, v, hf⟩
    exact ⟨rfl, v, M3, hf, hi3, by omega⟩
end
attribute [local go_sem] max2_int min2_int max_two min_two
set_option maxRecDepth 100000
theorem QI.start (n gm : Nat) (hn : n = 1 ∨ n = 2 ∨ n = 4 ∨ n = 8 ∨ n = 16) : QI (RingM n) (RC.start gm (n : Int)) n 0 [] :=
  ⟨rfl, by show rd (List.replicate 4 0) 1 = 0; decide, by show rd (List.replicate 4 0) 2 = 0; decide, by simp [RingM], rfl, rfl, rfl, rfl, rfl, rfl, rfl, by simp, hn, fun j hj => absurd hj (by simp), fun b hb => by
    have hb : b ∈ List.replicate (n + 2) ([] : List S143) := hb
    rw [(List.mem_replicate.1 hb).2]; simp⟩
theorem QI.setAi {M : MS} {R : RC} {n a : Nat} {q : List (List S143)} (h : QI M R n a q) (v : Value) : QI M { R with ai := v } n a q := ⟨h.wl, h.w1, h.w2, h.bl, h.bx, h.sz, h.wi, h.wo, h.bd, h.co, h.ci, h.le, h.hn, h.it, h.sm⟩
theorem QI.setAo {M : MS} {R : RC} {n a : Nat} {q : List (List S143)} (h : QI M R n a q) (v : Value) : QI M { R with ao := v } n a q := ⟨h.wl, h.w1, h.w2, h.bl, h.bx, h.sz, h.wi, h.wo, h.bd, h.co, h.ci, h.le, h.hn, h.it, h.sm⟩
theorem ActAt.kept {w w' : World} {gr nb : Nat} {A : AC} {S : Nat → Prop} (h : ActAt w gr nb A) (hk : Kept w w' S) (hn : ¬ S nb) : ActAt w' gr nb A := (hk.2 nb (blk_lt h) hn).trans h
theorem ActAt.below {w w' : World} {gr nb : Nat} {A : AC} (h : ActAt w gr nb A) (hb : Below w.heap.size w w') : ActAt w' gr nb A := (hb.block nb (blk_lt h)).trans h
theorem over_at {w w1 : World} {gr nb : Nat} {A : AC} (h : ActAt w gr nb A) (hs : A.st = .nilFunc) (hb : Below w.heap.size w w1) : Calls Try.prog 57 #[.pointer (some ⟨nb, 0, none⟩)] w1 fun e w' => e = .returned (.bool true) ∧ w' = w1 := Over_done (h.below hb) hs
def e5 : S143 := ⟨0, 5, 1⟩
set_option maxHeartbeats 4000000 in
theorem told11_C (W : World) : Calls Try.prog 55 #[] W fun e w' => e = .returned (.bool true) ∧ Below W.heap.size W w' := by
  go_enter Try.func55, Try.ntmps55
  go_upto_region 4 with (first | (go_at_call 54; ((refine (rbegin_C 1 (by omega) W).mono ?_); rintro e w1 ⟨gm, gr, own, rfl, hrb, hown, hb⟩; have HRB := Aside0.mk hrb; have HB := Aside0.mk hb; clear hrb hown hb)))
  have QI0 := Aside0.mk (QI.start 1 gm (by omega))
  go_upto_region 5 with (first | ((with_reducible refine gate_dst (N := 16) rfl ?_); refine Kd.R_lit k143 _ 143 ?hg (N := 16) ?hd (xs := ([(⟨0, 5, 1⟩ : S143)])) (inner := [.int .i64 0, .int .u64 5, .int .i64 1]) (ok := fun _ => True) (okp := fun _ => True) ?hr ?hp (fun _ hk => hk) trivial (Below.refl _ _) (Nat.le_refl _) (by simp) ?_; (case hd => rfl); (case hg => rfl); (case hr => first | (go_simp; done) | (go_simp; rfl)); (case hp => exact (Reps.c3 (show Kd.M k143 _ _ _ (⟨0, 5, 1⟩ : S143) [.int .i64 0, .int .u64 5, .int .i64 1] from (k143_mkM _ _ _ (⟨0, 5, 1⟩ : S143))) (Reps.none _ _))); intro v1 w2 ho1 hb1 hg_ hnew_; clear hg_ hnew_; obtain ⟨A1, n1, c1, rfl⟩ := R_any ho1; obtain ⟨en1, -, hC1⟩ := Kd.R_reads' ho1; subst en1; have HRB2 := Aside0.mk (HRB.out.below hb1); have PU := Aside0.mk (Push_ok (bl := [e5]) 0 A1 c1 HRB2.out hC1 (by decide) (fun w1 _ => Over_nil w1)); have HB2 := Aside0.mk (below_step HB.out hb1); clear ho1 hb1 hC1) | (go_at_call 63; ((refine PU.out.mono ?_); rintro e w3 ⟨na, v, rfl, hge, hrg, hk, hb⟩; have HG := Aside0.mk hrg; have HB3 := Aside0.mk (HB2.out.trans hb); clear hge hrg hk hb)))
  have F1 := Aside0.mk (pushRoom HG.out (QI0.out.setAi _) (by decide) (by decide) (by decide) (by decide) (by show ([] : List S128).length ≤ _; decide) (by decide))
  clear PU HRB HRB2 HB HB2
  go_upto_region 6 with (first | (go_at_call 58; ((refine F1.out.mono ?_); rintro e w4 ⟨rfl, v4, M4, ⟨⟨own4, hg4, hs4, hk4, hb4⟩, -, -⟩, hqi, hlg⟩; have HG4 := Aside0.mk hg4; have HQ4 := Aside0.mk hqi; have HL4 := Aside0.mk hlg; have HB4 := Aside0.mk (HB3.out.trans hb4); clear hg4 hs4 hk4 hb4 hqi hlg)) | (go_at_call 60; ((refine (Ok_C HG4.out.act).mono ?_); rintro e w5 ⟨rfl, hw5⟩; obtain rfl : w4 = w5 := hw5.symm)))
  clear F1 HG HB3 QI0
  have PU0 := Push_ok (bl := []) 0 none 0 HG4.out.rb (Kd.R_reads' (Kd.R_nil k143 143 w4 0 (fun _ => True))).2.2 (by decide) (fun w1 hb => over_at HG4.out.act rfl hb)
  have PU := Aside0.mk (show Calls Try.prog 63 #[.pointer (some ⟨gr, 0, none⟩), .int .i64 0, .slice none 0 0] w4 _ from PU0)
  clear PU0
  go_upto_region 7 with (first | (go_at_call 63; ((refine PU.out.mono ?_); rintro e w6 ⟨nb, vb, rfl, hge, hrg, hk, hb⟩; have HG6 := Aside0.mk hrg; have HB6 := Aside0.mk (HB4.out.trans hb); clear hge hrg hk hb)))
  have F2 := Aside0.mk (pushFull HG6.out (HQ4.out.setAi _) (by decide) (by decide) (by decide) (by decide) (by have := HL4.out; rw [this]; decide))
  clear PU HG4
  go_upto_region 8 with (first | (go_at_call 58; ((refine F2.out.mono ?_); rintro e w7 ⟨rfl, v7, ⟨own7, hg7, hs7, hk7, hb7⟩, -, -⟩; have HG7 := Aside0.mk hg7; have HB7 := Aside0.mk (HB6.out.trans hb7); clear hg7 hs7 hk7 hb7)) | (go_at_call 60; ((refine (Ok_C HG7.out.act).mono ?_); rintro e w5 ⟨rfl, hw5⟩; obtain rfl : w7 = w5 := hw5.symm)))
  have QI7 := Aside0.mk ((HQ4.out.setAi (.pointer (some ⟨nb, 0, none⟩))).note 0 0 2 true)
  have ML7 := Aside0.mk (show (M4.note 0 0 2 true).log.length = 4 by have h1 := HL4.out; show (M4.log ++ _).length = 4; rw [List.length_append, h1]; rfl)
  obtain ⟨M7, hM7⟩ : ∃ M7, M4.note 0 0 2 true = M7 := ⟨_, rfl⟩
  rw [hM7] at HG7 QI7 ML7
  have HBA := Aside0.mk (show ActAt w7 gr nb _ ∧ ¬ own7 nb ∧ gr ≠ nb ∧ nb < w7.heap.size from ⟨HG7.out.act, HG7.out.a1, HG7.out.ne, blk_lt HG7.out.act⟩)
  have PO := Aside0.mk (Pop_ok 1 HG7.out.rb (fun w1 _ => Over_nil w1))
  clear F2 HG6 HB6 HQ4 HL4
  go_upto_region 9 with (first | (go_at_call 56; ((refine PO.out.mono ?_); rintro e w8 ⟨nc, rfl, hge, hrg, hk, hb⟩; have HG8 := Aside0.mk hrg; have HB8 := Aside0.mk (HB7.out.trans hb); have HBC := Aside0.mk (show ActAt w8 gr nb _ ∧ nb ≠ nc from ⟨HBA.out.1.kept hk (fun e => HBA.out.2.2.1 e.symm), by have := HBA.out.2.2.2; omega⟩); clear hge hrg hk hb)))
  have F3 := Aside0.mk (popOne (b := [e5]) (q := []) (a := 0) HG8.out (QI7.out.setAo _) (by decide) (by decide) (by decide) (by rw [ML7.out]; decide))
  clear PO HG7 HB7
  go_wp2_with (first | (go_at_call 58; ((refine F3.out.mono ?_); rintro e w9 ⟨rfl, v9, M9, ⟨⟨own9, hg9, hs9, hk9, hb9⟩, -, -⟩, hqi, hlg⟩; have HGc := Aside0.mk hg9; have HBb := Aside0.mk (HBC.out.1.kept hk9 (fun hS => hS.elim HBA.out.2.1 (fun e => e.elim (fun e => HBA.out.2.2.1 e.symm) HBC.out.2))); have HBl := Aside0.mk (HB8.out.trans hb9); have g3 : M7.log.length < M9.log.length := (by have := ML7.out; omega); have g4 : 0 < M7.log.length := (by have := ML7.out; omega); clear hg9 hs9 hk9 hb9 hqi hlg)) | (go_at_call 60; ((refine (Ok_C HGc.out.act).mono ?_); rintro e w5 ⟨rfl, hw5⟩; obtain rfl := hw5)) | (go_at_call 61; ((refine (Batch_C HGc.out (by decide)).mono ?_); rintro e w10 ⟨v10, rfl, hr, hb⟩; have hr2 : Kd.R k143 143 w10 _ (fun _ => True) v10 [e5] := hr; obtain ⟨Ax, nx, cx, rfl⟩ := R_any hr2; obtain ⟨ex, -, hCx⟩ := Kd.R_reads' hr2; obtain rfl : nx = 1 := ex; obtain ⟨adx, rfl, hq0, hq1, hq2⟩ := at_T143 hCx 0 (by decide) (by decide); have hz : adx.add (Int.toNat 0 * 3) = adx := (by simp [Addr.add]); rw [hz] at hq1; replace hq1 : w10.cell? ⟨adx.block, adx.off + 1, none⟩ = some (.int .u64 5) := hq1; have HG1 := Aside0.mk (HGc.out.below hb); have HB1 := Aside0.mk (HBb.out.below hb); have HBl1 := Aside0.mk (below_then HBl.out (HBl.out.size) hb); clear HGc HBb HBl hr hr2 hCx hb hq0 hq2 hz; have HGc := HG1; have HBb := HB1; have HBl := HBl1; clear HG1 HB1 HBl1)) | (go_at_call 62; ((refine (Mark_C HGc.out.act).mono ?_); rintro e w5 ⟨rfl, hw5⟩; obtain rfl := hw5)) | (go_at_call 62; ((refine (Mark_C HBb.out).mono ?_); rintro e w5 ⟨rfl, hw5⟩; obtain rfl := hw5)))
  go_ret
  first | exact ⟨rfl, HBl.out⟩ | (refine ⟨?_, HBl.out⟩; simp [ML7.out])
open Go.Proofs.Ytlcnckbmolefpaa.CK Go.RowKit
theorem gl_old {L : List S128} {e : S128} : ∀ k, k < L.length → gl L k = gl (L ++ [e]) k := fun k hk => by
  unfold gl
  rw [List.getD_eq_getElem?_getD, List.getD_eq_getElem?_getD, List.getElem?_append_left hk]
theorem gl_new {L : List S128} {e : S128} : gl (L ++ [e]) L.length = ev e := by
  unfold gl
  rw [List.getD_eq_getElem?_getD]
  simp
section
variable {L : List S128} {e : S128} {m P Q : Nat}
theorem wn_old (w : Int) : wn (gl (L ++ [e])) w L.length = wn (gl L) w L.length := (wn_congr L.length (fun k hk => gl_old k hk)).symm
theorem wn_no (w : Int) (h : ¬ (e.f1 = 1 ∧ e.f2 = w)) : wn (gl (L ++ [e])) w (L ++ [e]).length = wn (gl L) w L.length := by
  rw [List.length_append, List.length_cons, List.length_nil]
  rw [wn_not (by rw [gl_new]; exact h), wn_old]
theorem wn_up (w : Int) (h : e.f1 = 1 ∧ e.f2 = w) : wn (gl (L ++ [e])) w (L ++ [e]).length = wn (gl L) w L.length + 1 := by
  rw [List.length_append, List.length_cons, List.length_nil]
  rw [wn_yes (by rw [gl_new]; exact h), wn_old]
theorem lg_old (l : LG (gl L) m L.length P Q) : LG (gl (L ++ [e])) m L.length P Q := l.congr (fun k hk => gl_old k hk)
theorem lg_look1 (l : LG (gl L) m L.length P Q) (h1 : e.f0 = 1) (h2 : e.f1 = 0) (h3 : e.f2 = 1) : LG (gl (L ++ [e])) m (L ++ [e]).length (wn (gl L) 1 L.length) Q := by
  have := (lg_old (e := e) l).look1 (by rw [gl_new]; exact h1) (by rw [gl_new]; exact h2) (by rw [gl_new]; exact h3)
  rw [wn_old] at this
  rw [List.length_append]; exact this
theorem lg_look2 (l : LG (gl L) m L.length P Q) (h1 : e.f0 = 0) (h2 : e.f1 = 0) (h3 : e.f2 = 2) : LG (gl (L ++ [e])) m (L ++ [e]).length P (wn (gl L) 2 L.length) := by
  have := (lg_old (e := e) l).look2 (by rw [gl_new]; exact h1) (by rw [gl_new]; exact h2) (by rw [gl_new]; exact h3)
  rw [wn_old] at this
  rw [List.length_append]; exact this
theorem lg_lay (l : LG (gl L) m L.length P Q) (hm : 0 < m) (h1 : e.f0 = 0) (h2 : e.f1 = 3) (h3 : e.f2 = ((1 + wn (gl L) 1 L.length % m : Nat) : Int)) (hr : wn (gl L) 1 L.length < Q + m) : LG (gl (L ++ [e])) m (L ++ [e]).length P Q := by
  have := (lg_old (e := e) l).lay hm (by rw [gl_new]; exact h1) (by rw [gl_new]; exact h2) (by rw [gl_new, wn_old]; exact h3) (by rw [wn_old]; exact hr)
  rw [List.length_append]; exact this
theorem lg_fetch (l : LG (gl L) m L.length P Q) (hm : 0 < m) (h1 : e.f0 = 1) (h2 : e.f1 = 2) (h3 : e.f2 = ((1 + wn (gl L) 2 L.length % m : Nat) : Int)) (hr : wn (gl L) 2 L.length < P) : LG (gl (L ++ [e])) m (L ++ [e]).length P Q := by
  have := (lg_old (e := e) l).fetch hm (by rw [gl_new]; exact h1) (by rw [gl_new]; exact h2) (by rw [gl_new, wn_old]; exact h3) (by rw [wn_old]; exact hr)
  rw [List.length_append]; exact this
theorem lg_tell1 (l : LG (gl L) m L.length P Q) (h1 : e.f0 = 0) (h2 : e.f1 = 1) (h3 : e.f2 = 1) : LG (gl (L ++ [e])) m (L ++ [e]).length P Q := by
  have h2' : (gl (L ++ [e]) L.length).kind = 1 := by rw [gl_new]; exact h2
  have := (lg_old (e := e) l).word (.inr (.inr (.inl ⟨by rw [gl_new]; exact h1, h2', by rw [gl_new]; exact h3⟩))) ⟨by omega, by omega⟩
  rw [List.length_append]; exact this
theorem lg_tell2 (l : LG (gl L) m L.length P Q) (h1 : e.f0 = 1) (h2 : e.f1 = 1) (h3 : e.f2 = 2) : LG (gl (L ++ [e])) m (L ++ [e]).length P Q := by
  have h2' : (gl (L ++ [e]) L.length).kind = 1 := by rw [gl_new]; exact h2
  have := (lg_old (e := e) l).word (.inr (.inr (.inr (.inr (.inr ⟨by rw [gl_new]; exact h1, h2', by rw [gl_new]; exact h3⟩))))) ⟨by omega, by omega⟩
  rw [List.length_append]; exact this
end
abbrev Stage := Option (Nat × List S143)
structure TI (M : MS) (R : RC) (n a P Q : Nat) (q : List (List S143)) (s0 s1 : Stage) : Prop where
  qi : QI M R n a q
  lg : LG (gl M.log) n M.log.length P Q
  e1 : wn (gl M.log) 1 M.log.length = a + q.length
  e2 : wn (gl M.log) 2 M.log.length = a
  c0 : ∀ f bl, s0 = some (f, bl) → (f = 95 ∨ (f = 114 ∧ q.length < n ∧ a + q.length < Q + n) ∨ (f = 123 ∧ q.length < n ∧ rdB M.boxes ((1 + (a + q.length) % n : Nat) : Int) = bl)) ∧ bl.length ≤ 12
  c1 : ∀ f bl, s1 = some (f, bl) → f = 94 ∨ (f = 113 ∧ q ≠ [] ∧ a < P) ∨ (f = 123 ∧ q.head? = some bl)
section
variable {M : MS} {R : RC} {n a P Q : Nat} {q : List (List S143)} {s0 s1 : Stage} {bl : List S143}
theorem TI.start (n gm : Nat) (h : QI (RingM n) (RC.start gm (n : Int)) n 0 []) : TI (RingM n) (RC.start gm (n : Int)) n 0 0 0 [] none none :=
  ⟨h, LG.zero _ _, rfl, rfl, fun f bl e => (by cases e), fun f bl e => (by cases e)⟩
theorem TI.begin0 (h : TI M R n a P Q q none s1) (hb : bl.length ≤ 12) : TI M R n a P Q q (some (95, bl)) s1 := ⟨h.qi, h.lg, h.e1, h.e2, fun f b e => by injection e with e; injection e with e1 e2; subst e1 e2; exact ⟨.inl rfl, hb⟩, h.c1⟩
theorem TI.begin1 (h : TI M R n a P Q q s0 none) : TI M R n a P Q q s0 (some (94, bl)) := ⟨h.qi, h.lg, h.e1, h.e2, h.c0, fun f b e => by injection e with e; injection e with e1 e2; exact .inl e1.symm⟩
theorem TI.setAi (h : TI M R n a P Q q s0 s1) (v : Value) : TI M { R with ai := v } n a P Q q s0 s1 := ⟨⟨h.qi.wl, h.qi.w1, h.qi.w2, h.qi.bl, h.qi.bx, h.qi.sz, h.qi.wi, h.qi.wo, h.qi.bd, h.qi.co, h.qi.ci, h.qi.le, h.qi.hn, h.qi.it, h.qi.sm⟩, h.lg, h.e1, h.e2, h.c0, h.c1⟩
theorem TI.setAo (h : TI M R n a P Q q s0 s1) (v : Value) : TI M { R with ao := v } n a P Q q s0 s1 := ⟨⟨h.qi.wl, h.qi.w1, h.qi.w2, h.qi.bl, h.qi.bx, h.qi.sz, h.qi.wi, h.qi.wo, h.qi.bd, h.qi.co, h.qi.ci, h.qi.le, h.qi.hn, h.qi.it, h.qi.sm⟩, h.lg, h.e1, h.e2, h.c0, h.c1⟩
theorem TI.full (h : TI M R n a P Q q s0 s1) : TI (M.note 0 0 2 true) R n a P a q none s1 := by
  have hl : LG (gl (M.log ++ [(⟨0, 0, 2, true⟩ : S128)])) n (M.log ++ [(⟨0, 0, 2, true⟩ : S128)]).length P (wn (gl M.log) 2 M.log.length) := lg_look2 h.lg rfl rfl rfl
  rw [h.e2] at hl
  exact ⟨h.qi.note 0 0 2 true, hl, (wn_no 1 (by show ¬ ((0 : Int) = 1 ∧ _); omega)).trans h.e1, (wn_no 2 (by show ¬ ((0 : Int) = 1 ∧ _); omega)).trans h.e2, fun f bl e => (by cases e), h.c1⟩
theorem TI.room (h : TI M R n a P Q q (some (95, bl)) s1) (hq : q.length < n) : TI (M.note 0 0 2 true) R n a P a q (some (114, bl)) s1 :=
  ⟨h.full.qi, h.full.lg, h.full.e1, h.full.e2, fun f b e => by injection e with e; injection e with e1 e2; subst e1 e2; exact ⟨.inr (.inl ⟨rfl, hq, by omega⟩), (h.c0 _ _ rfl).2⟩, h.full.c1⟩
theorem TI.empty (h : TI M R n a P Q q s0 s1) : TI (M.note 1 0 1 true) R n a (a + q.length) Q q s0 none := by
  have hl : LG (gl (M.log ++ [(⟨1, 0, 1, true⟩ : S128)])) n (M.log ++ [(⟨1, 0, 1, true⟩ : S128)]).length (wn (gl M.log) 1 M.log.length) Q := lg_look1 h.lg rfl rfl rfl
  rw [h.e1] at hl
  exact ⟨h.qi.note 1 0 1 true, hl, (wn_no 1 (by show ¬ ((0 : Int) = 1 ∧ _); omega)).trans h.e1, (wn_no 2 (by show ¬ ((0 : Int) = 1 ∧ _); omega)).trans h.e2, h.c0, fun f bl e => (by cases e)⟩
theorem TI.some_ (h : TI M R n a P Q q s0 (some (94, bl))) (hq : q ≠ []) {bl' : List S143} : TI (M.note 1 0 1 true) R n a (a + q.length) Q q s0 (some (113, bl')) :=
  ⟨h.empty.qi, h.empty.lg, h.empty.e1, h.empty.e2, h.empty.c0, fun f b e => by injection e with e; injection e with e1 e2; exact .inr (.inl ⟨e1.symm, hq, by have := List.length_pos_iff.2 hq; omega⟩)⟩
theorem TI.lay (h : TI M R n a P Q q (some (114, bl)) s1) : TI (M.set_ 0 (R.place R.ci) bl) R n a P Q q (some (123, bl)) s1 ∧ (M.set_ 0 (R.place R.ci) bl).log.length = M.log.length + 1 := by
  obtain ⟨hc, hb⟩ := h.c0 _ _ rfl
  have hc : q.length < n ∧ a + q.length < Q + n := by rcases hc with hc | hc | hc <;> first | (exact absurd hc (by omega)) | exact hc.2 | (exact absurd hc.1 (by omega))
  have hp := h.qi.place_in
  have hn := h.qi.npos
  have hm := Nat.mod_lt (a + q.length) hn
  have hf : M.fits 0 (R.place R.ci) (M.boxes.length : Int) = true := h.qi.fits (Int.le_refl 0) (by rw [hp]; omega) (by rw [hp, h.qi.bl]; omega)
  have e2 : M.set_ 0 (R.place R.ci) bl = { M.note 0 3 (R.place R.ci) true with boxes := M.boxes.set (1 + (a + q.length) % n) bl } := by
    unfold MS.set_; rw [if_pos hf, hp, Int.toNat_natCast]
  rw [e2]
  have hl : LG (gl (M.log ++ [(⟨0, 3, R.place R.ci, true⟩ : S128)])) n (M.log ++ [(⟨0, 3, R.place R.ci, true⟩ : S128)]).length P Q := lg_lay h.lg hn rfl rfl (by rw [h.e1]; exact hp) (by rw [h.e1]; exact hc.2)
  refine ⟨⟨⟨h.qi.wl, h.qi.w1, h.qi.w2, by simpa using h.qi.bl, h.qi.bx, h.qi.sz, h.qi.wi, h.qi.wo, h.qi.bd, h.qi.co, h.qi.ci, h.qi.le, h.qi.hn, fun j hj => ?_, fun c hc2 => ?_⟩, hl, (wn_no 1 (by show ¬ ((3 : Int) = 1 ∧ _); omega)).trans h.e1, (wn_no 2 (by show ¬ ((3 : Int) = 1 ∧ _); omega)).trans h.e2, fun f b e => ?_, h.c1⟩, by simp [MS.note]⟩
  · show rdB (M.boxes.set _ _) _ = _
    rw [rdB_set (by rw [h.qi.bl]; omega), if_neg (by have := mod_ne h.qi.hn (a := a) hj hc.1; omega)]
    exact h.qi.it j hj
  · have hc2 : c ∈ M.boxes.set (1 + (a + q.length) % n) bl := hc2
    exact (List.mem_or_eq_of_mem_set hc2).elim (h.qi.sm c) (fun e => e ▸ hb)
  · injection e with e
    injection e with e1 e3
    subst e1 e3
    refine ⟨.inr (.inr ⟨rfl, hc.1, ?_⟩), hb⟩
    show rdB (M.boxes.set _ _) _ = _
    rw [rdB_set (by rw [h.qi.bl]; omega), if_pos rfl]
theorem TI.tell0 (h : TI M R n a P Q q (some (123, bl)) s1) (hl : a + q.length ≤ 100000) : ∃ M3, M.store 0 R.wi (IntKind.u64.wrap (R.ci + 1)) = M3 ∧ TI M3 { R with ci := IntKind.u64.wrap (R.ci + 1) } n a P Q (q ++ [bl]) none s1 ∧ M3.log.length = M.log.length + 1 := by
  obtain ⟨hc, hb⟩ := h.c0 _ _ rfl
  have hc : q.length < n ∧ rdB M.boxes ((1 + (a + q.length) % n : Nat) : Int) = bl := by rcases hc with hc | hc | hc <;> first | (exact absurd hc (by omega)) | (exact absurd hc.1 (by omega)) | exact hc.2
  have hw : IntKind.u64.wrap (R.ci + 1) = R.ci + 1 := by rw [h.qi.ci, IntKind.wrap_u64]; omega
  have hf : M.fits 0 R.wi (M.words.length : Int) = true := h.qi.fits (Int.le_refl 0) (by rw [h.qi.wi]; decide) (by rw [h.qi.wi, h.qi.wl]; decide)
  have e3 : M.store 0 R.wi (IntKind.u64.wrap (R.ci + 1)) = { M.note 0 1 1 true with words := M.words.set 1 (R.ci + 1) } := by
    unfold MS.store; rw [if_pos hf, h.qi.wi, hw]; rfl
  refine ⟨_, e3, ?_, by simp [MS.note]⟩
  rw [hw]
  have hlg : LG (gl (M.log ++ [(⟨0, 1, 1, true⟩ : S128)])) n (M.log ++ [(⟨0, 1, 1, true⟩ : S128)]).length P Q := lg_tell1 h.lg rfl rfl rfl
  refine ⟨⟨by simpa using h.qi.wl, ?_, ?_, h.qi.bl, h.qi.bx, h.qi.sz, h.qi.wi, h.qi.wo, h.qi.bd, h.qi.co, ?_, by simp; omega, h.qi.hn, fun j hj => ?_, h.qi.sm⟩, hlg, ?_, (wn_no 2 (by show ¬ ((1 : Int) = 1 ∧ (1 : Int) = 2); omega)).trans h.e2, fun f b e => (by cases e), fun f b e => ?_⟩
  · have := rd_setq (ws := M.words) (i := 1) (j := 1) (x := R.ci + 1) (by rw [h.qi.wl]; decide)
    simpa using this
  · have := rd_setq (ws := M.words) (i := 1) (j := 2) (x := R.ci + 1) (by rw [h.qi.wl]; decide)
    rw [if_neg (by decide)] at this
    exact this.trans h.qi.w2
  · show R.ci + 1 = _
    rw [h.qi.ci]; simp; omega
  · show rdB M.boxes _ = _
    by_cases hjq : j < q.length
    · rw [List.getElem_append_left hjq]; exact h.qi.it j hjq
    · have ej : j = q.length := by simp at hj; omega
      subst ej
      rw [hc.2]; simp
  · refine (wn_up 1 ⟨rfl, rfl⟩).trans ?_
    rw [h.e1]; simp; omega
  · rcases h.c1 f b e with g | g | g
    · exact .inl g
    · exact .inr (.inl ⟨g.1, by simp, g.2.2⟩)
    · refine .inr (.inr ⟨g.1, ?_⟩)
      have := g.2
      cases q with
      | nil => cases this
      | cons x q => exact this
theorem TI.fetch {b : List S143} {q' : List (List S143)} (h : TI M R n a P Q (b :: q') s0 (some (113, bl))) : M.get 1 (R.place R.co) = b ∧ TI (M.getTo 1 (R.place R.co)) R n a P Q (b :: q') s0 (some (123, b)) ∧ (M.getTo 1 (R.place R.co)).log.length = M.log.length + 1 := by
  have hc : a < P := by rcases h.c1 _ _ rfl with hc | hc | hc <;> first | (exact absurd hc (by omega)) | exact hc.2.2 | (exact absurd hc.1 (by omega))
  have hp := h.qi.place_out
  have hn := h.qi.npos
  have hm := Nat.mod_lt a hn
  have hf : M.fits 1 (R.place R.co) (M.boxes.length : Int) = true := h.qi.fits (by decide) (by rw [hp]; omega) (by rw [hp, h.qi.bl]; omega)
  have e2 : M.getTo 1 (R.place R.co) = M.note 1 2 (R.place R.co) true := by unfold MS.getTo; rw [if_pos hf]
  have eb : M.get 1 (R.place R.co) = b := by
    unfold MS.get; rw [if_pos hf, hp]
    have := h.qi.it 0 (by simp)
    simpa using this
  rw [e2]
  have hl : LG (gl (M.log ++ [(⟨1, 2, R.place R.co, true⟩ : S128)])) n (M.log ++ [(⟨1, 2, R.place R.co, true⟩ : S128)]).length P Q := lg_fetch h.lg hn rfl rfl (by rw [h.e2]; exact hp) (by rw [h.e2]; exact hc)
  exact ⟨eb, ⟨h.qi.note 1 2 (R.place R.co) true, hl, (wn_no 1 (by show ¬ ((2 : Int) = 1 ∧ _); omega)).trans h.e1, (wn_no 2 (by show ¬ ((2 : Int) = 1 ∧ _); omega)).trans h.e2, h.c0, fun f c e => by injection e with e; injection e with e1 e3; exact .inr (.inr ⟨e1.symm, by rw [e3]; rfl⟩)⟩, by simp [MS.note]⟩
theorem TI.tell1 {b : List S143} {q' : List (List S143)} (h : TI M R n a P Q (b :: q') s0 (some (123, bl))) (hl : a + q'.length + 1 ≤ 100000) : bl = b ∧ ∃ M3, M.store 1 R.wo (IntKind.u64.wrap (R.co + 1)) = M3 ∧ TI M3 { R with co := IntKind.u64.wrap (R.co + 1) } n (a + 1) P Q q' s0 none ∧ M3.log.length = M.log.length + 1 := by
  have hbl : bl = b := by rcases h.c1 _ _ rfl with hc | hc | hc <;> first | (exact absurd hc (by omega)) | (exact absurd hc.1 (by omega)) | exact (Option.some.inj hc.2).symm
  have hw : IntKind.u64.wrap (R.co + 1) = R.co + 1 := by rw [h.qi.co, IntKind.wrap_u64]; omega
  have hf : M.fits 1 R.wo (M.words.length : Int) = true := h.qi.fits (by decide) (by rw [h.qi.wo]; decide) (by rw [h.qi.wo, h.qi.wl]; decide)
  have e3 : M.store 1 R.wo (IntKind.u64.wrap (R.co + 1)) = { M.note 1 1 2 true with words := M.words.set 2 (R.co + 1) } := by
    unfold MS.store; rw [if_pos hf, h.qi.wo, hw]; rfl
  refine ⟨hbl, _, e3, ?_, by simp [MS.note]⟩
  rw [hw]
  have hlg : LG (gl (M.log ++ [(⟨1, 1, 2, true⟩ : S128)])) n (M.log ++ [(⟨1, 1, 2, true⟩ : S128)]).length P Q := lg_tell2 h.lg rfl rfl rfl
  have hle := h.qi.le
  simp only [List.length_cons] at hle
  refine ⟨⟨by simpa using h.qi.wl, ?_, ?_, h.qi.bl, h.qi.bx, h.qi.sz, h.qi.wi, h.qi.wo, h.qi.bd, ?_, ?_, by omega, h.qi.hn, fun j hj => ?_, h.qi.sm⟩, hlg, ?_, ?_, fun f c e => ?_, fun f c e => (by cases e)⟩
  · have := rd_setq (ws := M.words) (i := 2) (j := 1) (x := R.co + 1) (by rw [h.qi.wl]; decide)
    rw [if_neg (by decide)] at this
    exact this.trans h.qi.w1
  · have := rd_setq (ws := M.words) (i := 2) (j := 2) (x := R.co + 1) (by rw [h.qi.wl]; decide)
    simpa using this
  · show R.co + 1 = _
    rw [h.qi.co]; simp
  · show R.ci = _
    rw [h.qi.ci]; simp; omega
  · have := h.qi.it (j + 1) (by simp; omega)
    have e : a + (j + 1) = a + 1 + j := by omega
    rw [e] at this
    exact this
  · refine (wn_no 1 (by show ¬ ((1 : Int) = 1 ∧ (2 : Int) = 1); omega)).trans ?_
    rw [h.e1]; simp; omega
  · refine (wn_up 2 ⟨rfl, rfl⟩).trans ?_
    rw [h.e2]
  · obtain ⟨g, gb⟩ := h.c0 f c e
    refine ⟨?_, gb⟩
    have e9 : a + (b :: q').length = a + 1 + q'.length := by simp; omega
    rcases g with g | g | g
    · exact .inl g
    · have g2 := g.2.1; have g3 := g.2.2
      simp only [List.length_cons] at g2 g3
      exact .inr (.inl ⟨g.1, by omega, by omega⟩)
    · have g2 := g.2.1; have g3 := g.2.2
      rw [e9] at g3
      simp only [List.length_cons] at g2
      exact .inr (.inr ⟨g.1, by omega, g3⟩)
theorem TI.race (h : TI M R n a P Q q s0 s1) (hl : M.log.length ≤ 1000000) : clock_Race.f M.log = some (-1, -1) := by
  have hev : evsB M.log = true := by
    unfold evsB
    rw [Bool.and_eq_true, decide_eq_true_eq, List.all_eq_true]
    refine ⟨hl, fun e he => ?_⟩
    obtain ⟨i, hi, rfl⟩ := List.getElem_of_mem he
    have hs := h.lg.shape i hi
    have eg : gl M.log i = ev M.log[i] := by unfold gl; rw [List.getD_eq_getElem?_getD, List.getElem?_eq_getElem hi]; rfl
    have hn := h.qi.hn
    have m1 := Nat.mod_lt (wn (gl M.log) 1 i) h.qi.npos
    have m2 := Nat.mod_lt (wn (gl M.log) 2 i) h.qi.npos
    unfold ringEv at hs
    rw [eg] at hs
    unfold EvB
    simp only [Bool.and_eq_true, decide_eq_true_eq]
    have w0 : (ev M.log[i]).who = M.log[i].f0 := rfl
    have a0 : (ev M.log[i]).at_ = M.log[i].f2 := rfl
    rw [w0, a0] at hs
    omega
  unfold clock_Race.f
  rw [if_pos hev, h.lg.race M.log.length 0 (by omega)]
end
theorem QI.items {M : MS} {R : RC} {n a : Nat} {q : List (List S143)} (h : QI M R n a q) : ∀ b ∈ q, b.length ≤ 12 := by
  intro b hb
  obtain ⟨j, hj, rfl⟩ := List.getElem_of_mem hb
  rw [← h.it j hj]
  unfold rdB
  rw [List.getD_eq_getElem?_getD]
  cases hc : M.boxes[((1 + (a + j) % n : Nat) : Int).toNat]? with
  | none => simp
  | some c => exact h.sm c (List.mem_of_getElem? hc)
def AC.turned (A : AC) (over ok : Bool) (v : Value) (f : Nat) (mark : Nat) : AC := if over then { A with st := .nilFunc, ok := ok, b := v, mark := (mark : Int) } else { A with st := stg f, b := v }
section
variable {W w w' : World} {B : Nat} {own : Nat → Prop} {gr na n a P Q : Nat} {M : MS} {R : RC} {A : AC} {bl : List S143} {q : List (List S143)} {s0 s1 : Stage} {f : Nat}
def Turn0 (W : World) (B : Nat) (own : Nat → Prop) (gr na n a : Nat) (M : MS) (R : RC) (A : AC) (bl : List S143) (q : List (List S143)) (s1 : Stage) (f : Nat) (e : Ending) (w' : World) : Prop :=
  ∃ over ok v M' R' P' Q' f', e = .returned (.bool over) ∧ RGTo W w' B own gr na M' R' (A.turned over ok v f' M'.log.length) bl ∧ TI M' R' n a P' Q' (if over && ok then q ++ [bl] else q) (if over then none else some (f', bl)) s1 ∧ M'.log.length = M.log.length + 1 ∧ R'.ai = R.ai ∧ R'.ao = R.ao ∧ R'.gm = R.gm ∧ (over = true → ok = decide (q.length < n)) ∧ (over = false → f = 95 ∧ f' = 114 ∨ f = 114 ∧ f' = 123)
theorem turn0_C (h : RG W B own gr na M R A bl) (ht : TI M R n a P Q q (some (f, bl)) s1) (hst : A.st = stg f) (ho : A.out = false) (hw : A.who = 0) (hok : A.ok = false) (hl : a + q.length ≤ 100000) (hlog : M.log.length ≤ 900000) :
    Calls Try.prog 78 #[.pointer (some ⟨na, 0, none⟩)] W (Turn0 W B own gr na n a M R A bl q s1 f) := by
  have hwho : (Lit.int .i64 A.who).wf = true := by rw [hw]; decide
  have hsl : (M.beds A.who).isSome = false := by rw [ht.qi.bd]; rfl
  have hb := (ht.c0 _ _ rfl).2
  rcases (ht.c0 _ _ rfl).1 with rfl | ⟨rfl, hq, hr⟩ | ⟨rfl, hq, hr⟩
  · obtain ⟨l1, l2⟩ := ht.qi.look_in (Int.le_refl 0)
    have hd : decide (R.size ≤ IntKind.u64.wrap (R.ci - M.load A.who R.wo)) = decide (q.length = n) := by rw [hw, l1, ht.qi.full hl]
    by_cases hq : q.length = n
    · rw [decide_eq_true hq] at hd
      refine (Step95e (M' := M.note 0 0 2 true) (R' := R) (bl' := bl) (A' := { A with st := .nilFunc, ok := false }) h hst hsl hwho rfl (fun W1 hg => (room_C true hg ho hwho (by omega) hd).mono ?_)).mono ?_
      · rintro e w' ⟨rfl, h2⟩
        rw [show M.loadTo A.who R.wo = M.note 0 0 2 true by rw [hw]; exact l2] at h2
        exact ⟨rfl, A.b, h2⟩
      · rintro e w' ⟨rfl, v, h2⟩
        exact ⟨true, false, v, _, R, P, a, 0, rfl, h2, ht.full, by simp [MS.note], rfl, rfl, rfl, fun _ => (decide_eq_false (by omega)).symm, fun e => by cases e⟩
    · rw [decide_eq_false hq] at hd
      refine (Step95 (M' := M.note 0 0 2 true) (R' := R) (bl' := bl) (A' := { A with st := stg 114 }) h hst hsl hwho rfl (fun W1 hg => (room_C false hg ho hwho (by omega) hd).mono ?_)).mono ?_
      · rintro e w' ⟨rfl, h2⟩
        rw [show M.loadTo A.who R.wo = M.note 0 0 2 true by rw [hw]; exact l2] at h2
        exact ⟨rfl, A.b, h2⟩
      · rintro e w' ⟨rfl, v, h2⟩
        exact ⟨false, false, v, _, R, P, a, 114, rfl, h2, ht.room (by have := ht.qi.le; omega), by simp [MS.note], rfl, rfl, rfl, fun e => (by cases e), fun _ => .inl ⟨rfl, rfl⟩⟩
  · obtain ⟨t1, t2⟩ := ht.lay
    refine (Step114 (M' := M.set_ 0 (R.place R.ci) bl) (R' := R) (bl' := bl) (A' := { A with st := stg 123 }) h hst hsl hwho rfl (fun W1 hg => (lay_C hg hwho (by omega) (by omega)).mono ?_)).mono ?_
    · rintro e w' ⟨rfl, h2⟩
      have hcn : A.cnt R = R.ci := by unfold AC.cnt; rw [ho]; rfl
      rw [show M.set_ A.who (R.place (A.cnt R)) bl = M.set_ 0 (R.place R.ci) bl by rw [hw, hcn]] at h2
      exact ⟨rfl, A.b, h2⟩
    · rintro e w' ⟨rfl, v, h2⟩
      exact ⟨false, false, v, _, R, P, Q, 123, rfl, h2, t1, t2, rfl, rfl, rfl, fun e => (by cases e), fun _ => .inr ⟨rfl, rfl⟩⟩
  · obtain ⟨M3, e3, t1, t2⟩ := ht.tell0 hl
    refine (Step123e (M' := M3) (R' := { R with ci := IntKind.u64.wrap (R.ci + 1) }) (bl' := bl) (A' := { A with st := .nilFunc, ok := true }) h hst hsl hwho rfl (fun W1 hg => (tell_in hg ho hwho (by omega)).mono ?_)).mono ?_
    · rintro e w' ⟨rfl, h2⟩
      rw [show M.store A.who R.wi (IntKind.u64.wrap (R.ci + 1)) = M3 by rw [hw]; exact e3] at h2
      exact ⟨rfl, A.b, h2⟩
    · rintro e w' ⟨rfl, v, h2⟩
      exact ⟨true, true, v, M3, { R with ci := IntKind.u64.wrap (R.ci + 1) }, P, Q, 0, rfl, h2, t1, t2, rfl, rfl, rfl, fun _ => (decide_eq_true hq).symm, fun e => by cases e⟩
def Turn1 (W : World) (B : Nat) (own : Nat → Prop) (gr na n a : Nat) (M : MS) (R : RC) (A : AC) (q : List (List S143)) (s0 : Stage) (f : Nat) (e : Ending) (w' : World) : Prop :=
  ∃ over ok v bl' M' R' P' Q' a' q' f', e = .returned (.bool over) ∧ RGTo W w' B own gr na M' R' (A.turned over ok v f' M'.log.length) bl' ∧ TI M' R' n a' P' Q' q' s0 (if over then none else some (f', bl')) ∧ M'.log.length = M.log.length + 1 ∧ R'.ai = R.ai ∧ R'.ao = R.ao ∧ R'.gm = R.gm ∧ a' + q'.length = a + q.length ∧ (over = true → ok = true → q = bl' :: q') ∧ (over = true → ok = false → q = [] ∧ q' = []) ∧ (over = false → q' = q ∧ (f = 94 ∧ f' = 113 ∨ f = 113 ∧ f' = 123)) ∧ bl'.length ≤ 12
theorem turn1_C (h : RG W B own gr na M R A bl) (ht : TI M R n a P Q q s0 (some (f, bl))) (hst : A.st = stg f) (ho : A.out = true) (hw : A.who = 1) (hok : A.ok = false) (hbl : bl.length ≤ 12) (hl : a + q.length ≤ 100000) (hlog : M.log.length ≤ 900000) :
    Calls Try.prog 78 #[.pointer (some ⟨na, 0, none⟩)] W (Turn1 W B own gr na n a M R A q s0 f) := by
  have hwho : (Lit.int .i64 A.who).wf = true := by rw [hw]; decide
  have hsl : (M.beds A.who).isSome = false := by rw [ht.qi.bd]; rfl
  rcases ht.c1 _ _ rfl with rfl | ⟨rfl, hq, hr⟩ | ⟨rfl, hq⟩
  · obtain ⟨l1, l2⟩ := ht.qi.look_out (show (0 : Int) ≤ 1 by decide)
    have hd : (M.load A.who R.wi == R.co) = decide (q.length = 0) := by rw [hw, l1, ht.qi.emp]
    by_cases hq : q.length = 0
    · rw [decide_eq_true hq] at hd
      have hq0 := List.eq_nil_of_length_eq_zero hq
      refine (Step94e (M' := M.note 1 0 1 true) (R' := R) (bl' := bl) (A' := { A with st := .nilFunc, ok := false }) h hst hsl hwho rfl (fun W1 hg => (some_C true hg ho hwho (by omega) hd).mono ?_)).mono ?_
      · rintro e w' ⟨rfl, h2⟩
        rw [show M.loadTo A.who R.wi = M.note 1 0 1 true by rw [hw]; exact l2] at h2
        exact ⟨rfl, A.b, h2⟩
      · rintro e w' ⟨rfl, v, h2⟩
        exact ⟨true, false, v, bl, _, R, _, Q, a, q, 0, rfl, h2, ht.empty, by simp [MS.note], rfl, rfl, rfl, rfl, fun _ e => (by cases e), fun _ _ => ⟨hq0, hq0⟩, fun e => (by cases e), hbl⟩
    · rw [decide_eq_false hq] at hd
      refine (Step94 (M' := M.note 1 0 1 true) (R' := R) (bl' := bl) (A' := { A with st := stg 113 }) h hst hsl hwho rfl (fun W1 hg => (some_C false hg ho hwho (by omega) hd).mono ?_)).mono ?_
      · rintro e w' ⟨rfl, h2⟩
        rw [show M.loadTo A.who R.wi = M.note 1 0 1 true by rw [hw]; exact l2] at h2
        exact ⟨rfl, A.b, h2⟩
      · rintro e w' ⟨rfl, v, h2⟩
        exact ⟨false, false, v, bl, _, R, _, Q, a, q, 113, rfl, h2, ht.some_ (fun e => hq (by rw [e]; rfl)), by simp [MS.note], rfl, rfl, rfl, rfl, fun e => (by cases e), fun e => (by cases e), fun _ => ⟨rfl, .inl ⟨rfl, rfl⟩⟩, hbl⟩
  · cases q with
    | nil => exact absurd rfl hq
    | cons b q =>
      obtain ⟨eb, t1, t2⟩ := ht.fetch
      refine (Step113 (M' := M.getTo 1 (R.place R.co)) (R' := R) (bl' := b) (A' := { A with st := stg 123 }) h hst hsl hwho rfl (fun W1 hg => (fetch_C hg hwho (by omega) (fun c hc => Nat.le_trans (ht.qi.sm c hc) (by omega))).mono ?_)).mono ?_
      · rintro e w' ⟨rfl, v, h2⟩
        have hcn : A.cnt R = R.co := by unfold AC.cnt; rw [ho]; rfl
        rw [show M.getTo A.who (R.place (A.cnt R)) = M.getTo 1 (R.place R.co) by rw [hw, hcn], show M.get A.who (R.place (A.cnt R)) = b by rw [hw, hcn]; exact eb] at h2
        exact ⟨rfl, v, h2⟩
      · rintro e w' ⟨rfl, v, h2⟩
        exact ⟨false, false, v, b, _, R, P, Q, a, b :: q, 123, rfl, h2, t1, t2, rfl, rfl, rfl, rfl, fun e => (by cases e), fun e => (by cases e), fun _ => ⟨rfl, .inr ⟨rfl, rfl⟩⟩, ht.qi.items b (List.mem_cons_self ..)⟩
  · cases q with
    | nil => cases hq
    | cons b q =>
      obtain ⟨eb, M3, e3, t1, t2⟩ := ht.tell1 (by simp only [List.length_cons] at hl; omega)
      refine (Step123e (M' := M3) (R' := { R with co := IntKind.u64.wrap (R.co + 1) }) (bl' := bl) (A' := { A with st := .nilFunc, ok := true }) h hst hsl hwho rfl (fun W1 hg => (tell_out hg ho hwho (by omega)).mono ?_)).mono ?_
      · rintro e w' ⟨rfl, h2⟩
        rw [show M.store A.who R.wo (IntKind.u64.wrap (R.co + 1)) = M3 by rw [hw]; exact e3] at h2
        exact ⟨rfl, A.b, h2⟩
      · rintro e w' ⟨rfl, v, h2⟩
        exact ⟨true, true, v, bl, M3, { R with co := IntKind.u64.wrap (R.co + 1) }, P, Q, a + 1, q, 0, rfl, h2, t1, t2, rfl, rfl, rfl, by simp only [List.length_cons]; omega, fun _ _ => (by rw [eb]), fun _ e => (by cases e), fun e => (by cases e), hbl⟩
end
open Go.RowKit Go.Proofs.YtlcnckbmolefpaaW.PrintWords Go.Proofs.YtlcnckbmolefpaaW.PrintLast Go.Proofs.YtlcnckbmolefpaaW.PrintMore
attribute [local go_sem] max2_int min2_int max_two min_two max_three min_three max_four min_four   -- for this text's walks alone
/-! ### marchlandref11_Size: function 53 -/
def marchlandref11_Size.f (a0 : Int) : Option (Int) := (some (([1, 2, 4, 8, 1, 2, 4, 16] : List Int) : List Int)).bind fun y319 => (if 0 ≤ (wrap64 (Int.tmod (IntKind.u64.wrap (a0)) 8)) then (if (wrap64 (Int.tmod (IntKind.u64.wrap (a0)) 8)) < (y319.length : Int) then (some (rd y319 (wrap64 (Int.tmod (IntKind.u64.wrap (a0)) 8)))) else (none)) else (none))
set_option maxHeartbeats 8000000 in
set_option maxRecDepth 100000 in
theorem marchlandref11_Size.calls (a0 : Int) (r : Int) (w : World) (h : marchlandref11_Size.f a0 = some r) :
    Calls Try.prog 53 #[.int .i64 a0] w fun e w' => e = .returned (.int .i64 r) ∧ Below w.heap.size w w' := by
  have HB := Aside0.mk (Below.refl w.heap.size w)
  have H : ((some (([1, 2, 4, 8, 1, 2, 4, 16] : List Int) : List Int)).bind fun y319 => (if 0 ≤ (wrap64 (Int.tmod (IntKind.u64.wrap (a0)) 8)) then (if (wrap64 (Int.tmod (IntKind.u64.wrap (a0)) 8)) < (y319.length : Int) then (some (rd y319 (wrap64 (Int.tmod (IntKind.u64.wrap (a0)) 8)))) else (none)) else (none))) = some r := h
  clear h
  obtain ⟨y319, hy319⟩ : ∃ y_ : List Int, y_ = (([1, 2, 4, 8, 1, 2, 4, 16] : List Int)) := ⟨_, rfl⟩
  replace H : (if 0 ≤ (wrap64 (Int.tmod (IntKind.u64.wrap (a0)) 8)) then (if (wrap64 (Int.tmod (IntKind.u64.wrap (a0)) 8)) < (y319.length : Int) then (some (rd y319 (wrap64 (Int.tmod (IntKind.u64.wrap (a0)) 8)))) else (none)) else (none)) = some r := by first | (rw [hy319]; with_reducible exact H) | (have H2_ := (Option.bind_some _ _).symm.trans H; rw [hy319]; with_reducible exact H2_) | (have H2_ := (Option.bind_some _ _).symm.trans H; with_reducible exact H2_) | with_reducible exact H | (rw [hy319]; exact H) | exact H
  have Ny319 := Aside0.mk hy319
  clear hy319
  obtain ⟨ji2, hji2⟩ : ∃ j_ : Int, (wrap64 (Int.tmod (IntKind.u64.wrap (a0)) 8)) = j_ := ⟨_, rfl⟩
  replace H : (if 0 ≤ (ji2) then (if (ji2) < (y319.length : Int) then (some (rd y319 (ji2))) else (none)) else (none)) = some r := by first | (rw [hji2] at H; exact H) | (simp only [hji2] at H ⊢; exact H)
  have hji2w : (IntKind.i64.wrap (Int.tmod (IntKind.u64.wrap (a0)) 8)) = ji2 := (i64_w _).trans hji2
  by_cases c3 : 0 ≤ (ji2)
  · rw [if_pos c3] at H
    have c3b0 : decide (0 ≤ (ji2)) = true := decide_eq_true c3
    clear c3
    by_cases c4 : (ji2) < (y319.length : Int)
    · rw [if_pos c4] at H
      have c4b0 : decide ((ji2) < (y319.length : Int)) = true := decide_eq_true c4
      clear c4
      obtain rfl := Option.some.inj H
      go_enter Try.func53, Try.ntmps53
      go_wp2_with (first | ((with_reducible refine gate_dst (N := 3) rfl ?_); refine Kd.R_lit (Kd.int .i64) _ 3 ?hg (N := 3) ?hd (xs := ([1, 2, 4, 8, 1, 2, 4, 16] : List Int)) (inner := [.int .i64 1, .int .i64 2, .int .i64 4, .int .i64 8, .int .i64 1, .int .i64 2, .int .i64 4, .int .i64 16]) (ok := fun _ => True) (okp := fun _ => True) ?hr ?hp (fun _ hk => hk) trivial (Below.refl _ _) (Nat.le_refl _) (by simp) ?_; (case hd => rfl); (case hg => rfl); (case hr => first | (go_simp; done) | (go_simp; rfl)); (case hp => exact (Reps.one (show Kd.M (Kd.int .i64) _ _ _ 1 [.int .i64 1] from rfl) (Reps.one (show Kd.M (Kd.int .i64) _ _ _ 2 [.int .i64 2] from rfl) (Reps.one (show Kd.M (Kd.int .i64) _ _ _ 4 [.int .i64 4] from rfl) (Reps.one (show Kd.M (Kd.int .i64) _ _ _ 8 [.int .i64 8] from rfl) (Reps.one (show Kd.M (Kd.int .i64) _ _ _ 1 [.int .i64 1] from rfl) (Reps.one (show Kd.M (Kd.int .i64) _ _ _ 2 [.int .i64 2] from rfl) (Reps.one (show Kd.M (Kd.int .i64) _ _ _ 4 [.int .i64 4] from rfl) (Reps.one (show Kd.M (Kd.int .i64) _ _ _ 16 [.int .i64 16] from rfl) (Reps.none _ _)))))))))); intro v320 w5 ho6 hb hg_ hnew_; clear hg_ hnew_; (first | rw [← Ny319.out] at ho6 | (simp only [Int.reduceToNat] at ho6; rw [← Ny319.out] at ho6)); have n0_ := Aside0.mk (Kd.R_lower ho6 (below_size (by repeat (first | (with_reducible first | exact HB.out | apply below_alloc | apply pw_below_drewN | apply below_drew1) | exact HB.out)))); have n1_ := Aside0.mk (below_step (by repeat (first | (with_reducible first | exact HB.out | apply below_alloc | apply pw_below_drewN | apply below_drew1) | exact HB.out)) hb); clear HB; have HO321 := n0_; have HB := n1_; clear n0_ n1_; clear hb ho6; obtain ⟨Ao7, co7, eo7⟩ := Kd.R_slice HO321.out; subst eo7; have p322 : 0 ≤ ((ji2) : Int) := of_decide_eq_true (by first | (with_reducible assumption) | assumption); have q322 : (ji2) < (y319.length : Int) := of_decide_eq_true (by first | (with_reducible assumption) | assumption); obtain ⟨ad322, e322, hx322_0⟩ := Kd.at_int (Kd.R_reads' HO321.out).2.2 (ji2) p322 q322; cases e322; replace p322 := eq_true p322; replace q322 := eq_true q322))
      go_ret
      exact ⟨by first | rfl | (simp [errW_none, errW_some] <;> rfl) | (simp only [← hji2]; first | rfl | (simp [errW_none, errW_some] <;> rfl)) | (simp [*, errW_none, errW_some] <;> rfl), by repeat (first | (with_reducible first | exact HB.out | apply below_alloc | apply pw_below_drewN | apply below_drew1) | exact HB.out)⟩
    · rw [if_neg c4] at H
      exact absurd H (by simp)
  · rw [if_neg c3] at H
    exact absurd H (by simp)
set_option maxRecDepth 100000
theorem add_block (ad : Addr) (n : Nat) : (ad.add n).block = ad.block := by unfold Addr.add; split <;> rfl
theorem cell_block {w w' : World} {p : Addr} (h : w'.heap[p.block]? = w.heap[p.block]?) : w'.cell? p = w.cell? p := by
  unfold World.cell?
  simp only [h]
theorem F143 {w : World} {A : Option Addr} {n : Nat} {xs : List S143} (h : Kd.C k143 w A n xs) : Kd.F k143 w (fun k => ∃ ad, A = some ad ∧ k = ad.block ∧ 0 < n) A n xs := by
  intro w' hm
  obtain ⟨h1, h2, h3⟩ := h
  refine ⟨h1, h2, fun hp => ?_⟩
  obtain ⟨ad, rfl, hc⟩ := h3 hp
  refine ⟨ad, rfl, fun j p hj => ?_⟩
  obtain ⟨cs, e1, e2, e3⟩ := hc j p hj
  refine ⟨cs, e1, by obtain rfl := k143_open e2; exact k143_mk _ _, fun i u hu => ?_⟩
  have h4 := e3 i u hu
  have hb : ad.block < w.heap.size := by have := World.block_lt_of_cell? w _ h4; rwa [add_block] at this
  exact (cell_block (w := w) (w' := w') (p := ad.add (j * k143.sz + i)) (by rw [add_block]; exact hm ad.block ⟨ad, rfl, rfl, hp⟩ hb)).trans h4
theorem F143_ne {w : World} {A : Option Addr} {xs : List S143} {gq : Nat} {vL : Value} {s : Int} (hv : ∀ x, vL ≠ .int .u64 x) (hq : w.heap[gq]? = some (.cells #[vL, .int .i64 s] 93 (0, 0))) (h : Kd.C k143 w A xs.length xs) : ∀ ad, A = some ad → 0 < xs.length → ad.block ≠ gq := by
  intro ad hA hp e
  subst hA
  obtain ⟨ad', e1, -, hc, -⟩ := at_T143 h 0 (by decide) (by omega)
  obtain rfl : ad = ad' := Option.some.inj e1
  rw [add_block] at hc
  rw [e] at hc
  generalize (ad.add (Int.toNat 0 * 3)).off + 1 = o at hc
  rw [blk_cell hq] at hc
  rcases o with _ | _ | o
  · injection hc with hc; exact hv _ hc
  · injection hc with hc; injection hc with hc; cases hc
  · simp at hc
section
variable {W w w' : World} {B : Nat} {own own' ownq ownq' : Nat → Prop} {gr gq na n a : Nat} {size : Int} {M M' : MS} {R R' : RC} {A : AC} {bl : List S143} {vL vL' : Value} {hs hs' : List Hd} {q q' : List (List S143)}
theorem RG.keepQ (h : RG w B own gr na M R A bl) (hv : ∀ x, vL ≠ .int .u64 x) (hq : w.heap[gq]? = some (.cells #[vL, .int .i64 size] 93 (0, 0))) (hk : Kept w w' (fun k => k = gq)) (h1 : ¬ own gq) (h2 : gq ≠ gr) (h3 : gq ≠ na) : RG w' B own gr na M R A bl := by
  obtain ⟨Ab, cb, e1, e2, e3⟩ := h.bx
  have hC := Kd.F_now e3
  have hne := F143_ne hv hq hC
  refine ⟨h.mem.kept hk (fun k ho e => h1 (e ▸ ho)), (hk.2 gr (blk_lt h.ring) (fun e => h2 e.symm)).trans h.ring, (hk.2 na (blk_lt h.act) (fun e => h3 e.symm)).trans h.act, h.fit, h.r1, h.a1, h.ne, h.gB, h.aB, Ab, cb, e1, e2, ?_⟩
  refine Kd.F_mono (Kd.F_step (F143 hC) (fun k hk2 hlt => ?_)) (fun k hk2 => ?_)
  · obtain ⟨ad, f1, f2, f3⟩ := hk2
    exact hk.2 k hlt (fun e => hne ad f1 f3 (f2 ▸ e))
  · obtain ⟨ad, f1, f2, f3⟩ := hk2
    have := Kd.F_in e3 f1 f3 (by decide)
    rw [← f2] at this
    exact ⟨this.1, this.2.1, this.2.2.1, Nat.lt_of_lt_of_le this.2.2.2 hk.1⟩
def EndOk (w : World) (own : Nat → Prop) (gr gq : Nat) (v : Value) : Prop := v = .pointer none ∨ ∃ nb A, v = .pointer (some ⟨nb, 0, none⟩) ∧ ActAt w gr nb A ∧ A.st = .nilFunc ∧ ¬ own nb ∧ nb ≠ gr ∧ nb ≠ gq
theorem EndOk.over {v : Value} (h : EndOk w own gr gq v) (hb : Below w.heap.size w w') : Calls Try.prog 57 #[v] w' fun e w2 => e = .returned (.bool true) ∧ w2 = w' := by
  rcases h with rfl | ⟨nb, A, rfl, h1, h2, -⟩
  · exact Over_nil w'
  · exact over_at h1 h2 hb
theorem EndOk.step {v : Value} (h : EndOk w own gr gq v) (hm : ∀ k, k < w.heap.size → ¬ own k → k ≠ gr → k ≠ gq → w'.heap[k]? = w.heap[k]?) (ho : ∀ k, own' k → own k ∨ w.heap.size ≤ k) : EndOk w' own' gr gq v := by
  rcases h with rfl | ⟨nb, A, rfl, h1, h2, h3, h4, h5⟩
  · exact .inl rfl
  · exact .inr ⟨nb, A, rfl, (hm nb (blk_lt h1) h3 h4 h5).trans h1, h2, fun hh => (ho nb hh).elim h3 (fun hl => by have := blk_lt h1; omega), h4, h5⟩
structure RAL (W w : World) (own : Nat → Prop) (gr gq : Nat) (ownq : Nat → Prop) (n a : Nat) (M : MS) (R : RC) (vL : Value) (hs : List Hd) (q : List (List S143)) : Prop where
  rb : RB w W.heap.size own gr M R
  qi : QI M R n a q
  ei : EndOk w own gr gq R.ai
  eo : EndOk w own gr gq R.ao
  qo : QO w W.heap.size ownq gq (n : Int) vL hs q
  dq : ∀ k, ownq k → ¬ own k ∧ k ≠ gr ∧ k < w.heap.size
  bel : Below W.heap.size W w
theorem QO.val (h : QO w B ownq gq size vL hs q) : ∀ x, vL ≠ .int .u64 x := by
  obtain ⟨A, c, e⟩ := Kd.R_slice h.hl
  intro x h2
  rw [e] at h2
  cases h2
theorem RAL.below (h : RAL W w own gr gq ownq n a M R vL hs q) (hb : Below w.heap.size w w') : RAL W w' own gr gq ownq n a M R vL hs q :=
  ⟨h.rb.below hb, h.qi, h.ei.step (fun k hk _ _ _ => hb.block k hk) (fun k => .inl), h.eo.step (fun k hk _ _ _ => hb.block k hk) (fun k => .inl), h.qo.step hb.size (fun k _ hk => hb.block k hk), fun k hk => ⟨(h.dq k hk).1, (h.dq k hk).2.1, Nat.lt_of_lt_of_le (h.dq k hk).2.2 hb.size⟩, below_step h.bel hb⟩
theorem QO.still (h : QO w B ownq gq size vL hs q) (hk : ∀ k, k < w.heap.size → ownq k → w'.heap[k]? = w.heap[k]?) (hsz : w.heap.size ≤ w'.heap.size) : QO w' B ownq gq size vL hs q := h.step hsz (fun k ho hlt => hk k hlt ho)
end
section
variable {W w w' w1 w2 w3 : World} {B : Nat} {own own' own3 ownq ownq' : Nat → Prop} {gr gq na n a a' : Nat} {size : Int} {M M' : MS} {R R' R1 : RC} {A A' : AC} {bl bl' : List S143} {vL vL' : Value} {hs hs' : List Hd} {q q' q0 q0' : List (List S143)}
theorem QO.bound (h : QO w B ownq gq size vL hs q) : QO w B (fun k => ownq k ∧ k < w.heap.size) gq size vL hs q :=
  ⟨h.hq, ⟨h.og, blk_lt h.hq⟩, h.bg, Kd.R_mono (Kd.R_bound h.hl) (fun k hk => ⟨hk.1, hk.2.2.1⟩), h.len, fun j hj => by
    obtain ⟨A, c, e1, e2, e3⟩ := h.it j hj
    exact ⟨A, c, e1, e2, Kd.F_mono e3 (fun k ho => ⟨⟨ho.1, ho.2.2⟩, ho.2⟩)⟩⟩
structure RAM (W w : World) (own : Nat → Prop) (gr gq na : Nat) (ownq : Nat → Prop) (n a : Nat) (M : MS) (R : RC) (A : AC) (bl : List S143) (vL : Value) (hs : List Hd) (q q0 : List (List S143)) : Prop where
  rg : RG w W.heap.size own gr na M R A bl
  qi : QI M R n a q
  ei : EndOk w own gr gq R.ai
  eo : EndOk w own gr gq R.ao
  qo : QO w W.heap.size ownq gq (n : Int) vL hs q0
  dq : ∀ k, ownq k → ¬ own k ∧ k ≠ gr ∧ k < w.heap.size
  bel : Below W.heap.size W w
  nq : na ≠ gq
theorem way (hna : w.heap.size ≤ na) (k1 : Kept w w1 (fun k => k = gr)) (b2 : Below w1.heap.size w1 w2) (k3 : Kept w2 w3 (fun k => own k ∨ k = gr ∨ k = na)) : ∀ k, k < w.heap.size → ¬ own k → k ≠ gr → w3.heap[k]? = w.heap[k]? := by
  intro k hk h1 h2
  have s1 := k1.1
  have s2 := b2.size
  rw [k3.2 k (by omega) (fun hS => hS.elim h1 (fun e => e.elim h2 (fun e => by omega))), b2.block k (by omega), k1.2 k hk h2]
theorem RAM.made (h : RAL W w own gr gq ownq n a M R vL hs q) (hna : w.heap.size ≤ na) (k1 : Kept w w1 (fun k => k = gr)) (b1 : Below W.heap.size w w1) (b2 : Below w1.heap.size w1 w2) (h3 : RGTo w2 w3 W.heap.size own gr na M' R' A' bl') (hst : A'.st = .nilFunc) (hq : QI M' R' n a' q')
    (hai : R'.ai = R.ai ∨ R'.ai = .pointer (some ⟨na, 0, none⟩)) (hao : R'.ao = R.ao ∨ R'.ao = .pointer (some ⟨na, 0, none⟩)) : ∃ own3, RAM W w3 own3 gr gq na ownq n a' M' R' A' bl' vL hs q' q ∧ (∀ k, ownq k → w3.heap[k]? = w.heap[k]?) ∧ w.heap.size ≤ w3.heap.size := by
  obtain ⟨own3, hg, hs3, k3, b3⟩ := h3
  have hw := way hna k1 b2 k3
  have s1 := k1.1
  have s2 := b2.size
  have s3 := k3.1
  have hB := h.rb.mem.size
  have hgq := blk_lt h.qo.hq
  have hown : ∀ k, own3 k → own k ∨ w.heap.size ≤ k := fun k hk => (hs3 k hk).imp id (fun hl => by omega)
  have nw : EndOk w3 own3 gr gq (.pointer (some ⟨na, 0, none⟩)) := .inr ⟨na, A', rfl, hg.act, hst, hg.a1, fun e => hg.ne e.symm, by omega⟩
  have old : ∀ v, EndOk w own gr gq v → EndOk w3 own3 gr gq v := fun v hv => hv.step (fun k hk h1 h2 _ => hw k hk h1 h2) hown
  have hqk : ∀ k, ownq k → w3.heap[k]? = w.heap[k]? := fun k hk => hw k (h.dq k hk).2.2 (h.dq k hk).1 (h.dq k hk).2.1
  refine ⟨own3, ⟨hg, hq, ?_, ?_, h.qo.step (by omega) (fun k hk _ => hqk k hk), fun k hk => ?_, ?_, by omega⟩, hqk, by omega⟩
  · rcases hai with e | e
    · rw [e]; exact old _ h.ei
    · rw [e]; exact nw
  · rcases hao with e | e
    · rw [e]; exact old _ h.eo
    · rw [e]; exact nw
  · obtain ⟨e1, e2, e3⟩ := h.dq k hk
    exact ⟨fun ho => (hown k ho).elim e1 (fun hl => by omega), e2, by omega⟩
  · exact (h.bel.trans b1).trans ((below_then (Below.refl _ w1) (by have := b1.size; omega) b2).trans b3)
theorem RAM.below (h : RAM W w own gr gq na ownq n a M R A bl vL hs q q0) (hb : Below w.heap.size w w') : RAM W w' own gr gq na ownq n a M R A bl vL hs q q0 :=
  ⟨h.rg.below hb, h.qi, h.ei.step (fun k hk _ _ _ => hb.block k hk) (fun k => .inl), h.eo.step (fun k hk _ _ _ => hb.block k hk) (fun k => .inl), h.qo.step hb.size (fun k _ hk => hb.block k hk), fun k hk => ⟨(h.dq k hk).1, (h.dq k hk).2.1, Nat.lt_of_lt_of_le (h.dq k hk).2.2 hb.size⟩, below_step h.bel hb, h.nq⟩
theorem RAM.queue (h : RAM W w own gr gq na ownq n a M R A bl vL hs q q0) (hQ : QO w' W.heap.size (fun k => ownq k ∨ w.heap.size ≤ k) gq (n : Int) vL' hs' q0') (hk : Kept w w' (fun k => k = gq)) (hb : Below W.heap.size w w') : ∃ ownq', RAM W w' own gr gq na ownq' n a M R A bl vL' hs' q q0' := by
  have g1 := (h.dq gq h.qo.og).1
  have g2 := (h.dq gq h.qo.og).2.1
  refine ⟨_, h.rg.keepQ h.qo.val h.qo.hq hk g1 g2 (fun e => h.nq e.symm), h.qi, h.ei.step (fun k hk2 _ _ h3 => hk.2 k hk2 h3) (fun k => .inl), h.eo.step (fun k hk2 _ _ h3 => hk.2 k hk2 h3) (fun k => .inl), hQ.bound, fun k hk2 => ?_, h.bel.trans hb, h.nq⟩
  obtain ⟨h1, h2⟩ := hk2
  rcases h1 with h1 | h1
  · exact ⟨(h.dq k h1).1, (h.dq k h1).2.1, h2⟩
  · exact ⟨fun ho => by have := h.rg.mem.2 k ho; omega, by have := blk_lt h.rg.ring; omega, h2⟩
theorem RAL.take (h : RAL W w own gr gq ownq n a M R vL hs q) (hb : Below w.heap.size w w') {Ab : Option Addr} {c : Nat} {X : List S140} (hR : Kd.R k140 140 w' w.heap.size (fun _ => True) (.slice Ab X.length c) X) : RAL W w' own gr gq (fun k => ownq k ∨ (w.heap.size ≤ k ∧ k < w'.heap.size)) n a M R vL hs q ∧ Kd.F k140 w' (fun k => (ownq k ∨ (w.heap.size ≤ k ∧ k < w'.heap.size)) ∧ k ≠ gq ∧ k < w'.heap.size) Ab X.length X := by
  have h2 := h.below hb
  have hgq := blk_lt h.qo.hq
  refine ⟨⟨h2.rb, h2.qi, h2.ei, h2.eo, h2.qo.mono (fun k => .inl), fun k hk => ?_, h2.bel⟩, Kd.R_F (Kd.R_mono (Kd.R_bound hR) (fun k hk => ⟨.inr ⟨hk.2.1, hk.2.2.1⟩, by have := hk.2.1; omega, hk.2.2.1⟩))⟩
  rcases hk with hk | hk
  · exact h2.dq k hk
  · exact ⟨fun ho => by have := h.rb.mem.2 k ho; omega, by have := blk_lt h.rb.ring; omega, hk.2⟩
theorem RAL.start {gm : Nat} (h : RB w W.heap.size own gr (RingM n) (RC.start gm (n : Int))) (hn : n = 1 ∨ n = 2 ∨ n = 4 ∨ n = 8 ∨ n = 16) (hb : Below W.heap.size W w) : RAL W (w.alloc (.cells #[.slice none 0 0, .int .i64 (n : Int)] 93)) own gr w.heap.size (fun k => k = w.heap.size) n 0 (RingM n) (RC.start gm (n : Int)) (.slice none 0 0) [] [] := by
  have b1 := below_alloc (Below.refl w.heap.size w) (.cells #[.slice none 0 0, .int .i64 (n : Int)] 93)
  have s1 : (w.alloc (.cells #[.slice none 0 0, .int .i64 (n : Int)] 93)).heap.size = w.heap.size + 1 := by simp
  exact ⟨h.below b1, QI.start n gm hn, .inl rfl, .inl rfl, ⟨blk_new w _, rfl, hb.size, Kd.R_nil _ _ _ _ _, rfl, fun j hj => absurd hj (by simp)⟩, fun k hk => by subst hk; exact ⟨fun ho => by have := h.mem.2 _ ho; omega, by have := blk_lt h.ring; omega, by omega⟩, below_step hb b1⟩
theorem size_C (s : Int) : ∃ n : Nat, (n = 1 ∨ n = 2 ∨ n = 4 ∨ n = 8 ∨ n = 16) ∧ marchlandref11_Size.f s = some (n : Int) := by
  have a := Int.tmod_nonneg 8 (u64_pos s)
  have b := Int.tmod_lt_of_pos (IntKind.u64.wrap s) (show (0 : Int) < 8 by omega)
  obtain ⟨k, hk⟩ : ∃ k, Int.tmod (IntKind.u64.wrap s) 8 = k := ⟨_, rfl⟩
  rw [hk] at a b
  have hk8 : k = 0 ∨ k = 1 ∨ k = 2 ∨ k = 3 ∨ k = 4 ∨ k = 5 ∨ k = 6 ∨ k = 7 := by omega
  unfold marchlandref11_Size.f
  rw [hk]
  rcases hk8 with rfl | rfl | rfl | rfl | rfl | rfl | rfl | rfl
  · exact ⟨1, by omega, by decide +kernel⟩
  · exact ⟨2, by omega, by decide +kernel⟩
  · exact ⟨4, by omega, by decide +kernel⟩
  · exact ⟨8, by omega, by decide +kernel⟩
  · exact ⟨1, by omega, by decide +kernel⟩
  · exact ⟨2, by omega, by decide +kernel⟩
  · exact ⟨4, by omega, by decide +kernel⟩
  · exact ⟨16, by omega, by decide +kernel⟩
end
def NoU (w : World) (k : Nat) : Prop := ∀ o x, w.cell? ⟨k, o, none⟩ ≠ some (.int .u64 x)
theorem F143_noU {w : World} {A : Option Addr} {xs : List S143} {k : Nat} (hk : NoU w k) (h : Kd.C k143 w A xs.length xs) : ∀ ad, A = some ad → 0 < xs.length → ad.block ≠ k := by
  intro ad hA hp e
  subst hA
  obtain ⟨ad', e1, -, hc, -⟩ := at_T143 h 0 (by decide) (by omega)
  obtain rfl : ad = ad' := Option.some.inj e1
  rw [add_block, e] at hc
  exact hk _ _ hc
structure Held (w : World) (own : Nat → Prop) (gr na : Nat) (A : AC) (bl : List S143) : Prop where
  act : ActAt w gr na A
  a1 : ¬ own na
  ne : gr ≠ na
  bx : ∃ Ab cb, A.b = .slice Ab bl.length cb ∧ bl.length ≤ cb ∧ Kd.F k143 w (fun k => ¬ own k ∧ k ≠ gr ∧ k ≠ na ∧ k < w.heap.size) Ab bl.length bl
section
variable {W w w' w2 : World} {B : Nat} {own own' S : Nat → Prop} {gr na nb : Nat} {M : MS} {R : RC} {A A' : AC} {bl bl' : List S143}
theorem RG.held (h : RG w B own gr na M R A bl) : Held w own gr na A bl := ⟨h.act, h.a1, h.ne, h.bx⟩
theorem Held.rg (h : Held w own gr na A bl) (hr : RB w B own gr M R) (hB : B ≤ na) : RG w B own gr na M R A bl := ⟨hr.mem, hr.ring, h.act, hr.fit, hr.r1, h.a1, h.ne, hr.gB, hB, h.bx⟩
theorem Held.noU (h : Held w own gr na A bl) (hs : A.st = .nilFunc ∨ ∃ f, A.st = stg f) : NoU w na := by
  intro o x hc
  obtain ⟨Ab, cb, e1, -⟩ := h.bx
  rw [blk_cell h.act] at hc
  unfold AC.cells at hc
  rcases o with _ | _ | _ | _ | _ | _ | _ | _ | o
  · injection hc with hc; cases hc
  · injection hc with hc; injection hc with hc; cases hc
  · injection hc with hc; cases hc
  · injection hc with hc; cases hc
  · injection hc with hc
    rcases hs with e | ⟨f, e⟩ <;> (rw [e] at hc; cases hc)
  · injection hc with hc; rw [e1] at hc; cases hc
  · injection hc with hc; cases hc
  · injection hc with hc; injection hc with hc; cases hc
  · simp at hc
theorem Held.keep (h : Held w own gr na A bl) (hk : Kept w w' S) (hS : ∀ k, S k → own k ∨ k = gr ∨ (k ≠ na ∧ (w.heap.size ≤ k ∨ NoU w k))) (ho : ∀ k, own' k → own k ∨ w.heap.size ≤ k) : Held w' own' gr na A bl := by
  obtain ⟨Ab, cb, e1, e2, e3⟩ := h.bx
  have hlt := blk_lt h.act
  have hC := Kd.F_now e3
  have hin : ∀ ad, Ab = some ad → 0 < bl.length → ¬ own ad.block ∧ ad.block ≠ gr ∧ ad.block ≠ na ∧ ad.block < w.heap.size := fun ad f1 f3 => Kd.F_in e3 f1 f3 (by decide)
  refine ⟨(hk.2 na hlt (fun hs => (hS na hs).elim h.a1 (fun e => e.elim (fun e => h.ne e.symm) (fun e => e.1 rfl)))).trans h.act, fun hh => (ho na hh).elim h.a1 (fun hl => by omega), h.ne, Ab, cb, e1, e2, ?_⟩
  refine Kd.F_mono (Kd.F_step (F143 hC) (fun k hk2 hl2 => ?_)) (fun k hk2 => ?_)
  · obtain ⟨ad, f1, f2, f3⟩ := hk2
    obtain ⟨g1, g2, g3, g4⟩ := hin ad f1 f3
    refine hk.2 k hl2 (fun hs => (hS k hs).elim (fun e => g1 (f2 ▸ e)) (fun e => e.elim (fun e => g2 (f2 ▸ e)) (fun e => ?_)))
    rcases e.2 with e | e
    · omega
    · exact F143_noU e hC ad f1 f3 f2.symm
  · obtain ⟨ad, f1, f2, f3⟩ := hk2
    obtain ⟨g1, g2, g3, g4⟩ := hin ad f1 f3
    rw [f2]
    exact ⟨fun hh => (ho _ hh).elim g1 (fun hl => by omega), g2, g3, Nat.lt_of_lt_of_le g4 hk.1⟩
theorem Held.below (h : Held w own gr na A bl) (hb : Below w.heap.size w w') : Held w' own gr na A bl :=
  h.keep (S := fun k => w.heap.size ≤ k) ⟨hb.size, fun i hi _ => hb.block i hi⟩ (fun k hk => .inr (.inr ⟨by have := blk_lt h.act; omega, .inl hk⟩)) (fun k => .inl)
end
def AtEnd (w : World) (B : Nat) (own : Nat → Prop) (gr gq : Nat) (out : Bool) (va : Value) (s : Stage) (v : Value) : Prop :=
  match s with
  | none => v = .pointer none ∧ EndOk w own gr gq va
  | some (f, bl) => ∃ na A, v = .pointer (some ⟨na, 0, none⟩) ∧ va = .pointer (some ⟨na, 0, none⟩) ∧ B ≤ na ∧ Held w own gr na A bl ∧ A.out = out ∧ A.who = (if out then 1 else 0) ∧ A.st = stg f ∧ A.ok = false ∧ A.mark = 0
structure TS (W w : World) (own : Nat → Prop) (gr gq : Nat) (ownq : Nat → Prop) (n a P Q : Nat) (M : MS) (R : RC) (vL : Value) (hs : List Hd) (q q0 : List (List S143)) (s0 s1 : Stage) (v0 v1 : Value) : Prop where
  rb : RB w W.heap.size own gr M R
  ti : TI M R n a P Q q s0 s1
  x0 : AtEnd w W.heap.size own gr gq false R.ai s0 v0
  x1 : AtEnd w W.heap.size own gr gq true R.ao s1 v1
  qo : QO w W.heap.size ownq gq (n : Int) vL hs q0
  dq : ∀ k, ownq k → ¬ own k ∧ k ≠ gr ∧ k < w.heap.size
  dn : ∀ k, ownq k → R.ai ≠ .pointer (some ⟨k, 0, none⟩) ∧ R.ao ≠ .pointer (some ⟨k, 0, none⟩)
  bel : Below W.heap.size W w
section
variable {W w w' w2 : World} {B : Nat} {own own' ownq ownq' S : Nat → Prop} {gr gq na nb n a P Q : Nat} {M M' : MS} {R R' : RC} {A A' : AC} {bl bl' : List S143} {vL vL' : Value} {hs hs' : List Hd} {q q0 : List (List S143)} {s s0 s1 : Stage} {v v0 v1 va : Value} {out : Bool}
theorem AtEnd.below (h : AtEnd w B own gr gq out va s v) (hb : Below w.heap.size w w') : AtEnd w' B own gr gq out va s v := by
  unfold AtEnd at h ⊢
  rcases s with _ | ⟨f, bl⟩
  · exact ⟨h.1, h.2.step (fun k hk _ _ _ => hb.block k hk) (fun k => .inl)⟩
  · obtain ⟨na, A, e1, e2, e3, e4, e5⟩ := h
    exact ⟨na, A, e1, e2, e3, e4.below hb, e5⟩
theorem AtEnd.keep (h : AtEnd w B own gr gq out va s v) (hk : Kept w w' S) (hS : ∀ k, S k → own k ∨ k = gr ∨ (w.heap.size ≤ k ∨ NoU w k) ∧ ∀ na A, va = .pointer (some ⟨na, 0, none⟩) → ActAt w gr na A → k ≠ na) (ho : ∀ k, own' k → own k ∨ w.heap.size ≤ k) : AtEnd w' B own' gr gq out va s v := by
  unfold AtEnd at h ⊢
  rcases s with _ | ⟨f, bl⟩
  · refine ⟨h.1, ?_⟩
    rcases h.2 with e | ⟨nb, A, e, h1, h2, h3, h4, h5⟩
    · exact .inl e
    · have hlt := blk_lt h1
      refine .inr ⟨nb, A, e, (hk.2 nb hlt (fun hs => (hS nb hs).elim h3 (fun x => x.elim h4 (fun x => x.2 nb A e h1 rfl)))).trans h1, h2, fun hh => (ho nb hh).elim h3 (fun hl => by omega), h4, h5⟩
  · obtain ⟨na, A, e1, e2, e3, e4, e5⟩ := h
    exact ⟨na, A, e1, e2, e3, e4.keep hk (fun k hs => (hS k hs).imp id (fun x => x.imp id (fun x => ⟨x.2 na A e2 e4.act, x.1⟩))) ho, e5⟩
theorem TS.below (h : TS W w own gr gq ownq n a P Q M R vL hs q q0 s0 s1 v0 v1) (hb : Below w.heap.size w w') : TS W w' own gr gq ownq n a P Q M R vL hs q q0 s0 s1 v0 v1 :=
  ⟨h.rb.below hb, h.ti, h.x0.below hb, h.x1.below hb, h.qo.step hb.size (fun k _ hk => hb.block k hk), fun k hk => ⟨(h.dq k hk).1, (h.dq k hk).2.1, Nat.lt_of_lt_of_le (h.dq k hk).2.2 hb.size⟩, h.dn, below_step h.bel hb⟩
end
structure TM (W w : World) (own : Nat → Prop) (gr gq : Nat) (out : Bool) (na : Nat) (ownq : Nat → Prop) (n a P Q : Nat) (M : MS) (R : RC) (A : AC) (bl : List S143) (vL : Value) (hs : List Hd) (q q0 : List (List S143)) (s0 s1 : Stage) (vo : Value) : Prop where
  rg : RG w W.heap.size own gr na M R A bl
  ti : TI M R n a P Q q s0 s1
  va : (if out then R.ao else R.ai) = .pointer (some ⟨na, 0, none⟩)
  xo : AtEnd w W.heap.size own gr gq (!out) (if out then R.ai else R.ao) (if out then s0 else s1) vo
  df : ∀ nb, (if out then R.ai else R.ao) = .pointer (some ⟨nb, 0, none⟩) → nb ≠ na
  qo : QO w W.heap.size ownq gq (n : Int) vL hs q0
  dq : ∀ k, ownq k → ¬ own k ∧ k ≠ gr ∧ k < w.heap.size
  dn : ∀ k, ownq k → R.ai ≠ .pointer (some ⟨k, 0, none⟩) ∧ R.ao ≠ .pointer (some ⟨k, 0, none⟩)
  bel : Below W.heap.size W w
  nq : na ≠ gq
section
variable {W w w' w1 w2 w3 : World} {B : Nat} {own own' ownq ownq' S : Nat → Prop} {gr gq na nb n a a' P Q P' Q' f : Nat} {M M' : MS} {R R' : RC} {A A' : AC} {bl bl' : List S143} {vL vL' : Value} {hs hs' : List Hd} {q q' q0 q0' : List (List S143)} {s s0 s1 s0' s1' : Stage} {v v0 v1 va vo : Value} {out : Bool}
theorem TM.below (h : TM W w own gr gq out na ownq n a P Q M R A bl vL hs q q0 s0 s1 vo) (hb : Below w.heap.size w w') : TM W w' own gr gq out na ownq n a P Q M R A bl vL hs q q0 s0 s1 vo :=
  ⟨h.rg.below hb, h.ti, h.va, h.xo.below hb, h.df, h.qo.step hb.size (fun k _ hk => hb.block k hk), fun k hk => ⟨(h.dq k hk).1, (h.dq k hk).2.1, Nat.lt_of_lt_of_le (h.dq k hk).2.2 hb.size⟩, h.dn, below_step h.bel hb, h.nq⟩
theorem ptr_inj {x y : Nat} (h : Value.pointer (some ⟨x, 0, none⟩) = .pointer (some ⟨y, 0, none⟩)) : x = y := by
  injection h with h
  injection h with h
  injection h
theorem ActAt.ne_of {x : Nat} {cs : Array Value} {t : TypeId} (h : ActAt w gr na A) (hx : w.heap[x]? = some (.cells cs t (0, 0))) (ht : t ≠ 157) : x ≠ na := by
  intro e
  rw [e, h] at hx
  injection hx with hx
  injection hx with _ h2
  exact ht h2.symm
theorem TS.begin0 (h : TS W w own gr gq ownq n a P Q M R vL hs q q0 none s1 v0 v1) (hg : RG w' W.heap.size own gr na M { R with ai := .pointer (some ⟨na, 0, none⟩) } (pushA 0 v) bl) (hna : w.heap.size ≤ na) (hk : Kept w w' (fun k => k = gr)) (hb : Below W.heap.size w w') (hbl : bl.length ≤ 12) :
    TS W w' own gr gq ownq n a P Q M { R with ai := .pointer (some ⟨na, 0, none⟩) } vL hs q q0 (some (95, bl)) s1 (.pointer (some ⟨na, 0, none⟩)) v1 := by
  have hB := h.rb.mem.size
  refine ⟨hg.rb, (h.ti.begin0 hbl).setAi _, ⟨na, pushA 0 v, rfl, rfl, by omega, hg.held, rfl, rfl, rfl, rfl, rfl⟩, h.x1.keep hk (fun k e => .inr (.inl e)) (fun k => .inl), h.qo.step hk.1 (fun k ho hlt => hk.2 k hlt (h.dq k ho).2.1), fun k hk2 => ⟨(h.dq k hk2).1, (h.dq k hk2).2.1, Nat.lt_of_lt_of_le (h.dq k hk2).2.2 hk.1⟩, fun k hk2 => ⟨fun e => (by have e9 := ptr_inj e; have := (h.dq k hk2).2.2; omega), (h.dn k hk2).2⟩, h.bel.trans hb⟩
theorem TS.begin1 (h : TS W w own gr gq ownq n a P Q M R vL hs q q0 s0 none v0 v1) (hg : RG w' W.heap.size own gr na M { R with ao := .pointer (some ⟨na, 0, none⟩) } (popA 1) []) (hna : w.heap.size ≤ na) (hk : Kept w w' (fun k => k = gr)) (hb : Below W.heap.size w w') :
    TS W w' own gr gq ownq n a P Q M { R with ao := .pointer (some ⟨na, 0, none⟩) } vL hs q q0 s0 (some (94, [])) v0 (.pointer (some ⟨na, 0, none⟩)) := by
  have hB := h.rb.mem.size
  refine ⟨hg.rb, (h.ti.begin1 (bl := [])).setAo _, h.x0.keep hk (fun k e => .inr (.inl e)) (fun k => .inl), ⟨na, popA 1, rfl, rfl, by omega, hg.held, rfl, rfl, rfl, rfl, rfl⟩, h.qo.step hk.1 (fun k ho hlt => hk.2 k hlt (h.dq k ho).2.1), fun k hk2 => ⟨(h.dq k hk2).1, (h.dq k hk2).2.1, Nat.lt_of_lt_of_le (h.dq k hk2).2.2 hk.1⟩, fun k hk2 => ⟨(h.dn k hk2).1, fun e => (by have e9 := ptr_inj e; have := (h.dq k hk2).2.2; omega)⟩, h.bel.trans hb⟩
theorem held_ne (h0 : ActAt w gr na A) (h1 : ActAt w gr nb A') (ho : A.out ≠ A'.out) : na ≠ nb := by
  intro e
  subst e
  have h2 := blk_cell h0 2
  rw [blk_cell h1 2] at h2
  have h3 : (Value.pointer (some ⟨gr, A'.own, none⟩)) = .pointer (some ⟨gr, A.own, none⟩) := Option.some.inj h2
  injection h3 with h3
  injection h3 with h3
  injection h3 with _ h4
  unfold AC.own at h4
  cases e1 : A.out <;> cases e2 : A'.out <;> simp_all
theorem TM.made0 (h : TS W w own gr gq ownq n a P Q M R vL hs q q0 s0 s1 v0 v1) (hh : Held w own gr na A bl) (hB : W.heap.size ≤ na) (hai : R.ai = .pointer (some ⟨na, 0, none⟩)) (hst : ∃ f, A.st = stg f)
    (hdf : ∀ nb, R.ao = .pointer (some ⟨nb, 0, none⟩) → nb ≠ na)
    (h3 : RGTo w w' W.heap.size own gr na M' R' A' bl') (ht : TI M' R' n a' P' Q' q' s0' s1) (e1 : R'.ai = R.ai) (e2 : R'.ao = R.ao) : ∃ own', TM W w' own' gr gq false na ownq n a' P' Q' M' R' A' bl' vL hs q' q0 s0' s1 v1 ∧ (∀ k, own' k → own k ∨ w.heap.size ≤ k) ∧ Kept w w' (fun k => own k ∨ k = gr ∨ k = na) := by
  obtain ⟨own', hg, hs', hk, hb⟩ := h3
  have hgq : gq ≠ na := hh.act.ne_of h.qo.hq (by decide)
  refine ⟨own', ⟨hg, ht, e1.trans hai, ?_, fun nb e => hdf nb (by rw [← e2]; exact e), h.qo.step hk.1 (fun k ho hlt => hk.2 k hlt (fun hS => ?_)), fun k hk2 => ?_, fun k hk2 => ⟨fun e => ?_, fun e => ?_⟩, h.bel.trans hb, fun e => hgq e.symm⟩, hs', hk⟩
  · have hx := h.x1.keep (own' := own') hk (fun k hS => hS.imp id (fun x => x.imp id (fun x => ⟨.inr (by rw [x]; exact hh.noU (.inr hst)), fun nb A2 f1 f2 => by rw [x]; exact fun e => hdf nb f1 e.symm⟩))) hs'
    show AtEnd w' _ own' gr gq true R'.ao s1 v1
    rw [e2]; exact hx
  · obtain ⟨g1, g2, g3⟩ := h.dq k ho
    exact hS.elim g1 (fun x => x.elim g2 (fun x => (h.dn k ho).1 (by rw [hai, x])))
  · obtain ⟨g1, g2, g3⟩ := h.dq k hk2
    exact ⟨fun ho => (hs' k ho).elim g1 (fun hl => by omega), g2, Nat.lt_of_lt_of_le g3 hk.1⟩
  · exact (h.dn k hk2).1 (e1.symm.trans e)
  · exact (h.dn k hk2).2 (e2.symm.trans e)
theorem TM.made1 (h : TS W w own gr gq ownq n a P Q M R vL hs q q0 s0 s1 v0 v1) (hh : Held w own gr na A bl) (hB : W.heap.size ≤ na) (hai : R.ao = .pointer (some ⟨na, 0, none⟩)) (hst : ∃ f, A.st = stg f)
    (hdf : ∀ nb, R.ai = .pointer (some ⟨nb, 0, none⟩) → nb ≠ na)
    (h3 : RGTo w w' W.heap.size own gr na M' R' A' bl') (ht : TI M' R' n a' P' Q' q' s0 s1') (e1 : R'.ao = R.ao) (e2 : R'.ai = R.ai) : ∃ own', TM W w' own' gr gq true na ownq n a' P' Q' M' R' A' bl' vL hs q' q0 s0 s1' v0 ∧ (∀ k, own' k → own k ∨ w.heap.size ≤ k) ∧ Kept w w' (fun k => own k ∨ k = gr ∨ k = na) := by
  obtain ⟨own', hg, hs', hk, hb⟩ := h3
  have hgq : gq ≠ na := hh.act.ne_of h.qo.hq (by decide)
  refine ⟨own', ⟨hg, ht, e1.trans hai, ?_, fun nb e => hdf nb (by rw [← e2]; exact e), h.qo.step hk.1 (fun k ho hlt => hk.2 k hlt (fun hS => ?_)), fun k hk2 => ?_, fun k hk2 => ⟨fun e => ?_, fun e => ?_⟩, h.bel.trans hb, fun e => hgq e.symm⟩, hs', hk⟩
  · have hx := h.x0.keep (own' := own') hk (fun k hS => hS.imp id (fun x => x.imp id (fun x => ⟨.inr (by rw [x]; exact hh.noU (.inr hst)), fun nb A2 f1 f2 => by rw [x]; exact fun e => hdf nb f1 e.symm⟩))) hs'
    show AtEnd w' _ own' gr gq false R'.ai s0 v0
    rw [e2]; exact hx
  · obtain ⟨g1, g2, g3⟩ := h.dq k ho
    exact hS.elim g1 (fun x => x.elim g2 (fun x => (h.dn k ho).2 (by rw [hai, x])))
  · obtain ⟨g1, g2, g3⟩ := h.dq k hk2
    exact ⟨fun ho => (hs' k ho).elim g1 (fun hl => by omega), g2, Nat.lt_of_lt_of_le g3 hk.1⟩
  · exact (h.dn k hk2).1 (e2.symm.trans e)
  · exact (h.dn k hk2).2 (e1.symm.trans e)
theorem TM.queue (h : TM W w own gr gq out na ownq n a P Q M R A bl vL hs q q0 s0 s1 vo) (hQ : QO w' W.heap.size (fun k => ownq k ∨ w.heap.size ≤ k) gq (n : Int) vL' hs' q0') (hk : Kept w w' (fun k => k = gq)) (hb : Below W.heap.size w w') : ∃ ownq', TM W w' own gr gq out na ownq' n a P Q M R A bl vL' hs' q q0' s0 s1 vo ∧ ∀ k, ownq' k → ownq k ∨ w.heap.size ≤ k := by
  have g1 := (h.dq gq h.qo.og).1
  have g2 := (h.dq gq h.qo.og).2.1
  have hgqu : NoU w gq := by
    intro o x hc
    rw [blk_cell h.qo.hq] at hc
    rcases o with _ | _ | o
    · injection hc with hc; exact h.qo.val _ hc
    · injection hc with hc; injection hc with hc; cases hc
    · simp at hc
  have hna := blk_lt h.rg.act
  refine ⟨fun k => (ownq k ∨ w.heap.size ≤ k) ∧ k < w'.heap.size, ⟨h.rg.keepQ h.qo.val h.qo.hq hk g1 g2 (fun e => h.nq e.symm), h.ti, h.va, h.xo.keep hk (fun k e => .inr (.inr ⟨.inr (by rw [e]; exact hgqu), fun nb A2 f1 f2 => by rw [e]; exact f2.ne_of h.qo.hq (by decide)⟩)) (fun k => .inl), h.df, hQ.bound, fun k hk2 => ?_, fun k hk2 => ?_, h.bel.trans hb, h.nq⟩, fun k hk2 => hk2.1⟩
  · obtain ⟨h1, h2⟩ := hk2
    rcases h1 with h1 | h1
    · exact ⟨(h.dq k h1).1, (h.dq k h1).2.1, h2⟩
    · exact ⟨fun ho => by have := h.rg.mem.2 k ho; omega, by have := blk_lt h.rg.ring; omega, h2⟩
  · rcases hk2.1 with h1 | h1
    · exact h.dn k h1
    · have hlt : ∀ v, (∃ s, AtEnd w W.heap.size own gr gq (!out) v s vo) → v ≠ .pointer (some ⟨k, 0, none⟩) := by
        rintro v ⟨s, hx⟩ e
        unfold AtEnd at hx
        rcases s with _ | ⟨f, b⟩
        · rcases hx.2 with e2 | ⟨nb, A2, e2, e3, -⟩
          · rw [e] at e2; cases e2
          · have := blk_lt e3; have := ptr_inj (e.symm.trans e2); omega
        · obtain ⟨nb, A2, -, e2, -, e3, -⟩ := hx
          have := blk_lt e3.act; have := ptr_inj (e.symm.trans e2); omega
      have hme : Value.pointer (some ⟨na, 0, none⟩) ≠ .pointer (some ⟨k, 0, none⟩) := fun e => by have := ptr_inj e; omega
      have hv := h.va
      have ho := hlt _ ⟨_, h.xo⟩
      cases out
      · exact ⟨by show R.ai ≠ _; rw [show R.ai = _ from hv]; exact hme, ho⟩
      · exact ⟨ho, by show R.ao ≠ _; rw [show R.ao = _ from hv]; exact hme⟩
theorem TM.on (h : TM W w own gr gq out na ownq n a P Q M R A bl vL hs q q s0 s1 vo) (hs2 : (if out then s1 else s0) = some (f, bl)) (ho : A.out = out) (hw : A.who = (if out then 1 else 0)) (hst : A.st = stg f) (hok : A.ok = false) (hm : A.mark = 0) : TS W w own gr gq ownq n a P Q M R vL hs q q s0 s1 (if out then vo else .pointer (some ⟨na, 0, none⟩)) (if out then .pointer (some ⟨na, 0, none⟩) else vo) := by
  have hv := h.va
  have hx := h.xo
  have me : AtEnd w W.heap.size own gr gq out (.pointer (some ⟨na, 0, none⟩)) (some (f, bl)) (.pointer (some ⟨na, 0, none⟩)) := ⟨na, A, rfl, rfl, h.rg.aB, h.rg.held, ho, hw, hst, hok, hm⟩
  cases out
  · have hv : R.ai = _ := hv
    have hs2 : s0 = _ := hs2
    exact ⟨h.rg.rb, h.ti, by rw [hv, hs2]; exact me, hx, h.qo, h.dq, h.dn, h.bel⟩
  · have hv : R.ao = _ := hv
    have hs2 : s1 = _ := hs2
    exact ⟨h.rg.rb, h.ti, hx, by rw [hv, hs2]; exact me, h.qo, h.dq, h.dn, h.bel⟩
theorem TM.off (h : TM W w own gr gq out na ownq n a P Q M R A bl vL hs q q s0 s1 vo) (hs2 : (if out then s1 else s0) = none) (hst : A.st = .nilFunc) : TS W w own gr gq ownq n a P Q M R vL hs q q s0 s1 (if out then vo else .pointer none) (if out then .pointer none else vo) := by
  have hv := h.va
  have hx := h.xo
  have me : AtEnd w W.heap.size own gr gq out (.pointer (some ⟨na, 0, none⟩)) none (.pointer none) := ⟨rfl, .inr ⟨na, A, rfl, h.rg.act, hst, h.rg.a1, fun e => h.rg.ne e.symm, h.nq⟩⟩
  cases out
  · have hv : R.ai = _ := hv
    have hs2 : s0 = _ := hs2
    exact ⟨h.rg.rb, h.ti, by rw [hv, hs2]; exact me, hx, h.qo, h.dq, h.dn, h.bel⟩
  · have hv : R.ao = _ := hv
    have hs2 : s1 = _ := hs2
    exact ⟨h.rg.rb, h.ti, hx, by rw [hv, hs2]; exact me, h.qo, h.dq, h.dn, h.bel⟩
end
structure AR (w : World) (B : Nat) (own ownq : Nat → Prop) (gr nn ns : Nat) (v0 v1 : Value) (c0 c1 : Int) : Prop where
  hn : w.heap[nn]? = some (.cells #[v0, v1] 123 (0, 0))
  hs : w.heap[ns]? = some (.cells #[.int .i64 c0, .int .i64 c1] 28 (0, 0))
  on : ¬ own nn ∧ ¬ own ns
  oq : ¬ ownq nn ∧ ¬ ownq ns
  gn : nn ≠ gr ∧ ns ≠ gr
  gb : B ≤ nn ∧ B ≤ ns
  ne : nn ≠ ns
section
variable {W w w' : World} {B : Nat} {own own' ownq ownq' S : Nat → Prop} {gr gq na nn ns x n a P Q f : Nat} {M : MS} {R : RC} {A : AC} {bl : List S143} {vL : Value} {hs : List Hd} {q q0 : List (List S143)} {s0 s1 : Stage} {v0 v1 vo : Value} {c0 c1 : Int} {out : Bool} {cs : Array Value} {t : TypeId}
theorem AR.keep (h : AR w B own ownq gr nn ns v0 v1 c0 c1) (hk : Kept w w' S) (h1 : ¬ S nn ∧ ¬ S ns) (ho : ∀ k, own' k → own k ∨ w.heap.size ≤ k) (hq : ∀ k, ownq' k → ownq k ∨ w.heap.size ≤ k) : AR w' B own' ownq' gr nn ns v0 v1 c0 c1 := by
  have l1 := blk_lt h.hn
  have l2 := blk_lt h.hs
  exact ⟨(hk.2 nn l1 h1.1).trans h.hn, (hk.2 ns l2 h1.2).trans h.hs, ⟨fun e => (ho nn e).elim h.on.1 (fun hl => by omega), fun e => (ho ns e).elim h.on.2 (fun hl => by omega)⟩, ⟨fun e => (hq nn e).elim h.oq.1 (fun hl => by omega), fun e => (hq ns e).elim h.oq.2 (fun hl => by omega)⟩, h.gn, h.gb, h.ne⟩
theorem AR.below (h : AR w B own ownq gr nn ns v0 v1 c0 c1) (hb : Below w.heap.size w w') : AR w' B own ownq gr nn ns v0 v1 c0 c1 :=
  h.keep (S := fun k => w.heap.size ≤ k) ⟨hb.size, fun i hi _ => hb.block i hi⟩ ⟨by have := blk_lt h.hn; omega, by have := blk_lt h.hs; omega⟩ (fun k => .inl) (fun k => .inl)
theorem TS.still (h : TS W w own gr gq ownq n a P Q M R vL hs q q0 s0 s1 v0 v1) (hk : Kept w w' (fun k => k = x)) (hb : Below W.heap.size w w') (hx : w.heap[x]? = some (.cells cs t (0, 0))) (ht : t ≠ 157) (hu : NoU w x) (h1 : ¬ own x) (h2 : x ≠ gr) (h3 : ¬ ownq x) : TS W w' own gr gq ownq n a P Q M R vL hs q q0 s0 s1 v0 v1 := by
  have hS : ∀ (va : Value), ∀ k, k = x → own k ∨ k = gr ∨ (w.heap.size ≤ k ∨ NoU w k) ∧ ∀ na A, va = .pointer (some ⟨na, 0, none⟩) → ActAt w gr na A → k ≠ na := fun va k e => .inr (.inr ⟨.inr (by rw [e]; exact hu), fun na A _ f2 => by rw [e]; exact f2.ne_of hx ht⟩)
  exact ⟨⟨h.rb.mem.kept hk (fun k ho e => h1 (e ▸ ho)), (hk.2 gr (blk_lt h.rb.ring) (fun e => h2 e.symm)).trans h.rb.ring, h.rb.fit, h.rb.r1, h.rb.gB⟩, h.ti, h.x0.keep hk (hS _) (fun k => .inl), h.x1.keep hk (hS _) (fun k => .inl), h.qo.step hk.1 (fun k ho hlt => hk.2 k hlt (fun e => h3 (e ▸ ho))), fun k hk2 => ⟨(h.dq k hk2).1, (h.dq k hk2).2.1, Nat.lt_of_lt_of_le (h.dq k hk2).2.2 hk.1⟩, h.dn, h.bel.trans hb⟩
theorem AtEnd.fresh {va : Value} {s : Stage} {v : Value} (h : AtEnd w B own gr gq out va s v) {k : Nat} (hk : w.heap.size ≤ k) : va ≠ .pointer (some ⟨k, 0, none⟩) := by
  intro e
  unfold AtEnd at h
  rcases s with _ | ⟨f, b⟩
  · rcases h.2 with e2 | ⟨nb, A2, e2, e3, -⟩
    · rw [e] at e2; cases e2
    · have := blk_lt e3; have := ptr_inj (e.symm.trans e2); omega
  · obtain ⟨nb, A2, -, e2, -, e3, -⟩ := h
    have := blk_lt e3.act; have := ptr_inj (e.symm.trans e2); omega
theorem AtEnd.endOk {va v : Value} (h : AtEnd w B own gr gq out va none v) : EndOk w own gr gq va := h.2
theorem AtEnd.val {va : Value} {s : Stage} {v : Value} (h : AtEnd w B own gr gq out va s v) : ∃ p, v = .pointer p := by
  unfold AtEnd at h
  rcases s with _ | ⟨f, b⟩
  · exact ⟨_, h.1⟩
  · obtain ⟨nb, A2, e2, -⟩ := h
    exact ⟨_, e2⟩
theorem TM.take (h : TM W w own gr gq out na ownq n a P Q M R A bl vL hs q q0 s0 s1 vo) (hb : Below w.heap.size w w') {Ab : Option Addr} {c : Nat} {X : List S140} (hR : Kd.R k140 140 w' w.heap.size (fun _ => True) (.slice Ab X.length c) X) : TM W w' own gr gq out na (fun k => ownq k ∨ (w.heap.size ≤ k ∧ k < w'.heap.size)) n a P Q M R A bl vL hs q q0 s0 s1 vo ∧ Kd.F k140 w' (fun k => (ownq k ∨ (w.heap.size ≤ k ∧ k < w'.heap.size)) ∧ k ≠ gq ∧ k < w'.heap.size) Ab X.length X := by
  have h2 := h.below hb
  have hgq := blk_lt h.qo.hq
  have hna := blk_lt h.rg.act
  refine ⟨⟨h2.rg, h2.ti, h2.va, h2.xo, h2.df, h2.qo.mono (fun k => .inl), fun k hk => ?_, fun k hk => ?_, h2.bel, h2.nq⟩, Kd.R_F (Kd.R_mono (Kd.R_bound hR) (fun k hk => ⟨.inr ⟨hk.2.1, hk.2.2.1⟩, by have := hk.2.1; omega, hk.2.2.1⟩))⟩
  · rcases hk with hk | hk
    · exact h2.dq k hk
    · exact ⟨fun ho => by have := h.rg.mem.2 k ho; omega, by have := blk_lt h.rg.ring; omega, hk.2⟩
  · rcases hk with hk | hk
    · exact h.dn k hk
    · have hme : Value.pointer (some ⟨na, 0, none⟩) ≠ .pointer (some ⟨k, 0, none⟩) := fun e => by have := ptr_inj e; omega
      have hv := h.va
      have ho := h.xo.fresh hk.1
      cases out
      · exact ⟨by show R.ai ≠ _; rw [show R.ai = _ from hv]; exact hme, ho⟩
      · exact ⟨ho, by show R.ao ≠ _; rw [show R.ao = _ from hv]; exact hme⟩
theorem TM.still (h : TM W w own gr gq out na ownq n a P Q M R A bl vL hs q q0 s0 s1 vo) (hk : Kept w w' (fun k => k = x)) (hb : Below W.heap.size w w') (hx : w.heap[x]? = some (.cells cs t (0, 0))) (ht : t ≠ 157) (hu : NoU w x) (h1 : ¬ own x) (h2 : x ≠ gr) (h3 : ¬ ownq x) : TM W w' own gr gq out na ownq n a P Q M R A bl vL hs q q0 s0 s1 vo := by
  have hrb : RB w' W.heap.size own gr M R := ⟨h.rg.mem.kept hk (fun k ho e => h1 (e ▸ ho)), (hk.2 gr (blk_lt h.rg.ring) (fun e => h2 e.symm)).trans h.rg.ring, h.rg.fit, h.rg.r1, h.rg.gB⟩
  have hh := h.rg.held.keep (own' := own) hk (fun k e => .inr (.inr ⟨by rw [e]; exact h.rg.act.ne_of hx ht, .inr (by rw [e]; exact hu)⟩)) (fun k => .inl)
  exact ⟨hh.rg hrb h.rg.aB, h.ti, h.va, h.xo.keep hk (fun k e => .inr (.inr ⟨.inr (by rw [e]; exact hu), fun nb A2 _ f2 => by rw [e]; exact f2.ne_of hx ht⟩)) (fun k => .inl), h.df, h.qo.step hk.1 (fun k ho hlt => hk.2 k hlt (fun e => h3 (e ▸ ho))), fun k hk2 => ⟨(h.dq k hk2).1, (h.dq k hk2).2.1, Nat.lt_of_lt_of_le (h.dq k hk2).2.2 hk.1⟩, h.dn, h.bel.trans hb, h.nq⟩
theorem AR.noUs (h : AR w B own ownq gr nn ns v0 v1 c0 c1) : NoU w ns := by
  intro o x hc
  rw [blk_cell h.hs] at hc
  rcases o with _ | _ | o
  · injection hc with hc; injection hc with hc; cases hc
  · injection hc with hc; injection hc with hc; cases hc
  · simp at hc
theorem AR.noUn (h : AR w B own ownq gr nn ns v0 v1 c0 c1) (p0 : ∃ p, v0 = .pointer p) (p1 : ∃ p, v1 = .pointer p) : NoU w nn := by
  obtain ⟨p0, rfl⟩ := p0
  obtain ⟨p1, rfl⟩ := p1
  intro o x hc
  rw [blk_cell h.hn] at hc
  rcases o with _ | _ | o
  · injection hc with hc; cases hc
  · injection hc with hc; cases hc
  · simp at hc
theorem AR.setN (h : AR w B own ownq gr nn ns v0 v1 c0 c1) (k : Bool) (u : Value) : AR (w.setCell ⟨nn, if k then 1 else 0, none⟩ u) B own ownq gr nn ns (if k then v0 else u) (if k then u else v1) c0 c1 ∧ Kept w (w.setCell ⟨nn, if k then 1 else 0, none⟩ u) (fun j => j = nn) ∧ Below B w (w.setCell ⟨nn, if k then 1 else 0, none⟩ u) := by
  refine ⟨⟨?_, blk_far h.hs (p := ⟨nn, _, none⟩) (fun e => h.ne e.symm) _, h.on, h.oq, h.gn, h.gb, h.ne⟩, (Kept.refl w (fun j => j = nn)).setCell (p := ⟨nn, _, none⟩) (.inl rfl) _, (Below.refl B w).setCell (p := ⟨nn, _, none⟩) h.gb.1 _⟩
  cases k
  · exact blk_put h.hn 0 _ rfl
  · exact blk_put h.hn 1 _ rfl
theorem AR.setS (h : AR w B own ownq gr nn ns v0 v1 c0 c1) (k : Bool) (u : Int) : AR (w.setCell ⟨ns, if k then 1 else 0, none⟩ (.int .i64 u)) B own ownq gr nn ns v0 v1 (if k then c0 else u) (if k then u else c1) ∧ Kept w (w.setCell ⟨ns, if k then 1 else 0, none⟩ (.int .i64 u)) (fun j => j = ns) ∧ Below B w (w.setCell ⟨ns, if k then 1 else 0, none⟩ (.int .i64 u)) := by
  refine ⟨⟨blk_far h.hn (p := ⟨ns, _, none⟩) h.ne _, ?_, h.on, h.oq, h.gn, h.gb, h.ne⟩, (Kept.refl w (fun j => j = ns)).setCell (p := ⟨ns, _, none⟩) (.inl rfl) _, (Below.refl B w).setCell (p := ⟨ns, _, none⟩) h.gb.2 _⟩
  cases k
  · exact blk_put h.hs 0 _ rfl
  · exact blk_put h.hs 1 _ rfl
theorem TS.act0 (h : TS W w own gr gq ownq n a P Q M R vL hs q q0 (some (f, bl)) s1 v0 v1) : ∃ na A, v0 = .pointer (some ⟨na, 0, none⟩) ∧ R.ai = .pointer (some ⟨na, 0, none⟩) ∧ W.heap.size ≤ na ∧ Held w own gr na A bl ∧ A.out = false ∧ A.who = 0 ∧ A.st = stg f ∧ A.ok = false ∧ A.mark = 0 ∧ ∀ nb, R.ao = .pointer (some ⟨nb, 0, none⟩) → nb ≠ na := by
  obtain ⟨na, A, e1, e2, e3, e4, e5, e6, e7, e8, e9⟩ := h.x0
  refine ⟨na, A, e1, e2, e3, e4, e5, e6, e7, e8, e9, fun nb e => ?_⟩
  have hx := h.x1
  unfold AtEnd at hx
  rcases s1 with _ | ⟨f', b'⟩
  · rcases hx.2 with g | ⟨nc, A2, g1, g2, g3, g4, g5, g6⟩
    · rw [e] at g; cases g
    · have := ptr_inj (e.symm.trans g1)
      subst this
      intro e0
      subst e0
      have h4 := blk_cell e4.act 4
      rw [blk_cell g2 4] at h4
      have h5 : A2.st = A.st := Option.some.inj h4
      rw [g3, e7] at h5
      cases h5
  · obtain ⟨nc, A2, g1, g2, g3, g4, g5, -⟩ := hx
    have := ptr_inj (e.symm.trans g2)
    subst this
    exact fun e0 => held_ne e4.act g4.act (by rw [e5, g5]; decide) e0.symm
theorem TS.act1 (h : TS W w own gr gq ownq n a P Q M R vL hs q q0 s0 (some (f, bl)) v0 v1) : ∃ na A, v1 = .pointer (some ⟨na, 0, none⟩) ∧ R.ao = .pointer (some ⟨na, 0, none⟩) ∧ W.heap.size ≤ na ∧ Held w own gr na A bl ∧ A.out = true ∧ A.who = 1 ∧ A.st = stg f ∧ A.ok = false ∧ A.mark = 0 ∧ ∀ nb, R.ai = .pointer (some ⟨nb, 0, none⟩) → nb ≠ na := by
  obtain ⟨na, A, e1, e2, e3, e4, e5, e6, e7, e8, e9⟩ := h.x1
  refine ⟨na, A, e1, e2, e3, e4, e5, e6, e7, e8, e9, fun nb e => ?_⟩
  have hx := h.x0
  unfold AtEnd at hx
  rcases s0 with _ | ⟨f', b'⟩
  · rcases hx.2 with g | ⟨nc, A2, g1, g2, g3, g4, g5, g6⟩
    · rw [e] at g; cases g
    · have := ptr_inj (e.symm.trans g1)
      subst this
      intro e0
      subst e0
      have h4 := blk_cell e4.act 4
      rw [blk_cell g2 4] at h4
      have h5 : A2.st = A.st := Option.some.inj h4
      rw [g3, e7] at h5
      cases h5
  · obtain ⟨nc, A2, g1, g2, g3, g4, g5, -⟩ := hx
    have := ptr_inj (e.symm.trans g2)
    subst this
    exact fun e0 => held_ne e4.act g4.act (by rw [e5, g5]; decide) e0.symm
end
end Go.Proofs.Ytlcnckbmolefpaa.P
end
