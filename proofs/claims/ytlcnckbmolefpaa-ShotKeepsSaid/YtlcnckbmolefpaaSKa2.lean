/- Walks and laws of several statements of this seat, joined into one text; no condition. -/
import Derived.Test.YtlcnckbmolefpaaProg
import Derived.Below
import Derived.Deep.Draws
import Derived.Deep.AppendLies
import Derived.Maps.AppendAt
import Derived.OwnWalk
import Derived.Laws.BytesArg
import Derived.Laws.MakeOwn
import Derived.Laws.OwnMore
import Derived.Deep.OwnRows
import Derived.Tactics
import Derived.Lib.ConvBytes
import Derived.Laws.Slices
import Derived.WalkKit
import Derived.KernelRfl
import Derived.RowKit3
import Derived.Deep.LoopGhost
import Derived.Deep.QuietTactic
import Derived.BigQuiet
import Derived.WideLaws
import Derived.Deep.DeepCutAuto
import Derived.Deep.CutBlock
import Derived.Deep.RegionHeld3
import Derived.Laws.Rows
import Derived.Lib.AppendStr
import Derived.ArgAppend
import Derived.Laws.IdiomCopy
import Derived.OrdersHeld
import Derived.Laws.BitsLemmas
import Derived.RowKit
import Derived.Laws.StructEq
import Derived.Maps.RangeWalk
import Derived.Maps.OwnRows
import Derived.Maps.Views
import Derived.Maps.OwnSet
import Derived.IntWalk
import Derived.Shelf.SlMaps.Clone
import Derived.Laws.CopyOwn
import Derived.Deep.RegionLaw
import Derived.LoopTactic
import Derived.Outline
import Derived.Lib.BufferMore
import Derived.Deep.CutRange
import Derived.Lib.Zigzag
import Derived.Laws.EntriesVeiled
import Derived.Test.YtlcnckbmolefpaaSKa0
import Derived.Test.YtlcnckbmolefpaaSKa1
section
namespace Go.Proofs.Ytlcnckbmolefpaa.P
open Go.RowKit Go.Maps Go.Proofs.Ytlcnckbmolefpaa.CK Go.Proofs.YtlcnckbmolefpaaW.PrintWords Go.Proofs.YtlcnckbmolefpaaW.PrintLast Go.Proofs.YtlcnckbmolefpaaW.PrintMore
attribute [local go_sem] max2_int min2_int max_two min_two
set_option linter.unusedVariables false
set_option linter.unusedSimpArgs false
set_option maxRecDepth 100000
theorem may_eq (n : Int) : mem_may.f n = some (decide (0 ≤ n) && decide (n ≤ 65536)) := by
  unfold mem_may.f
  by_cases h : n ≥ 0
  · rw [if_pos h, decide_eq_true (show 0 ≤ n from h)]; rfl
  · rw [if_neg h, decide_eq_false (show ¬ 0 ≤ n from h)]; rfl
def nAct (a b c : Nat) (x1 x3 x4 x6 x7 : Value) : Act := { tmps := #[.int .i64 a, .int .i64 b, .int .i64 c, undef, undef, undef, .pointer none, .int .i64 0, .int .i64 a, .bool true, .bool false, .bool false, .int .i64 b, .bool true, .bool false, .bool false, .bool false, .int .i64 c, .bool true, .bool false, .bool false, .int .i64 a, x1, .int .i64 b, x3, x4, .int .i64 c, x6, x7, undef, undef], defers := [] }
theorem at_of {α : Type} {f : Oper → α} {x : Option Oper} {o : Oper} {v : α} (h : x = some o) (e : x.map f = some v) : f o = v := by rw [h] at e; exact Option.some.inj e
theorem nop1 {o : Oper} (h : (opsOf Try.f30 3)[1]? = some o) : o.dst = some 22 ∧ o.op = .makeSlice 44 (.tmp 21) (.tmp 21) ∧ o.guard = none := ⟨at_of (f := fun o => o.dst) h (by kernel_rfl), at_of (f := fun o => o.op) h (by kernel_rfl), at_of (f := fun o => o.guard) h (by kernel_rfl)⟩
theorem nop3 {o : Oper} (h : (opsOf Try.f30 3)[3]? = some o) : o.dst = some 24 ∧ o.op = .makeSlice 135 (.tmp 23) (.tmp 23) ∧ o.guard = none := ⟨at_of (f := fun o => o.dst) h (by kernel_rfl), at_of (f := fun o => o.op) h (by kernel_rfl), at_of (f := fun o => o.guard) h (by kernel_rfl)⟩
theorem nop4 {o : Oper} (h : (opsOf Try.f30 3)[4]? = some o) : o.dst = some 25 ∧ o.op = .buildSlice 25 1 #[(0, .const (.int .i64 (-1)))] ∧ o.guard = none ∧ o.type = 25 := ⟨at_of (f := fun o => o.dst) h (by kernel_rfl), at_of (f := fun o => o.op) h (by kernel_rfl), at_of (f := fun o => o.guard) h (by kernel_rfl), at_of (f := fun o => o.type) h (by kernel_rfl)⟩
theorem nop6 {o : Oper} (h : (opsOf Try.f30 3)[6]? = some o) : o.dst = some 27 ∧ o.op = .call { callee := .value (.func 85), args := #[.tmp 25, .tmp 26], argTypes := #[25, 3] } ∧ o.guard = none := ⟨at_of (f := fun o => o.dst) h (by kernel_rfl), at_of (f := fun o => o.op) h (by kernel_rfl), at_of (f := fun o => o.guard) h (by kernel_rfl)⟩
theorem nop7 {o : Oper} (h : (opsOf Try.f30 3)[7]? = some o) : o.dst = some 28 ∧ o.op = .makeMap 125 none ∧ o.guard = none := ⟨at_of (f := fun o => o.dst) h (by kernel_rfl), at_of (f := fun o => o.op) h (by kernel_rfl), at_of (f := fun o => o.guard) h (by kernel_rfl)⟩
theorem info57 : (Try.prog.info? 57).map (fun i => (i.zero, i.size, i.bytes)) = some (some (.slice none 0 0), 1, 24) := by kernel_rfl
theorem new_ready : ∀ f1 f3 f4 f6 f7 : Bool, (f6 = true → f4 = true) → ¬ (f1 = true ∧ f3 = true ∧ f6 = true ∧ f7 = true) → Region.ready .any (opsOf Try.f30 3) #[true, f1, true, f3, f4, true, f6, f7, false, false, false, false] = (if f1 then [] else [1]) ++ ((if f3 then [] else [3]) ++ ((if f4 then [] else [4]) ++ ((if f4 && !f6 then [6] else []) ++ (if f7 then [] else [7])))) := by
  intro f1 f3 f4 f6 f7 h1 h2
  cases f1 <;> cases f3 <;> cases f4 <;> cases f6 <;> cases f7 <;> first | (simp at h1; done) | (simp at h2; done) | kernel_rfl
theorem newmem_ne : ∀ f1 f3 f4 f6 f7 : Bool, (f6 = true → f4 = true) → ¬ (f1 = true ∧ f3 = true ∧ f6 = true ∧ f7 = true) → ((if f1 then [] else [1]) ++ ((if f3 then [] else [3]) ++ ((if f4 then [] else [4]) ++ ((if f4 && !f6 then [6] else []) ++ (if f7 then [] else [7])))) : List Nat) ≠ [] := by decide
structure NewI (W w : World) (a b c : Nat) (f1 f3 f4 f6 f7 : Bool) (x1 x3 x4 x6 x7 : Value) : Prop where
  bel : Below W.heap.size W w
  p1 : f1 = true → Kd.R (Kd.int .u64) 29 w W.heap.size (fun _ => True) x1 (List.replicate a 0)
  p3 : f3 = true → Kd.R (Kd.slice 143 k143) 57 w W.heap.size (fun _ => True) x3 (List.replicate b [])
  p4 : f4 = true → Kd.R (Kd.int .i64) 3 w W.heap.size (fun _ => True) x4 [-1]
  p6 : f6 = true → Kd.R (Kd.int .i64) 3 w W.heap.size (fun _ => True) x6 (List.replicate c (-1))
  p7 : f7 = true → ∃ m, x7 = .map (some m) ∧ W.heap.size ≤ m ∧ BedR w m 0 (fun _ => none)
theorem BedR.below {w w' : World} {b n : Nat} {f : Int → Option Int} (h : BedR w b n f) (hb : Below w.heap.size w w') : BedR w' b n f := h.same (hb.block b h.lt)
theorem NewI.below {W w w' : World} {a b c : Nat} {f1 f3 f4 f6 f7 : Bool} {x1 x3 x4 x6 x7 : Value} (h : NewI W w a b c f1 f3 f4 f6 f7 x1 x3 x4 x6 x7) (hb : Below w.heap.size w w') : NewI W w' a b c f1 f3 f4 f6 f7 x1 x3 x4 x6 x7 :=
  ⟨below_step h.bel hb, fun e => Kd.R_below (h.p1 e) hb, fun e => Kd.R_below (h.p3 e) hb, fun e => Kd.R_below (h.p4 e) hb, fun e => Kd.R_below (h.p6 e) hb, fun e => by obtain ⟨m, e1, e2, e3⟩ := h.p7 e; exact ⟨m, e1, e2, e3.below hb⟩⟩
theorem wanted_none {o : Oper} {y : Nat → Option Bool} (h : o.guard = none) : Region.wanted o y = true := by simp [Region.wanted, h]
section
variable {W w : World} {a b c : Nat} {f1 f3 f4 f6 f7 : Bool} {x1 x3 x4 x6 x7 : Value} {Q : Exit → Act → World → Prop} {K : Act → World → Prop}
theorem new1 {o : Oper} (no : (opsOf Try.f30 3)[1]? = some o) (ha : a ≤ 65536) (h : NewI W w a b c f1 f3 f4 f6 f7 x1 x3 x4 x6 x7) (hK : ∀ y w', NewI W w' a b c true f3 f4 f6 f7 y x3 x4 x6 x7 → K (nAct a b c y x3 x4 x6 x7) w') :
    if Region.wanted o (yielded (opsOf Try.f30 3) (nAct a b c x1 x3 x4 x6 x7).tmps) = true then Oper.wp Try.prog o (nAct a b c x1 x3 x4 x6 x7) w K Q else K ((nAct a b c x1 x3 x4 x6 x7).put o.dst undef) w := by
  refine Kd.R_make_step (Kd.int .u64) (w0 := w) w.heap.size 29 (wanted_none (nop1 no).2.2) (nop1 no).1 44 (.tmp 21) (.tmp 21) (nop1 no).2.1 (a : Int) rfl rfl Try.underlying44 (.int .u64 0) 8 info29 rfl (by decide) (by omega) 0 (ok := fun _ => True) (okp := fun _ => True) rfl (fun _ h => h) trivial (by omega) (by omega) (Below.refl _ _) (Nat.le_refl _) ?_
  intro v1 w1 hr hb _ _
  rw [(nop1 no).1]
  have h2 := h.below hb
  rw [Int.toNat_natCast] at hr
  exact hK v1 w1 ⟨h2.bel, fun _ => Kd.R_lower hr (below_size h.bel), h2.p3, h2.p4, h2.p6, h2.p7⟩
theorem new3 {o : Oper} (no : (opsOf Try.f30 3)[3]? = some o) (hb0 : b ≤ 65536) (h : NewI W w a b c f1 f3 f4 f6 f7 x1 x3 x4 x6 x7) (hK : ∀ y w', NewI W w' a b c f1 true f4 f6 f7 x1 y x4 x6 x7 → K (nAct a b c x1 y x4 x6 x7) w') :
    if Region.wanted o (yielded (opsOf Try.f30 3) (nAct a b c x1 x3 x4 x6 x7).tmps) = true then Oper.wp Try.prog o (nAct a b c x1 x3 x4 x6 x7) w K Q else K ((nAct a b c x1 x3 x4 x6 x7).put o.dst undef) w := by
  refine Kd.R_make_step (Kd.slice 143 k143) (w0 := w) w.heap.size 57 (wanted_none (nop3 no).2.2) (nop3 no).1 135 (.tmp 23) (.tmp 23) (nop3 no).2.1 (b : Int) rfl rfl Try.underlying135 (.slice none 0 0) 24 info57 rfl (by decide) (by omega) ([] : List S143) (ok := fun _ => True) (okp := fun _ => True) ⟨_, rfl, Kd.R_nil _ _ _ _ _⟩ (fun _ h => h) trivial (by omega) (by omega) (Below.refl _ _) (Nat.le_refl _) ?_
  intro v1 w1 hr hb _ _
  rw [(nop3 no).1]
  have h2 := h.below hb
  rw [Int.toNat_natCast] at hr
  exact hK v1 w1 ⟨h2.bel, h2.p1, fun _ => Kd.R_lower hr (below_size h.bel), h2.p4, h2.p6, h2.p7⟩
theorem new4 {o : Oper} (no : (opsOf Try.f30 3)[4]? = some o) (h : NewI W w a b c f1 f3 f4 f6 f7 x1 x3 x4 x6 x7) (hK : ∀ y w', NewI W w' a b c f1 f3 true f6 f7 x1 x3 y x6 x7 → K (nAct a b c x1 x3 y x6 x7) w') :
    if Region.wanted o (yielded (opsOf Try.f30 3) (nAct a b c x1 x3 x4 x6 x7).tmps) = true then Oper.wp Try.prog o (nAct a b c x1 x3 x4 x6 x7) w K Q else K ((nAct a b c x1 x3 x4 x6 x7).put o.dst undef) w := by
  have hrun : (execOp (nAct a b c x1 x3 x4 x6 x7).eval o).run Try.prog w = .ok (.value (.slice (some ⟨w.heap.size, 0, none⟩) 1 1)) (w.alloc (.cells #[.int .i64 (-1)] 3)) := by
    unfold execOp
    rw [(nop4 no).2.1, (nop4 no).2.2.2]
    go_simp
    try rfl
  refine Kd.R_lit_step (Kd.int .i64) (w0 := w) w.heap.size 3 (wanted_none (nop4 no).2.2.1) (nop4 no).1 (xs := [(-1 : Int)]) (inner := [.int .i64 (-1)]) (ok := fun _ => True) (okp := fun _ => True) hrun (Kd.reps_scalar (enc := fun x : Int => Value.int .i64 x) [(-1 : Int)]) (fun _ h => h) trivial (Below.refl _ _) (Nat.le_refl _) (by simp) ?_
  intro v1 w1 hr hb _ _
  rw [(nop4 no).1]
  have h2 := h.below hb
  exact hK v1 w1 ⟨h2.bel, h2.p1, h2.p3, fun _ => Kd.R_lower hr (below_size h.bel), h2.p6, h2.p7⟩
theorem new6 {o : Oper} (no : (opsOf Try.f30 3)[6]? = some o) (hc : c ≤ 65536) (h : NewI W w a b c f1 f3 true f6 f7 x1 x3 x4 x6 x7) (hK : ∀ y w', NewI W w' a b c f1 f3 true true f7 x1 x3 x4 y x7 → K (nAct a b c x1 x3 x4 y x7) w') :
    if Region.wanted o (yielded (opsOf Try.f30 3) (nAct a b c x1 x3 x4 x6 x7).tmps) = true then Oper.wp Try.prog o (nAct a b c x1 x3 x4 x6 x7) w K Q else K ((nAct a b c x1 x3 x4 x6 x7).put o.dst undef) w := by
  have h4 := h.p4 rfl
  obtain ⟨A, n, cc, rfl⟩ := R_any h4
  obtain ⟨e1, e2, e3⟩ := Kd.R_reads' h4
  subst e1
  rw [(nop6 no).1]
  refine goes_ Try.func85 (by kernel_rfl) rfl #[.slice A ([-1] : List Int).length cc, .int .i64 c] (wanted_none (nop6 no).2.2) (nop6 no).1 (nop6 no).2.1 (by simp only [List.map_toArray, List.map_cons, List.map_nil]; rfl) ?_
  have hf : slices_Repeat.f [-1] (c : Int) = some (List.replicate c (-1)) := by
    unfold slices_Repeat.f
    rw [if_pos ⟨rfl, by omega, by omega⟩]; rfl
  refine (slices_Repeat.calls A cc [-1] c _ w e3 e2 hf).mono ?_
  rintro e w1 ⟨v1, rfl, hr, hb⟩
  have h2 := h.below hb
  exact ⟨v1, rfl, hK v1 w1 ⟨h2.bel, h2.p1, h2.p3, h2.p4, fun _ => Kd.R_lower hr (below_size h.bel), h2.p7⟩⟩
theorem new7 {o : Oper} (no : (opsOf Try.f30 3)[7]? = some o) (h : NewI W w a b c f1 f3 f4 f6 f7 x1 x3 x4 x6 x7) (hK : ∀ y w', NewI W w' a b c f1 f3 f4 f6 true x1 x3 x4 x6 y → K (nAct a b c x1 x3 x4 x6 y) w') :
    if Region.wanted o (yielded (opsOf Try.f30 3) (nAct a b c x1 x3 x4 x6 x7).tmps) = true then Oper.wp Try.prog o (nAct a b c x1 x3 x4 x6 x7) w K Q else K ((nAct a b c x1 x3 x4 x6 x7).put o.dst undef) w := by
  have hrun : (execOp (nAct a b c x1 x3 x4 x6 x7).eval o).run Try.prog w = .ok (.value (.map (some w.heap.size))) (w.alloc (.map #[] 0)) := by
    unfold execOp
    rw [(nop7 no).2.1]
    simp [run_makeMap, Result.andThen]
  have hb := below_alloc (Below.refl w.heap.size w) (.map #[] 0)
  have h2 := h.below hb
  exact event_step (wanted_none (nop7 no).2.2) hrun (by rw [(nop7 no).1]; exact hK _ _ ⟨h2.bel, h2.p1, h2.p3, h2.p4, h2.p6, fun _ => ⟨_, rfl, below_size h.bel, BedR.made w⟩⟩)
theorem new_all (ha : a ≤ 65536) (hb : b ≤ 65536) (hc : c ≤ 65536) (hE : ∀ x1 x3 x4 x6 x7 w, NewI W w a b c true true true true true x1 x3 x4 x6 x7 → wpAnyLast Try.prog .any (opsOf Try.f30 3) Q (fun _ => True) [] 4 #[true, true, true, true, true, true, true, true, false, false, false, false] (nAct a b c x1 x3 x4 x6 x7) w) :
    ∀ (n : Nat) (f1 f3 f4 f6 f7 : Bool) (x1 x3 x4 x6 x7 : Value) (w : World), (f6 = true → f4 = true) → (if f1 then 0 else 1) + ((if f3 then 0 else 1) + ((if f4 then 0 else 1) + ((if f6 then 0 else 1) + (if f7 then 0 else 1)))) = n → NewI W w a b c f1 f3 f4 f6 f7 x1 x3 x4 x6 x7 →
      wpAnyLast Try.prog .any (opsOf Try.f30 3) Q (fun _ => True) [] (n + 4) #[true, f1, true, f3, f4, true, f6, f7, false, false, false, false] (nAct a b c x1 x3 x4 x6 x7) w := by
  intro n
  induction n with
  | zero =>
    intro f1 f3 f4 f6 f7 x1 x3 x4 x6 x7 w h64 hn hI
    cases f1 <;> cases f3 <;> cases f4 <;> cases f6 <;> cases f7 <;> first | exact hE _ _ _ _ _ _ hI | (simp at hn; done)
  | succ n ih =>
    intro f1 f3 f4 f6 f7 x1 x3 x4 x6 x7 w h64 hn hI
    have hnot : ¬ (f1 = true ∧ f3 = true ∧ f6 = true ∧ f7 = true) := by
      rintro ⟨rfl, rfl, rfl, rfl⟩
      rw [h64 rfl] at hn
      simp at hn
    have hr := new_ready f1 f3 f4 f6 f7 h64 hnot
    show wpAnyLast _ _ _ _ _ _ ((n + 4) + 1) _ _ _
    refine ⟨fun h0 => absurd (hr.symm.trans h0) (newmem_ne f1 f3 f4 f6 f7 h64 hnot), fun i hi => ?_⟩
    · rw [hr] at hi
      have e1 : ∀ i, i < 12 → ∃ o, (opsOf Try.f30 3)[i]? = some o := fun i h => ⟨_, Array.getElem?_eq_getElem (by rw [show (opsOf Try.f30 3).size = 12 by kernel_rfl]; exact h)⟩
      rcases List.mem_append.1 hi with hi | hi
      · cases f1
        · obtain rfl : i = 1 := by simpa using hi
          obtain ⟨o, no⟩ := e1 1 (by omega)
          refine wpOp_step no fun K hK => new1 no ha hI fun y w' h' => hK _ _ ⟨fun _ _ => trivial, ?_⟩
          exact ih true f3 f4 f6 f7 y x3 x4 x6 x7 w' h64 (by simp at hn ⊢; omega) h'
        · simp at hi
      · rcases List.mem_append.1 hi with hi | hi
        · cases f3
          · obtain rfl : i = 3 := by simpa using hi
            obtain ⟨o, no⟩ := e1 3 (by omega)
            refine wpOp_step no fun K hK => new3 no hb hI fun y w' h' => hK _ _ ⟨fun _ _ => trivial, ?_⟩
            exact ih f1 true f4 f6 f7 x1 y x4 x6 x7 w' h64 (by simp at hn ⊢; omega) h'
          · simp at hi
        · rcases List.mem_append.1 hi with hi | hi
          · cases f4
            · obtain rfl : i = 4 := by simpa using hi
              obtain ⟨o, no⟩ := e1 4 (by omega)
              refine wpOp_step no fun K hK => new4 no hI fun y w' h' => hK _ _ ⟨fun _ _ => trivial, ?_⟩
              exact ih f1 f3 true f6 f7 x1 x3 y x6 x7 w' (fun _ => rfl) (by simp at hn ⊢; omega) h'
            · simp at hi
          · rcases List.mem_append.1 hi with hi | hi
            · cases f4
              · simp at hi
              · cases f6
                · obtain rfl : i = 6 := by simpa using hi
                  obtain ⟨o, no⟩ := e1 6 (by omega)
                  refine wpOp_step no fun K hK => new6 no hc hI fun y w' h' => hK _ _ ⟨fun _ _ => trivial, ?_⟩
                  exact ih f1 f3 true true f7 x1 x3 x4 y x7 w' (fun _ => rfl) (by simp at hn ⊢; omega) h'
                · simp at hi
            · cases f7
              · obtain rfl : i = 7 := by simpa using hi
                obtain ⟨o, no⟩ := e1 7 (by omega)
                refine wpOp_step no fun K hK => new7 no hI fun y w' h' => hK _ _ ⟨fun _ _ => trivial, ?_⟩
                exact ih f1 f3 f4 f6 true x1 x3 x4 x6 y w' h64 (by simp at hn ⊢; omega) h'
              · simp at hi
def nActE (a b c : Nat) (x1 x3 x4 x6 x7 t6 t7 x29 x30 : Value) : Act := { tmps := #[.int .i64 a, .int .i64 b, .int .i64 c, undef, undef, undef, t6, t7, .int .i64 a, .bool true, .bool false, .bool false, .int .i64 b, .bool true, .bool false, .bool false, .bool false, .int .i64 c, .bool true, .bool false, .bool false, .int .i64 a, x1, .int .i64 b, x3, x4, .int .i64 c, x6, x7, x29, x30], defers := [] }
theorem nop8 {o : Oper} (h : (opsOf Try.f30 3)[8]? = some o) : o.dst = some 29 ∧ o.op = .build 137 #[(0, .tmp 22), (1, .tmp 24), (2, .tmp 27), (3, .tmp 28), (4, .const (.slice none 0 0))] ∧ o.guard = none ∧ o.type = 137 := ⟨at_of (f := fun o => o.dst) h (by kernel_rfl), at_of (f := fun o => o.op) h (by kernel_rfl), at_of (f := fun o => o.guard) h (by kernel_rfl), at_of (f := fun o => o.type) h (by kernel_rfl)⟩
theorem nop9 {o : Oper} (h : (opsOf Try.f30 3)[9]? = some o) : o.dst = some 30 ∧ o.op = .box 137 (.tmp 29) ∧ o.guard = none ∧ o.type = 46 := ⟨at_of (f := fun o => o.dst) h (by kernel_rfl), at_of (f := fun o => o.op) h (by kernel_rfl), at_of (f := fun o => o.guard) h (by kernel_rfl), at_of (f := fun o => o.type) h (by kernel_rfl)⟩
theorem nop10 {o : Oper} (h : (opsOf Try.f30 3)[10]? = some o) : o.dst = some 6 ∧ o.op = .assign (.tmp 30) ∧ o.guard = none ∧ o.type = 46 := ⟨at_of (f := fun o => o.dst) h (by kernel_rfl), at_of (f := fun o => o.op) h (by kernel_rfl), at_of (f := fun o => o.guard) h (by kernel_rfl), at_of (f := fun o => o.type) h (by kernel_rfl)⟩
theorem nop11 {o : Oper} (h : (opsOf Try.f30 3)[11]? = some o) : o.dst = some 7 ∧ o.op = .assign (.const (.int .i64 0)) ∧ o.guard = none ∧ o.type = 47 := ⟨at_of (f := fun o => o.dst) h (by kernel_rfl), at_of (f := fun o => o.op) h (by kernel_rfl), at_of (f := fun o => o.guard) h (by kernel_rfl), at_of (f := fun o => o.type) h (by kernel_rfl)⟩
theorem new_op (i : Nat) (h : i < 12) : ∃ o, (opsOf Try.f30 3)[i]? = some o := ⟨_, Array.getElem?_eq_getElem (by rw [show (opsOf Try.f30 3).size = 12 by kernel_rfl]; exact h)⟩
theorem new_one {n i : Nat} {l l' : Array Bool} {o : Oper} {act : Act} {v : Value} {w w1 : World} (hr : Region.ready .any (opsOf Try.f30 3) l = [i]) (hl : l.setIfInBounds i true = l') (no : (opsOf Try.f30 3)[i]? = some o) (hg : o.guard = none) (hrun : (execOp act.eval o).run Try.prog w = .ok (.value v) w1) {act' : Act} (ha : act.put o.dst v = act')
    (h : wpAnyLast Try.prog .any (opsOf Try.f30 3) Q (fun _ => True) [] n l' act' w1) : wpAnyLast Try.prog .any (opsOf Try.f30 3) Q (fun _ => True) [] (n + 1) l act w := by
  subst hl
  subst ha
  refine ⟨fun h0 => (by rw [hr] at h0; cases h0), fun j hj => ?_⟩
  rw [hr] at hj
  obtain rfl : j = i := by simpa using hj
  exact wpOp_step no fun K hK => event_step (wanted_none hg) hrun (hK _ _ ⟨fun _ _ => trivial, h⟩)
theorem new_end (hI : NewI W w a b c true true true true true x1 x3 x4 x6 x7) (hQ : ∀ x29 x30 g w', MemR w' W.heap.size (fun k => W.heap.size ≤ k) g ⟨List.replicate a 0, List.replicate b [], List.replicate c (-1), fun _ => none, 0, []⟩ → Below W.heap.size W w' → Q .normal (nActE a b c x1 x3 x4 x6 x7 (.pointer (some ⟨g, 0, none⟩)) (.int .i64 0) x29 x30) w') :
    wpAnyLast Try.prog .any (opsOf Try.f30 3) Q (fun _ => True) [] 4 #[true, true, true, true, true, true, true, true, false, false, false, false] (nAct a b c x1 x3 x4 x6 x7) w := by
  obtain ⟨A1, n1, c1, e1⟩ := R_any (hI.p1 rfl)
  obtain ⟨A3, n3, c3, e3⟩ := R_any (hI.p3 rfl)
  obtain ⟨A6, n6, c6, e6⟩ := R_any (hI.p6 rfl)
  obtain ⟨m, e7, hm1, hm2⟩ := hI.p7 rfl
  subst e1 e3 e6 e7
  obtain ⟨o8, no8⟩ := new_op 8 (by omega)
  obtain ⟨o9, no9⟩ := new_op 9 (by omega)
  obtain ⟨o10, no10⟩ := new_op 10 (by omega)
  obtain ⟨o11, no11⟩ := new_op 11 (by omega)
  refine new_one (i := 8) (l' := #[true, true, true, true, true, true, true, true, true, false, false, false]) (v := .agg #[.slice A1 n1 c1, .slice A3 n3 c3, .slice A6 n6 c6, .map (some m), .slice none 0 0]) (w1 := w) (by kernel_rfl) (by kernel_rfl) no8 (nop8 no8).2.2.1 (by unfold execOp; rw [(nop8 no8).2.1]; simp only [nAct]; go_simp) (act' := nActE a b c (.slice A1 n1 c1) (.slice A3 n3 c3) x4 (.slice A6 n6 c6) (.map (some m)) (.pointer none) (.int .i64 0) (.agg #[.slice A1 n1 c1, .slice A3 n3 c3, .slice A6 n6 c6, .map (some m), .slice none 0 0]) undef) (by rw [(nop8 no8).1]; rfl) ?_
  refine new_one (i := 9) (l' := #[true, true, true, true, true, true, true, true, true, true, false, false]) (v := .pointer (some ⟨w.heap.size, 0, none⟩)) (w1 := w.alloc (.cells #[.slice A1 n1 c1, .slice A3 n3 c3, .slice A6 n6 c6, .map (some m), .slice none 0 0] 137)) (by kernel_rfl) (by kernel_rfl) no9 (nop9 no9).2.2.1 (by unfold execOp; rw [(nop9 no9).2.1]; simp only [nActE]; go_simp) (act' := nActE a b c (.slice A1 n1 c1) (.slice A3 n3 c3) x4 (.slice A6 n6 c6) (.map (some m)) (.pointer none) (.int .i64 0) (.agg #[.slice A1 n1 c1, .slice A3 n3 c3, .slice A6 n6 c6, .map (some m), .slice none 0 0]) (.pointer (some ⟨w.heap.size, 0, none⟩))) (by rw [(nop9 no9).1]; rfl) ?_
  refine new_one (i := 10) (l' := #[true, true, true, true, true, true, true, true, true, true, true, false]) (v := .pointer (some ⟨w.heap.size, 0, none⟩)) (w1 := w.alloc (.cells #[.slice A1 n1 c1, .slice A3 n3 c3, .slice A6 n6 c6, .map (some m), .slice none 0 0] 137)) (by kernel_rfl) (by kernel_rfl) no10 (nop10 no10).2.2.1 (by unfold execOp; rw [(nop10 no10).2.1]; simp only [nActE]; go_simp) (act' := nActE a b c (.slice A1 n1 c1) (.slice A3 n3 c3) x4 (.slice A6 n6 c6) (.map (some m)) (.pointer (some ⟨w.heap.size, 0, none⟩)) (.int .i64 0) (.agg #[.slice A1 n1 c1, .slice A3 n3 c3, .slice A6 n6 c6, .map (some m), .slice none 0 0]) (.pointer (some ⟨w.heap.size, 0, none⟩))) (by rw [(nop10 no10).1]; rfl) ?_
  refine new_one (i := 11) (l' := #[true, true, true, true, true, true, true, true, true, true, true, true]) (v := .int .i64 0) (w1 := w.alloc (.cells #[.slice A1 n1 c1, .slice A3 n3 c3, .slice A6 n6 c6, .map (some m), .slice none 0 0] 137)) (by kernel_rfl) (by kernel_rfl) no11 (nop11 no11).2.2.1 (by unfold execOp; rw [(nop11 no11).2.1]; simp only [nActE]; go_simp) (act' := nActE a b c (.slice A1 n1 c1) (.slice A3 n3 c3) x4 (.slice A6 n6 c6) (.map (some m)) (.pointer (some ⟨w.heap.size, 0, none⟩)) (.int .i64 0) (.agg #[.slice A1 n1 c1, .slice A3 n3 c3, .slice A6 n6 c6, .map (some m), .slice none 0 0]) (.pointer (some ⟨w.heap.size, 0, none⟩))) (by rw [(nop11 no11).1]; rfl) ?_
  have hb := below_alloc (Below.refl w.heap.size w) (.cells #[.slice A1 n1 c1, .slice A3 n3 c3, .slice A6 n6 c6, .map (some m), .slice none 0 0] 137)
  have h2 := hI.below hb
  obtain ⟨m', e7, hm3, hm4⟩ := h2.p7 rfl
  obtain rfl : m = m' := by injection e7 with e7; injection e7
  have hs := hI.bel.size
  refine ⟨by kernel_rfl, hQ _ _ w.heap.size _ ⟨m, _, _, _, _, ⟨blk_new _ _, hs, hs, ?_, ?_, ?_, Kd.R_nil _ _ _ _ _, hm1, hm1, hm4⟩⟩ h2.bel⟩
  · exact Kd.R_mono (Kd.R_bound (h2.p1 rfl)) (fun k hk => hk.2.1)
  · exact Kd.R_mono (Kd.R_bound (h2.p3 rfl)) (fun k hk => hk.2.1)
  · exact Kd.R_mono (Kd.R_bound (h2.p6 rfl)) (fun k hk => hk.2.1)
end
theorem New_ok (a b c : Nat) (ha : a ≤ 65536) (hb : b ≤ 65536) (hc : c ≤ 65536) (W : World) :
    Calls Try.prog 30 #[.int .i64 a, .int .i64 b, .int .i64 c] W fun e w' => ∃ g, e = .returned (.tuple #[.pointer (some ⟨g, 0, none⟩), .int .i64 0]) ∧ MemR w' W.heap.size (fun k => W.heap.size ≤ k) g ⟨List.replicate a 0, List.replicate b [], List.replicate c (-1), fun _ => none, 0, []⟩ ∧ Below W.heap.size W w' := by
  have A0 := Aside0.mk (show mem_may.f a = some true by rw [may_eq, decide_eq_true (show (0 : Int) ≤ a by omega), decide_eq_true (show (a : Int) ≤ 65536 by omega)]; rfl)
  have B0 := Aside0.mk (show mem_may.f b = some true by rw [may_eq, decide_eq_true (show (0 : Int) ≤ b by omega), decide_eq_true (show (b : Int) ≤ 65536 by omega)]; rfl)
  have C0 := Aside0.mk (show mem_may.f c = some true by rw [may_eq, decide_eq_true (show (0 : Int) ≤ c by omega), decide_eq_true (show (c : Int) ≤ 65536 by omega)]; rfl)
  have HA := Aside0.mk (show _ ∧ _ ∧ _ from ⟨ha, hb, hc⟩)
  clear ha hb hc
  go_enter Try.func30, Try.ntmps30
  go_wp2_with (first | (go_at_call 84; (with_reducible refine (mem_may.calls a true _ A0.out).mono ?_); rintro e w1 ⟨rfl, ⟨nd, rfl⟩⟩) | (go_at_call 84; (with_reducible refine (mem_may.calls b true _ B0.out).mono ?_); rintro e w1 ⟨rfl, ⟨nd, rfl⟩⟩) | (go_at_call 84; (with_reducible refine (mem_may.calls c true _ C0.out).mono ?_); rintro e w1 ⟨rfl, ⟨nd, rfl⟩⟩))
  refine start_ (n := 12) (S := fun _ => True) (ds := []) #[false, false, false, false, false, false, false, false, false, false, false, false] (by kernel_rfl) rfl rfl trivial (fun hHeld => ?_)
  refine pure_ (i := 0) (N := some 21) (v := ?_) (a' := ?_) #[true, false, false, false, false, false, false, false, false, false, false, false] rfl rfl (by kernel_rfl) (fun _ _ _ h => h) (Or.inl ⟨by rfl, ?_⟩) ?_ ?_
  rotate_left
  · intro w'
    go_simp
    with_reducible rfl
  rotate_left
  · simp only [Act.put, List.setIfInBounds_toArray, List.set_cons_zero, List.set_cons_succ]
    rfl
  refine pure_ (i := 2) (N := some 23) (v := ?_) (a' := ?_) #[true, false, true, false, false, false, false, false, false, false, false, false] rfl rfl (by kernel_rfl) (fun _ _ _ h => h) (Or.inl ⟨by rfl, ?_⟩) ?_ ?_
  rotate_left
  · intro w'
    go_simp
    with_reducible rfl
  rotate_left
  · simp only [Act.put, List.setIfInBounds_toArray, List.set_cons_zero, List.set_cons_succ]
    rfl
  refine pure_ (i := 5) (N := some 26) (v := ?_) (a' := ?_) #[true, false, true, false, false, true, false, false, false, false, false, false] rfl rfl (by kernel_rfl) (fun _ _ _ h => h) (Or.inl ⟨by rfl, ?_⟩) ?_ ?_
  rotate_left
  · intro w'
    go_simp
    with_reducible rfl
  rotate_left
  · simp only [Act.put, List.setIfInBounds_toArray, List.set_cons_zero, List.set_cons_succ]
    rfl
  refine new_all (W := W) (Q := _) HA.out.1 HA.out.2.1 HA.out.2.2 (fun x1 x3 x4 x6 x7 w hI => new_end hI ?_) 5 false false false false false undef undef undef undef undef _ (by simp) rfl ⟨below_drew1 (pw_below_drewN (Below.refl _ _) _), by simp, by simp, by simp, by simp, by simp⟩
  intro x29 x30 g w' hm hb
  have HM := Aside0.mk hm
  have HB := Aside0.mk hb
  clear hm hb hI
  simp only [nActE]
  go_wp2
  go_ret2
  exact ⟨g, rfl, HM.out, HB.out⟩
set_option maxRecDepth 100000
def MemC (w : World) (B : Nat) (own : Nat → Prop) (g : Nat) (M : MS) : Prop := MemR w B own g M ∧ ∀ k, own k → k < w.heap.size
def MemNext (w w' : World) (B : Nat) (own : Nat → Prop) (g : Nat) (M : MS) : Prop := (∃ own', MemC w' B own' g M ∧ ∀ k, own' k → own k ∨ w.heap.size ≤ k) ∧ Kept w w' own ∧ Below B w w'
theorem MemC.grown {w : World} {B : Nat} {own : Nat → Prop} {g : Nat} {M : MS} (h : MemC w B own g M) : ∃ bm vw vb vl vo, MemV w B (fun k => own k ∨ w.heap.size ≤ k) g bm vw vb vl vo M := by
  obtain ⟨bm, vw, vb, vl, vo, h⟩ := h.1
  exact ⟨bm, vw, vb, vl, vo, h.mono (fun k hk => .inl hk)⟩
theorem MemTo.next {w w' : World} {B : Nat} {own : Nat → Prop} {g bm : Nat} {vw vb vl : Value} {M : MS} (h : MemTo w w' B (fun k => own k ∨ w.heap.size ≤ k) g bm vw vb vl M) : MemNext w w' B own g M := by
  obtain ⟨vo, hm, hk, hb⟩ := h
  exact ⟨⟨_, ⟨⟨_, _, _, _, _, hm.bound⟩, fun k hk => hk.2⟩, fun k hk => hk.1⟩, ⟨hk.1, fun i hi hn => hk.2 i hi (fun hs => hs.elim hn (fun h => by omega))⟩, hb⟩
theorem MemC.below {w w' : World} {B : Nat} {own : Nat → Prop} {g : Nat} {M : MS} (h : MemC w B own g M) (hb : Below w.heap.size w w') : MemC w' B own g M := ⟨h.1.below hb, fun k hk => Nat.lt_of_lt_of_le (h.2 k hk) hb.size⟩
theorem MemC.kept {w w' : World} {B : Nat} {own S : Nat → Prop} {g : Nat} {M : MS} (h : MemC w B own g M) (hk : Kept w w' S) (hne : ∀ k, own k → ¬ S k) : MemC w' B own g M := ⟨h.1.kept hk hne, fun k ho => Nat.lt_of_lt_of_le (h.2 k ho) hk.1⟩
theorem MemC.size {w : World} {B : Nat} {own : Nat → Prop} {g : Nat} {M : MS} (h : MemC w B own g M) : B ≤ w.heap.size := by
  obtain ⟨bm, vw, vb, vl, vo, h⟩ := h.1
  exact Nat.le_trans h.bg (Nat.le_of_lt (blk_lt h.hg))
theorem New_C (a b c : Nat) (ha : a ≤ 65536) (hb : b ≤ 65536) (hc : c ≤ 65536) (W : World) :
    Calls Try.prog 30 #[.int .i64 a, .int .i64 b, .int .i64 c] W fun e w' => ∃ g own, e = .returned (.tuple #[.pointer (some ⟨g, 0, none⟩), .int .i64 0]) ∧ MemC w' W.heap.size own g ⟨List.replicate a 0, List.replicate b [], List.replicate c (-1), fun _ => none, 0, []⟩ ∧ (∀ k, own k → W.heap.size ≤ k) ∧ Below W.heap.size W w' := by
  refine (New_ok a b c ha hb hc W).mono ?_
  rintro e w' ⟨g, rfl, ⟨bm, vw, vb, vl, vo, hm⟩, hb⟩
  exact ⟨g, _, rfl, ⟨⟨_, _, _, _, _, hm.bound⟩, fun k hk => hk.2⟩, fun k hk => hk.1, hb⟩
section
variable {w : World} {B : Nat} {own : Nat → Prop} {g : Nat} {M : MS}
theorem Asleep_C (who : Int) (hwho : (Lit.int .i64 who).wf = true) (h : MemC w B own g M) : Calls Try.prog 44 #[.pointer (some ⟨g, 0, none⟩), .int .i64 who] w fun e w' => e = .returned (.bool (M.beds who).isSome) ∧ w' = w := by
  obtain ⟨bm, vw, vb, vl, vo, h⟩ := h.1
  exact Asleep_V who hwho w h
theorem Time_C (h : MemC w B own g M) : Calls Try.prog 43 #[.pointer (some ⟨g, 0, none⟩)] w fun e w' => e = .returned (.int .i64 (M.log.length : Int)) ∧ w' = w := by
  obtain ⟨bm, vw, vb, vl, vo, h⟩ := h.1
  exact Time_V w h
theorem Take_C (who at_ : Int) (hwho : (Lit.int .i64 who).wf = true) (h : MemC w B own g M) (hlog : M.log.length ≤ 1000000) : Calls Try.prog 49 #[.pointer (some ⟨g, 0, none⟩), .int .i64 who, .int .i64 at_] w fun e w' => e = .returned (.bool (M.passB who at_ (-1))) ∧ MemNext w w' B own g (M.pass who 4 at_ (-1) who) := by
  obtain ⟨bm, vw, vb, vl, vo, h⟩ := h.grown
  refine (Take_V who at_ hwho w h (fun k hk => .inr hk) hlog).mono ?_
  rintro e w' ⟨rfl, hm⟩
  exact ⟨rfl, hm.next⟩
theorem Free_C (who at_ : Int) (hwho : (Lit.int .i64 who).wf = true) (h : MemC w B own g M) (hlog : M.log.length ≤ 1000000) : Calls Try.prog 50 #[.pointer (some ⟨g, 0, none⟩), .int .i64 who, .int .i64 at_] w fun e w' => e = .returned (.bool (M.passB who at_ who)) ∧ MemNext w w' B own g (M.pass who 5 at_ who (-1)) := by
  obtain ⟨bm, vw, vb, vl, vo, h⟩ := h.grown
  refine (Free_V who at_ hwho w h (fun k hk => .inr hk) hlog).mono ?_
  rintro e w' ⟨rfl, hm⟩
  exact ⟨rfl, hm.next⟩
theorem Store_C (who at_ : Int) (v : Int) (hwho : (Lit.int .i64 who).wf = true) (h : MemC w B own g M) (hlog : M.log.length ≤ 1000000) : Calls Try.prog 32 #[.pointer (some ⟨g, 0, none⟩), .int .i64 who, .int .i64 at_, .int .u64 v] w fun e w' => e = .returned (.tuple #[]) ∧ MemNext w w' B own g (M.store who at_ v) := by
  obtain ⟨bm, vw, vb, vl, vo, h⟩ := h.grown
  refine (Store_V who at_ v hwho w h (fun k hk => .inr hk) hlog).mono ?_
  rintro e w' ⟨rfl, hm⟩
  exact ⟨rfl, hm.next⟩
theorem Load_C (who at_ : Int) (hwho : (Lit.int .i64 who).wf = true) (h : MemC w B own g M) (hlog : M.log.length ≤ 1000000) : Calls Try.prog 36 #[.pointer (some ⟨g, 0, none⟩), .int .i64 who, .int .i64 at_] w fun e w' => e = .returned (.int .u64 (M.load who at_)) ∧ MemNext w w' B own g (M.loadTo who at_) := by
  obtain ⟨bm, vw, vb, vl, vo, h⟩ := h.grown
  refine (Load_V who at_ hwho w h (fun k hk => .inr hk) hlog).mono ?_
  rintro e w' ⟨rfl, hm⟩
  exact ⟨rfl, hm.next⟩
end
set_option maxRecDepth 100000
structure RC where
  gm : Nat
  box : Int
  size : Int
  wi : Int
  ci : Int
  ai : Value
  wo : Int
  co : Int
  ao : Value
def RC.cells (R : RC) : Array Value := #[.pointer (some ⟨R.gm, 0, none⟩), .int .i64 R.box, .int .i64 R.size, .int .i64 R.wi, .int .u64 R.ci, R.ai, .int .i64 R.wo, .int .u64 R.co, R.ao]
structure AC where
  who : Int
  out : Bool
  st : Value
  b : Value
  ok : Bool
  mark : Int
def AC.own (A : AC) : Nat := if A.out then 6 else 3
def AC.far (A : AC) : Nat := if A.out then 3 else 6
def AC.cells (A : AC) (gr : Nat) : Array Value := #[.pointer (some ⟨gr, 0, none⟩), .int .i64 A.who, .pointer (some ⟨gr, A.own, none⟩), .pointer (some ⟨gr, A.far, none⟩), A.st, A.b, .bool A.ok, .int .i64 A.mark]
def stg (f : Nat) : Value := .func (.func f) #[] #[]
def ActAt (w : World) (gr na : Nat) (A : AC) : Prop := w.heap[na]? = some (.cells (A.cells gr) 157 (0, 0))
def RingAt (w : World) (gr : Nat) (R : RC) : Prop := w.heap[gr]? = some (.cells R.cells 154 (0, 0))
section
variable {W : World} {gr na : Nat} {R : RC} {A : AC}
theorem ActAt.cell (h : ActAt W gr na A) : W.cell? ⟨na, 0, none⟩ = some (.pointer (some ⟨gr, 0, none⟩)) ∧ W.cell? ⟨na, 1, none⟩ = some (.int .i64 A.who) ∧ W.cell? ⟨na, 2, none⟩ = some (.pointer (some ⟨gr, A.own, none⟩)) ∧ W.cell? ⟨na, 3, none⟩ = some (.pointer (some ⟨gr, A.far, none⟩)) ∧ W.cell? ⟨na, 4, none⟩ = some A.st ∧ W.cell? ⟨na, 5, none⟩ = some A.b ∧ W.cell? ⟨na, 6, none⟩ = some (.bool A.ok) ∧ W.cell? ⟨na, 7, none⟩ = some (.int .i64 A.mark) := by
  refine ⟨?_, ?_, ?_, ?_, ?_, ?_, ?_, ?_⟩ <;> (rw [blk_cell h]; rfl)
theorem RingAt.cell (h : RingAt W gr R) : W.cell? ⟨gr, 0, none⟩ = some (.pointer (some ⟨R.gm, 0, none⟩)) ∧ W.cell? ⟨gr, 1, none⟩ = some (.int .i64 R.box) ∧ W.cell? ⟨gr, 2, none⟩ = some (.int .i64 R.size) ∧ W.cell? ⟨gr, 3, none⟩ = some (.int .i64 R.wi) ∧ W.cell? ⟨gr, 4, none⟩ = some (.int .u64 R.ci) ∧ W.cell? ⟨gr, 5, none⟩ = some R.ai ∧ W.cell? ⟨gr, 6, none⟩ = some (.int .i64 R.wo) ∧ W.cell? ⟨gr, 7, none⟩ = some (.int .u64 R.co) ∧ W.cell? ⟨gr, 8, none⟩ = some R.ao := by
  refine ⟨?_, ?_, ?_, ?_, ?_, ?_, ?_, ?_, ?_⟩ <;> (rw [blk_cell h]; rfl)
end
set_option maxRecDepth 100000
def AC.cnt (A : AC) (R : RC) : Int := if A.out then R.co else R.ci
structure RC.Fit (R : RC) : Prop where
  sz : R.size = 1 ∨ R.size = 2 ∨ R.size = 4 ∨ R.size = 8 ∨ R.size = 16
  bx : 0 ≤ R.box ∧ R.box ≤ 1000000
  ci : 0 ≤ R.ci ∧ R.ci < 18446744073709551616
  co : 0 ≤ R.co ∧ R.co < 18446744073709551616
section
variable {W : World} {gr na : Nat} {R : RC} {A : AC}
end
set_option maxRecDepth 100000
theorem cell_eq' {w w' : World} {k i : Nat} (h : w'.heap[k]? = w.heap[k]?) : w'.cell? ⟨k, i, none⟩ = w.cell? ⟨k, i, none⟩ := by
  unfold World.cell?
  simp only [h]
structure RG (w : World) (B : Nat) (own : Nat → Prop) (gr na : Nat) (M : MS) (R : RC) (A : AC) (bl : List S143) : Prop where
  mem : MemC w B own R.gm M
  ring : RingAt w gr R
  act : ActAt w gr na A
  fit : R.Fit
  r1 : ¬ own gr
  a1 : ¬ own na
  ne : gr ≠ na
  gB : B ≤ gr
  aB : B ≤ na
  bx : ∃ Ab cb, A.b = .slice Ab bl.length cb ∧ bl.length ≤ cb ∧ Kd.F k143 w (fun k => ¬ own k ∧ k ≠ gr ∧ k ≠ na ∧ k < w.heap.size) Ab bl.length bl
def RGTo (w w' : World) (B : Nat) (own : Nat → Prop) (gr na : Nat) (M : MS) (R : RC) (A : AC) (bl : List S143) : Prop :=
  ∃ own', RG w' B own' gr na M R A bl ∧ (∀ k, own' k → own k ∨ w.heap.size ≤ k) ∧ Kept w w' (fun k => own k ∨ k = gr ∨ k = na) ∧ Below B w w'
section
variable {w w' w2 : World} {B : Nat} {own own' : Nat → Prop} {gr na : Nat} {M M' : MS} {R R' : RC} {A A' : AC} {bl bl' : List S143}
theorem RG.below (h : RG w B own gr na M R A bl) (hb : Below w.heap.size w w') : RG w' B own gr na M R A bl := by
  obtain ⟨Ab, cb, e1, e2, e3⟩ := h.bx
  exact ⟨h.mem.below hb, (hb.block gr (blk_lt h.ring)).trans h.ring, (hb.block na (blk_lt h.act)).trans h.act, h.fit, h.r1, h.a1, h.ne, h.gB, h.aB, Ab, cb, e1, e2, Kd.F_mono (Kd.F_step e3 (fun k _ hlt => hb.block k hlt)) (fun k ho => ⟨ho.1, ho.2.1, ho.2.2.1, Nat.lt_of_lt_of_le ho.2.2.2 hb.size⟩)⟩
theorem RG.next (h : RG w B own gr na M R A bl) (hc : MemC w' B own' R.gm M') (hs : ∀ k, own' k → own k ∨ w.heap.size ≤ k) (hk : Kept w w' own) : RG w' B own' gr na M' R A bl := by
  obtain ⟨Ab, cb, e1, e2, e3⟩ := h.bx
  have q1 := blk_lt h.ring
  have q2 := blk_lt h.act
  exact ⟨hc, (hk.2 gr q1 h.r1).trans h.ring, (hk.2 na q2 h.a1).trans h.act, h.fit, fun ho => (hs gr ho).elim h.r1 (fun hl => by omega), fun ho => (hs na ho).elim h.a1 (fun hl => by omega), h.ne, h.gB, h.aB, Ab, cb, e1, e2,
    Kd.F_mono (Kd.F_step e3 (fun k ho hlt => hk.2 k hlt ho.1)) (fun k ho => ⟨fun h2 => (hs k h2).elim ho.1 (fun hl => by have := ho.2.2.2; omega), ho.2.1, ho.2.2.1, Nat.lt_of_lt_of_le ho.2.2.2 hk.1⟩)⟩
theorem RG.turn (h : RG w B own gr na M R A bl) (hk : Kept w w' (fun k => k = na)) (ha : ActAt w' gr na A') (hb : A'.b = A.b) : RG w' B own gr na M R A' bl := by
  obtain ⟨Ab, cb, e1, e2, e3⟩ := h.bx
  exact ⟨h.mem.kept hk (fun k ho e => h.a1 (e ▸ ho)), (hk.2 gr (blk_lt h.ring) h.ne).trans h.ring, ha, h.fit, h.r1, h.a1, h.ne, h.gB, h.aB, Ab, cb, hb.trans e1, e2,
    Kd.F_mono (Kd.F_step e3 (fun k ho hlt => hk.2 k hlt ho.2.2.1)) (fun k ho => ⟨ho.1, ho.2.1, ho.2.2.1, Nat.lt_of_lt_of_le ho.2.2.2 hk.1⟩)⟩
theorem kept_or {p q : Nat → Prop} (h : Kept w w' p) (h2 : ∀ k, p k → q k) : Kept w w' q := ⟨h.1, fun i hi hn => h.2 i hi (fun hp => hn (h2 i hp))⟩
theorem kept_trans {p : Nat → Prop} (h : Kept w w' p) (h2 : Kept w' w2 (fun k => p k ∨ w.heap.size ≤ k)) : Kept w w2 p := ⟨Nat.le_trans h.1 h2.1, fun i hi hn => (h2.2 i (Nat.lt_of_lt_of_le hi h.1) (fun hp => hp.elim hn (fun hl => by omega))).trans (h.2 i hi hn)⟩
theorem RGTo.nextM (h : RG w B own gr na M R A bl) (hn : MemNext w w' B own R.gm M') : RGTo w w' B own gr na M' R A bl := by
  obtain ⟨⟨own', hc, hs⟩, hk, hb⟩ := hn
  exact ⟨own', h.next hc hs hk, hs, kept_or hk (fun k => .inl), hb⟩
theorem RGTo.turn (h : RGTo w w' B own gr na M R A bl) (hk : Kept w' w2 (fun k => k = na)) (hb : Below B w' w2) (ha : ActAt w2 gr na A') (hbb : A'.b = A.b) : RGTo w w2 B own gr na M R A' bl := by
  obtain ⟨own', h1, hs, hk1, hb1⟩ := h
  exact ⟨own', h1.turn hk ha hbb, hs, kept_trans hk1 (kept_or hk (fun k e => .inl (.inr (.inr e)))), hb1.trans hb⟩
theorem RGTo.of_below (h : RG w B own gr na M R A bl) (hb : Below w.heap.size w w') (h2 : RGTo w' w2 B own gr na M' R' A' bl') : RGTo w w2 B own gr na M' R' A' bl' := by
  obtain ⟨own', h3, hs, hk, hb2⟩ := h2
  refine ⟨own', h3, fun k ho => (hs k ho).imp id (Nat.le_trans hb.size), ⟨Nat.le_trans hb.size hk.1, fun i hi hn => (hk.2 i (Nat.lt_of_lt_of_le hi hb.size) hn).trans (hb.block i hi)⟩, (below_then (Below.refl B w) h.mem.size hb).trans hb2⟩
theorem RG.self (h : RG w B own gr na M R A bl) : RGTo w w B own gr na M R A bl := ⟨own, h, fun k => .inl, Kept.refl _ _, Below.refl _ _⟩
end
section
variable {W : World} {B : Nat} {own : Nat → Prop} {gr na : Nat} {M : MS} {R : RC} {A : AC} {bl : List S143}
end
set_option maxRecDepth 100000
def SM (v : Int) (T : List Int) (h : Int) (L : List S128) : MS := ⟨0 :: v :: T, [], [-1, h], fun _ => none, 0, L⟩
section
variable {v x who h : Int} {T : List Int} {L : List S128}
theorem SM.fits (hw : 0 ≤ who) {at_ n : Int} (h0 : 0 ≤ at_) (h1 : at_ < n) : (SM v T h L).fits who at_ n = true := by
  unfold MS.fits SM
  simp [hw, h0, h1]
theorem SM.storeV (hw : 0 ≤ who) : (SM v T h L).store who 1 x = SM x T h (L ++ [⟨who, 1, 1, true⟩]) := by
  unfold MS.store
  rw [if_pos (SM.fits hw (by decide) (by simp [SM]; omega))]
  rfl
theorem SM.storeT (hw : 0 ≤ who) {i : Nat} (hi : i < T.length) : (SM v T h L).store who (2 + (i : Int)) x = SM v (T.set i x) h (L ++ [⟨who, 1, 2 + (i : Int), true⟩]) := by
  unfold MS.store
  rw [if_pos (SM.fits hw (by omega) (by simp [SM]; omega))]
  have e : (2 + (i : Int)).toNat = i + 2 := by omega
  unfold MS.note SM
  simp only [e, List.set_cons_succ]
theorem SM.loadV (hw : 0 ≤ who) : (SM v T h L).load who 1 = v ∧ (SM v T h L).loadTo who 1 = SM v T h (L ++ [⟨who, 0, 1, true⟩]) := by
  have hf := SM.fits (v := v) (T := T) (h := h) (L := L) hw (show (0 : Int) ≤ 1 by decide) (show (1 : Int) < ((SM v T h L).words.length : Int) by simp [SM]; omega)
  unfold MS.load MS.loadTo
  rw [if_pos hf, if_pos hf]
  exact ⟨rfl, rfl⟩
theorem SM.loadT (hw : 0 ≤ who) {i : Nat} (hi : i < T.length) : (SM v T h L).load who (2 + (i : Int)) = T.getD i 0 ∧ (SM v T h L).loadTo who (2 + (i : Int)) = SM v T h (L ++ [⟨who, 0, 2 + (i : Int), true⟩]) := by
  have hf := SM.fits (v := v) (T := T) (h := h) (L := L) hw (show (0 : Int) ≤ 2 + (i : Int) by omega) (show 2 + (i : Int) < ((SM v T h L).words.length : Int) by simp [SM]; omega)
  unfold MS.load MS.loadTo
  rw [if_pos hf, if_pos hf]
  have e : (2 + (i : Int)).toNat = i + 2 := by omega
  refine ⟨?_, rfl⟩
  unfold rd SM
  rw [e]
  rfl
theorem SM.take (hw : 0 ≤ who) : (SM v T (-1) L).passB who 1 (-1) = true ∧ (SM v T (-1) L).pass who 4 1 (-1) who = SM v T who (L ++ [⟨who, 4, 1, true⟩]) := by
  have hf := SM.fits (v := v) (T := T) (h := -1) (L := L) hw (show (0 : Int) ≤ 1 by decide) (show (1 : Int) < ((SM v T (-1) L).latches.length : Int) by simp [SM])
  unfold MS.passB MS.pass
  rw [if_pos hf, hf]
  exact ⟨rfl, rfl⟩
theorem SM.free (hw : 0 ≤ who) : (SM v T who L).pass who 5 1 who (-1) = SM v T (-1) (L ++ [⟨who, 5, 1, true⟩]) := by
  have hf := SM.fits (v := v) (T := T) (h := who) (L := L) hw (show (0 : Int) ≤ 1 by decide) (show (1 : Int) < ((SM v T who L).latches.length : Int) by simp [SM])
  unfold MS.pass
  rw [if_pos hf, if_pos (show rd (SM v T who L).latches 1 = who from rfl)]
  rfl
end
structure SS where
  gm : Nat
  n : Int
  tries : Int
  ver : Int
def SS.cells (S : SS) : Array Value := #[.pointer (some ⟨S.gm, 0, none⟩), .int .i64 1, .int .i64 1, .int .i64 S.n, .int .i64 S.tries, .int .u64 S.ver]
structure SA where
  who : Int
  ports : Value
  times : Value
  i : Int
  first : Int
  st : Value
  mark : Int
  reads : Bool
def SA.cells (A : SA) (gs : Nat) : Array Value := #[.pointer (some ⟨gs, 0, none⟩), .int .i64 A.who, A.ports, A.times, .int .i64 A.i, .int .u64 A.first, .bool false, .int .i64 0, A.st, .int .i64 A.mark, .bool A.reads]
def ShotAt (w : World) (gs : Nat) (S : SS) : Prop := w.heap[gs]? = some (.cells S.cells 161 (0, 0))
def SActAt (w : World) (gs na : Nat) (A : SA) : Prop := w.heap[na]? = some (.cells (A.cells gs) 166 (0, 0))
structure SG (w : World) (B : Nat) (own : Nat → Prop) (gs : Nat) (S : SS) (M : MS) : Prop where
  mem : MemC w B own S.gm M
  shot : ShotAt w gs S
  r1 : ¬ own gs
  gB : B ≤ gs
structure AG (w : World) (B : Nat) (own : Nat → Prop) (gs na : Nat) (op ot : Nat → Prop) (A : SA) (P X : List Int) : Prop where
  act : SActAt w gs na A
  pr : Kd.R (Kd.int .i64) 3 w B op A.ports P
  tm : Kd.R (Kd.int .u64) 29 w B ot A.times X
  a1 : ¬ own na
  ne : na ≠ gs
  aB : B ≤ na
  dp : ∀ k, op k → ¬ own k ∧ k ≠ gs ∧ k ≠ na ∧ ¬ ot k ∧ k < w.heap.size
  dt : ∀ k, ot k → ¬ own k ∧ k ≠ gs ∧ k ≠ na ∧ ¬ op k ∧ k < w.heap.size
section
variable {w w' w2 : World} {B : Nat} {own own' op ot S' : Nat → Prop} {gs na : Nat} {M M' : MS} {S : SS} {A A' : SA} {P X : List Int}
theorem ShotAt.cell (h : ShotAt w gs S) : w.cell? ⟨gs, 0, none⟩ = some (.pointer (some ⟨S.gm, 0, none⟩)) ∧ w.cell? ⟨gs, 1, none⟩ = some (.int .i64 1) ∧ w.cell? ⟨gs, 2, none⟩ = some (.int .i64 1) ∧ w.cell? ⟨gs, 3, none⟩ = some (.int .i64 S.n) ∧ w.cell? ⟨gs, 4, none⟩ = some (.int .i64 S.tries) ∧ w.cell? ⟨gs, 5, none⟩ = some (.int .u64 S.ver) := by
  refine ⟨?_, ?_, ?_, ?_, ?_, ?_⟩ <;> (rw [blk_cell h]; rfl)
theorem SActAt.cell (h : SActAt w gs na A) : w.cell? ⟨na, 0, none⟩ = some (.pointer (some ⟨gs, 0, none⟩)) ∧ w.cell? ⟨na, 1, none⟩ = some (.int .i64 A.who) ∧ w.cell? ⟨na, 2, none⟩ = some A.ports ∧ w.cell? ⟨na, 3, none⟩ = some A.times ∧ w.cell? ⟨na, 4, none⟩ = some (.int .i64 A.i) ∧ w.cell? ⟨na, 5, none⟩ = some (.int .u64 A.first) ∧ w.cell? ⟨na, 6, none⟩ = some (.bool false) ∧ w.cell? ⟨na, 7, none⟩ = some (.int .i64 0) ∧ w.cell? ⟨na, 8, none⟩ = some A.st ∧ w.cell? ⟨na, 9, none⟩ = some (.int .i64 A.mark) ∧ w.cell? ⟨na, 10, none⟩ = some (.bool A.reads) := by
  refine ⟨?_, ?_, ?_, ?_, ?_, ?_, ?_, ?_, ?_, ?_, ?_⟩ <;> (rw [blk_cell h]; rfl)
theorem SG.keep (h : SG w B own gs S M) (hk : Kept w w' S') (hs : ∀ k, S' k → w.heap.size ≤ k ∨ (¬ own k ∧ k ≠ gs)) : SG w' B own gs S M :=
  ⟨h.mem.kept (S := fun k => S' k ∧ k < w.heap.size) ⟨hk.1, fun i hi hn => hk.2 i hi (fun hS => hn ⟨hS, hi⟩)⟩ (fun k ho hS => (hs k hS.1).elim (fun hl => by have := hS.2; omega) (fun g => g.1 ho)), (hk.2 gs (blk_lt h.shot) (fun hS => (hs gs hS).elim (fun hl => by have := blk_lt h.shot; omega) (fun g => g.2 rfl))).trans h.shot, h.r1, h.gB⟩
theorem SG.below (h : SG w B own gs S M) (hb : Below w.heap.size w w') : SG w' B own gs S M :=
  h.keep (S' := fun k => w.heap.size ≤ k) ⟨hb.size, fun i hi _ => hb.block i hi⟩ (fun k => .inl)
theorem SG.next (h : SG w B own gs S M) (hc : MemC w' B own' S.gm M') (hs : ∀ k, own' k → own k ∨ w.heap.size ≤ k) (hk : Kept w w' own) : SG w' B own' gs S M' :=
  ⟨hc, (hk.2 gs (blk_lt h.shot) h.r1).trans h.shot, fun ho => (hs gs ho).elim h.r1 (fun hl => by have := blk_lt h.shot; omega), h.gB⟩
theorem AG.keep (h : AG w B own gs na op ot A P X) (hk : Kept w w' S') (hs : ∀ k, S' k → w.heap.size ≤ k ∨ (k ≠ na ∧ ¬ op k ∧ ¬ ot k)) (ho : ∀ k, own' k → own k ∨ w.heap.size ≤ k) : AG w' B own' gs na op ot A P X := by
  have hlt := blk_lt h.act
  have ha : w'.heap[na]? = w.heap[na]? := hk.2 na hlt (fun hS => (hs na hS).elim (fun hl => by omega) (fun g => g.1 rfl))
  refine ⟨ha.trans h.act, Kd.R_step h.pr (fun k h1 h2 => hk.2 k h2 (fun hS => (hs k hS).elim (fun hl => by omega) (fun g => g.2.1 h1))), Kd.R_step h.tm (fun k h1 h2 => hk.2 k h2 (fun hS => (hs k hS).elim (fun hl => by omega) (fun g => g.2.2 h1))), fun h2 => (ho na h2).elim h.a1 (fun hl => by omega), h.ne, h.aB, fun k h1 => ?_, fun k h1 => ?_⟩
  · obtain ⟨g1, g2, g3, g4, g5⟩ := h.dp k h1
    exact ⟨fun h2 => (ho k h2).elim g1 (fun hl => by omega), g2, g3, g4, Nat.lt_of_lt_of_le g5 hk.1⟩
  · obtain ⟨g1, g2, g3, g4, g5⟩ := h.dt k h1
    exact ⟨fun h2 => (ho k h2).elim g1 (fun hl => by omega), g2, g3, g4, Nat.lt_of_lt_of_le g5 hk.1⟩
theorem AG.below (h : AG w B own gs na op ot A P X) (hb : Below w.heap.size w w') : AG w' B own gs na op ot A P X :=
  h.keep (S' := fun k => w.heap.size ≤ k) ⟨hb.size, fun i hi _ => hb.block i hi⟩ (fun k => .inl) (fun k => .inl)
theorem AG.turn (h : AG w B own gs na op ot A P X) (hk : Kept w w' (fun k => k = na)) (ha : SActAt w' gs na A') (e1 : A'.ports = A.ports) (e2 : A'.times = A.times) : AG w' B own gs na op ot A' P X := by
  refine ⟨ha, by rw [e1]; exact Kd.R_step h.pr (fun k h1 h2 => hk.2 k h2 (h.dp k h1).2.2.1), by rw [e2]; exact Kd.R_step h.tm (fun k h1 h2 => hk.2 k h2 (h.dt k h1).2.2.1), h.a1, h.ne, h.aB, fun k h1 => ?_, fun k h1 => ?_⟩
  · obtain ⟨g1, g2, g3, g4, g5⟩ := h.dp k h1
    exact ⟨g1, g2, g3, g4, Nat.lt_of_lt_of_le g5 hk.1⟩
  · obtain ⟨g1, g2, g3, g4, g5⟩ := h.dt k h1
    exact ⟨g1, g2, g3, g4, Nat.lt_of_lt_of_le g5 hk.1⟩
structure SP (w : World) (B : Nat) (own : Nat → Prop) (gs na : Nat) (op ot : Nat → Prop) (S : SS) (M : MS) (A : SA) (P X : List Int) : Prop where
  g : SG w B own gs S M
  a : AG w B own gs na op ot A P X
def SPTo (w w' : World) (B : Nat) (own : Nat → Prop) (gs na : Nat) (op ot : Nat → Prop) (S : SS) (M : MS) (A : SA) (P X : List Int) : Prop :=
  ∃ own', SP w' B own' gs na op ot S M A P X ∧ (∀ k, own' k → own k ∨ w.heap.size ≤ k) ∧ Kept w w' (fun k => own k ∨ k = gs ∨ k = na ∨ ot k) ∧ Below B w w'
variable {S1 S2 : SS} {X' X2 : List Int} {A2 : SA} {M2 : MS}
theorem SP.below (h : SP w B own gs na op ot S M A P X) (hb : Below w.heap.size w w') : SP w' B own gs na op ot S M A P X := ⟨h.g.below hb, h.a.below hb⟩
theorem SP.self (h : SP w B own gs na op ot S M A P X) : SPTo w w B own gs na op ot S M A P X := ⟨own, h, fun k => .inl, Kept.refl _ _, Below.refl _ _⟩
theorem SPTo.seq {o1 : Nat → Prop} (hk : (∀ k, o1 k → own k ∨ w.heap.size ≤ k) ∧ Kept w w' (fun k => own k ∨ k = gs ∨ k = na ∨ ot k) ∧ Below B w w') (h2 : SPTo w' w2 B o1 gs na op ot S2 M2 A2 P X2) : SPTo w w2 B own gs na op ot S2 M2 A2 P X2 := by
  obtain ⟨hs1, hk1, hb1⟩ := hk
  obtain ⟨o2, h3, hs2, hk2, hb2⟩ := h2
  refine ⟨o2, h3, fun k hk => (hs2 k hk).elim (hs1 k) (fun hl => .inr (Nat.le_trans hk1.1 hl)), ⟨Nat.le_trans hk1.1 hk2.1, fun i hi hn => (hk2.2 i (Nat.lt_of_lt_of_le hi hk1.1) (fun hp => ?_)).trans (hk1.2 i hi hn)⟩, hb1.trans hb2⟩
  exact hp.elim (fun ho => (hs1 i ho).elim (fun q => hn (.inl q)) (fun hl => by omega)) (fun hp => hn (.inr hp))
theorem SPTo.then (h : SPTo w w' B own gs na op ot S M A P X) (h2 : ∀ own', SP w' B own' gs na op ot S M A P X → SPTo w' w2 B own' gs na op ot S2 M2 A2 P X2) : SPTo w w2 B own gs na op ot S2 M2 A2 P X2 := by
  obtain ⟨o1, h1, hk⟩ := h
  exact SPTo.seq hk (h2 o1 h1)
theorem SPTo.of_below (h : SP w B own gs na op ot S M A P X) (hb : Below w.heap.size w w') (h2 : SPTo w' w2 B own gs na op ot S2 M2 A2 P X2) : SPTo w w2 B own gs na op ot S2 M2 A2 P X2 := by
  obtain ⟨o2, h3, hs2, hk2, hb2⟩ := h2
  exact ⟨o2, h3, fun k hk => (hs2 k hk).imp id (Nat.le_trans hb.size), ⟨Nat.le_trans hb.size hk2.1, fun i hi hn => (hk2.2 i (Nat.lt_of_lt_of_le hi hb.size) hn).trans (hb.block i hi)⟩, (below_then (Below.refl B w) h.g.mem.size hb).trans hb2⟩
theorem SPTo.nextM (h : SP w B own gs na op ot S M A P X) (hn : MemNext w w' B own S.gm M') : SPTo w w' B own gs na op ot S M' A P X := by
  obtain ⟨⟨own', hc, hs⟩, hk, hb⟩ := hn
  exact ⟨own', ⟨h.g.next hc hs hk, h.a.keep hk (fun k ho => .inr ⟨fun e => h.a.a1 (e ▸ ho), fun h1 => (h.a.dp k h1).1 ho, fun h1 => (h.a.dt k h1).1 ho⟩) hs⟩, hs, kept_or hk (fun k => .inl), hb⟩
theorem SPTo.actTurn (h : SP w B own gs na op ot S M A P X) (hk : Kept w w' (fun k => k = na)) (hb : Below B w w') (ha : SActAt w' gs na A') (e1 : A'.ports = A.ports) (e2 : A'.times = A.times) : SPTo w w' B own gs na op ot S M A' P X :=
  ⟨own, ⟨h.g.keep hk (fun k e => .inr (by subst e; exact ⟨h.a.a1, h.a.ne⟩)), h.a.turn hk ha e1 e2⟩, fun k => .inl, kept_or hk (fun k e => .inr (.inr (.inl e))), hb⟩
theorem SPTo.shotTurn (h : SP w B own gs na op ot S M A P X) (hk : Kept w w' (fun k => k = gs)) (hb : Below B w w') (hs : ShotAt w' gs S2) (e1 : S2.gm = S.gm) : SPTo w w' B own gs na op ot S2 M A P X :=
  ⟨own, ⟨⟨by rw [e1]; exact h.g.mem.kept hk (fun k ho e => h.g.r1 (e ▸ ho)), hs, h.g.r1, h.g.gB⟩, h.a.keep hk (fun k e => .inr (by subst e; exact ⟨fun e => h.a.ne e.symm, fun h1 => (h.a.dp _ h1).2.1 rfl, fun h1 => (h.a.dt _ h1).2.1 rfl⟩)) (fun k => .inl)⟩, fun k => .inl, kept_or hk (fun k e => .inr (.inl e)), hb⟩
theorem SPTo.timesTurn {gt c : Nat} (h : SP w B own gs na op ot S M A P X) (ht : A.times = .slice (some ⟨gt, 0, none⟩) X.length c) (hX : X ≠ []) (i : Int) (x : Int) : SPTo w (w.setCell ⟨gt, i.toNat, none⟩ (.int .u64 x)) B own gs na op ot S M A P (X.set i.toNat x) := by
  have hR := h.a.tm
  rw [ht] at hR
  have hp := Kd.R_putg hR i x
  have hot : ot gt := hR.1 gt rfl
  have hk : Kept w (w.setCell ⟨gt, i.toNat, none⟩ (.int .u64 x)) (fun k => k = gt) := (Kept.refl w (fun k => k = gt)).setCell (p := ⟨gt, i.toNat, none⟩) (.inl rfl) _
  obtain ⟨g1, g2, g3, g4, g5⟩ := h.a.dt gt hot
  refine ⟨own, ⟨h.g.keep hk (fun k e => .inr (by subst e; exact ⟨g1, g2⟩)), ⟨(hk.2 na (blk_lt h.a.act) (fun e => g3 e.symm)).trans h.a.act, Kd.R_step h.a.pr (fun k h1 h2 => hk.2 k h2 (fun e => (h.a.dp k h1).2.2.2.1 (e ▸ hot))), by rw [ht]; exact hp.1, h.a.a1, h.a.ne, h.a.aB, fun k h1 => ?_, fun k h1 => ?_⟩⟩, fun k => .inl, kept_or hk (fun k e => .inr (.inr (.inr (e ▸ hot)))), (Below.refl B w).setCell (p := ⟨gt, i.toNat, none⟩) (Kd.R_base hR gt rfl) _⟩
  · obtain ⟨f1, f2, f3, f4, f5⟩ := h.a.dp k h1
    exact ⟨f1, f2, f3, f4, Nat.lt_of_lt_of_le f5 hk.1⟩
  · obtain ⟨f1, f2, f3, f4, f5⟩ := h.a.dt k h1
    exact ⟨f1, f2, f3, f4, Nat.lt_of_lt_of_le f5 hk.1⟩
end
set_option maxRecDepth 100000
section
variable {W : World} {B : Nat} {own op ot : Nat → Prop} {gs na : Nat} {S : SS} {A : SA} {P X T : List Int} {v hh : Int} {L : List S128}
structure SW (A : SA) (L : List S128) : Prop where
  w0 : 0 ≤ A.who
  wf : (Lit.int .i64 A.who).wf = true
  ll : L.length ≤ 900000
theorem SW.l {A : SA} {v hh : Int} {T : List Int} {L : List S128} (h : SW A L) : (SM v T hh L).log.length ≤ 1000000 := Nat.le_trans h.ll (by decide)
theorem version_C (h : SP W B own gs na op ot S (SM v T hh L) A P X) (hw : SW A L) :
    Calls Try.prog 116 #[.pointer (some ⟨na, 0, none⟩)] W fun e w' => e = .returned (.int .u64 v) ∧ SPTo W w' B own gs na op ot S (SM v T hh (L ++ [⟨A.who, 0, 1, true⟩])) A P X := by
  have hxs := h.a.act.cell
  have hys := h.g.shot.cell
  obtain ⟨hx0, hx1, -, -, -, -, -, -, -, -, -⟩ := hxs
  obtain ⟨hy0, hy1, -, -, -, -⟩ := hys
  have H := Aside0.mk h
  have HD := Aside0.mk (h.below (below_drew (Below.refl _ W)))
  have LC0 := Load_C A.who 1 hw.wf HD.out.g.mem hw.l
  rw [(SM.loadV hw.w0).1, (SM.loadV hw.w0).2] at LC0
  have LC := Aside0.mk LC0
  clear h hw LC0
  go_enter Try.func116, Try.ntmps116
  go_upto_region 1 with fail
  go_region_held3 (fun w' => w'.cell? ⟨na, 0, none⟩ = some (.pointer (some ⟨gs, 0, none⟩)) ∧ w'.cell? ⟨na, 1, none⟩ = some (.int .i64 A.who) ∧ w'.cell? ⟨gs, 0, none⟩ = some (.pointer (some ⟨S.gm, 0, none⟩)) ∧ w'.cell? ⟨gs, 1, none⟩ = some (.int .i64 1))
    (first | exact ⟨hx0, hx1, hy0, hy1⟩ | exact hN5)
    (first | (go_at_call 36; ((with_reducible refine LC.out.mono ?_); rintro e w5 ⟨rfl, hn⟩; have hN5 : w5.cell? ⟨na, 0, none⟩ = some (.pointer (some ⟨gs, 0, none⟩)) ∧ w5.cell? ⟨na, 1, none⟩ = some (.int .i64 A.who) ∧ w5.cell? ⟨gs, 0, none⟩ = some (.pointer (some ⟨S.gm, 0, none⟩)) ∧ w5.cell? ⟨gs, 1, none⟩ = some (.int .i64 1) := ⟨(cell_eq' (hn.2.1.2 na (blk_lt HD.out.a.act) HD.out.a.a1)).trans hx0, (cell_eq' (hn.2.1.2 na (blk_lt HD.out.a.act) HD.out.a.a1)).trans hx1, (cell_eq' (hn.2.1.2 gs (blk_lt HD.out.g.shot) HD.out.g.r1)).trans hy0, (cell_eq' (hn.2.1.2 gs (blk_lt HD.out.g.shot) HD.out.g.r1)).trans hy1⟩; have HT := Aside0.mk (SPTo.of_below H.out (below_drew (Below.refl _ W)) (SPTo.nextM HD.out hn)); clear hn)))
  all_goals
    go_wp2
    go_ret
    exact ⟨rfl, HT.out⟩
theorem turn_C (h : SP W B own gs na op ot S (SM v T hh L) A P X) (hw : SW A L) (hv : S.ver = v) (hb : 0 ≤ v ∧ v ≤ 1000000) :
    Calls Try.prog 124 #[.pointer (some ⟨na, 0, none⟩)] W fun e w' => e = .returned (.tuple #[]) ∧ SPTo W w' B own gs na op ot { S with ver := v + 1 } (SM (v + 1) T hh (L ++ [⟨A.who, 1, 1, true⟩])) A P X := by
  have hxs := h.a.act.cell
  have hys := h.g.shot.cell
  obtain ⟨hx0, hx1, -, -, -, -, -, -, -, -, -⟩ := hxs
  obtain ⟨hy0, hy1, hy2, -, -, hy5⟩ := hys
  rw [hv] at hy5
  have hz5 := blk_frozen h.g.shot 5
  have hwv : IntKind.u64.wrap (v + 1) = v + 1 := by rw [IntKind.wrap_u64]; omega
  have H := Aside0.mk h
  have HW := Aside0.mk hw
  clear h hw hb
  go_enter Try.func124, Try.ntmps124
  go_upto_region 1 with fail
  have HT1 := Aside0.mk (SPTo.shotTurn (S2 := { S with ver := v + 1 }) H.out ((Kept.refl W (fun k => k = gs)).setCell (p := ⟨gs, 5, none⟩) (.inl rfl) (.int .u64 (v + 1))) ((Below.refl B W).setCell (p := ⟨gs, 5, none⟩) H.out.g.gB (.int .u64 (v + 1))) (blk_put H.out.g.shot 5 (.int .u64 (v + 1)) rfl) rfl)
  clear hx0 hx1 hy0 hy1 hy2 hy5 hz5
  generalize ew : W.setCell ⟨gs, 5, none⟩ (.int .u64 (v + 1)) = W1 at HT1 ⊢
  clear ew
  obtain ⟨o1, hsp, hs1, hk1, hb1⟩ := HT1.out
  have hxs := hsp.a.act.cell
  have hys := hsp.g.shot.cell
  obtain ⟨hx0, hx1, -, -, -, -, -, -, -, -, -⟩ := hxs
  obtain ⟨hy0, hy1, hy2, -, -, hy5⟩ := hys
  replace hy5 : W1.cell? ⟨gs, 5, none⟩ = some (.int .u64 (v + 1)) := hy5
  replace hy0 : W1.cell? ⟨gs, 0, none⟩ = some (.pointer (some ⟨S.gm, 0, none⟩)) := hy0
  have H1 := Aside0.mk hsp
  have HD := Aside0.mk (hsp.below (below_drew (Below.refl _ W1)))
  have LC0 := Store_C A.who 1 (v + 1) HW.out.wf HD.out.g.mem HW.out.l
  rw [SM.storeV HW.out.w0] at LC0
  have LC := Aside0.mk LC0
  replace LC : Aside0 (Calls Try.prog 32 #[.pointer (some ⟨S.gm, 0, none⟩), .int .i64 A.who, .int .i64 1, .int .u64 (v + 1)] W1.drew _) := LC
  have HK1 := Aside0.mk (show _ ∧ _ ∧ _ from ⟨hs1, hk1, hb1⟩)
  clear LC0 hsp hs1 hk1 hb1
  go_region_held3 (fun w' => w'.cell? ⟨na, 0, none⟩ = some (.pointer (some ⟨gs, 0, none⟩)) ∧ w'.cell? ⟨na, 1, none⟩ = some (.int .i64 A.who) ∧ w'.cell? ⟨gs, 0, none⟩ = some (.pointer (some ⟨S.gm, 0, none⟩)) ∧ w'.cell? ⟨gs, 1, none⟩ = some (.int .i64 1) ∧ w'.cell? ⟨gs, 5, none⟩ = some (.int .u64 (v + 1)))
    (first | exact ⟨hx0, hx1, hy0, hy1, hy5⟩ | exact hN5)
    (first | (go_at_call 32; ((with_reducible refine LC.out.mono ?_); rintro e w5 ⟨rfl, hn⟩; have hN5 : w5.cell? ⟨na, 0, none⟩ = some (.pointer (some ⟨gs, 0, none⟩)) ∧ w5.cell? ⟨na, 1, none⟩ = some (.int .i64 A.who) ∧ w5.cell? ⟨gs, 0, none⟩ = some (.pointer (some ⟨S.gm, 0, none⟩)) ∧ w5.cell? ⟨gs, 1, none⟩ = some (.int .i64 1) ∧ w5.cell? ⟨gs, 5, none⟩ = some (.int .u64 (v + 1)) := ⟨(cell_eq' (hn.2.1.2 na (blk_lt HD.out.a.act) HD.out.a.a1)).trans hx0, (cell_eq' (hn.2.1.2 na (blk_lt HD.out.a.act) HD.out.a.a1)).trans hx1, (cell_eq' (hn.2.1.2 gs (blk_lt HD.out.g.shot) HD.out.g.r1)).trans hy0, (cell_eq' (hn.2.1.2 gs (blk_lt HD.out.g.shot) HD.out.g.r1)).trans hy1, (cell_eq' (hn.2.1.2 gs (blk_lt HD.out.g.shot) HD.out.g.r1)).trans hy5⟩; have HT := Aside0.mk (SPTo.of_below H1.out (below_drew (Below.refl _ W1)) (SPTo.nextM HD.out hn)); clear hn)))
  all_goals
    go_wp2
    ((try simp only [Exit.inBlock, Exit.then]); first | refine bodyPost_ret (results_none rfl _ _ _) rfl ?_ | refine bodyPost_end (results_none rfl _ _ _) rfl ?_)
    exact ⟨rfl, SPTo.seq HK1.out HT.out⟩
theorem grab_C (h : SP W B own gs na op ot S (SM v T (-1) L) A P X) (hw : SW A L) :
    Calls Try.prog 99 #[.pointer (some ⟨na, 0, none⟩)] W fun e w' => e = .returned (stg 115) ∧ SPTo W w' B own gs na op ot S (SM v T A.who (L ++ [⟨A.who, 4, 1, true⟩])) A P X := by
  have hxs := h.a.act.cell
  have hys := h.g.shot.cell
  obtain ⟨hx0, hx1, -, -, -, -, -, -, -, -, -⟩ := hxs
  obtain ⟨hy0, -, hy2, -, -, -⟩ := hys
  have H := Aside0.mk h
  have HD := Aside0.mk (h.below (below_drew (Below.refl _ W)))
  have LC0 := Take_C A.who 1 hw.wf HD.out.g.mem hw.l
  rw [(SM.take hw.w0).1, (SM.take hw.w0).2] at LC0
  have LC := Aside0.mk LC0
  clear h hw LC0
  go_enter Try.func99, Try.ntmps99
  go_upto_region 1 with fail
  go_region_held3 (fun w' => w'.cell? ⟨na, 0, none⟩ = some (.pointer (some ⟨gs, 0, none⟩)) ∧ w'.cell? ⟨na, 1, none⟩ = some (.int .i64 A.who) ∧ w'.cell? ⟨gs, 0, none⟩ = some (.pointer (some ⟨S.gm, 0, none⟩)) ∧ w'.cell? ⟨gs, 2, none⟩ = some (.int .i64 1))
    (first | exact ⟨hx0, hx1, hy0, hy2⟩ | exact hN5)
    (first | (go_at_call 49; ((with_reducible refine LC.out.mono ?_); rintro e w5 ⟨rfl, hn⟩; have hN5 : w5.cell? ⟨na, 0, none⟩ = some (.pointer (some ⟨gs, 0, none⟩)) ∧ w5.cell? ⟨na, 1, none⟩ = some (.int .i64 A.who) ∧ w5.cell? ⟨gs, 0, none⟩ = some (.pointer (some ⟨S.gm, 0, none⟩)) ∧ w5.cell? ⟨gs, 2, none⟩ = some (.int .i64 1) := ⟨(cell_eq' (hn.2.1.2 na (blk_lt HD.out.a.act) HD.out.a.a1)).trans hx0, (cell_eq' (hn.2.1.2 na (blk_lt HD.out.a.act) HD.out.a.a1)).trans hx1, (cell_eq' (hn.2.1.2 gs (blk_lt HD.out.g.shot) HD.out.g.r1)).trans hy0, (cell_eq' (hn.2.1.2 gs (blk_lt HD.out.g.shot) HD.out.g.r1)).trans hy2⟩; have HT := Aside0.mk (SPTo.of_below H.out (below_drew (Below.refl _ W)) (SPTo.nextM HD.out hn)); clear hn)))
  all_goals
    go_wp2
    go_ret
    exact ⟨rfl, HT.out⟩
theorem free_C (h : SP W B own gs na op ot S (SM v T A.who L) A P X) (hw : SW A L) :
    Calls Try.prog 127 #[.pointer (some ⟨na, 0, none⟩)] W fun e w' => e = .returned .nilFunc ∧ SPTo W w' B own gs na op ot S (SM v T (-1) (L ++ [⟨A.who, 5, 1, true⟩])) A P X := by
  have hxs := h.a.act.cell
  have hys := h.g.shot.cell
  obtain ⟨hx0, hx1, -, -, -, -, -, -, -, -, -⟩ := hxs
  obtain ⟨hy0, -, hy2, -, -, -⟩ := hys
  have H := Aside0.mk h
  have HD := Aside0.mk (h.below (below_drew (Below.refl _ W)))
  have LC0 := Free_C A.who 1 hw.wf HD.out.g.mem hw.l
  rw [SM.free hw.w0] at LC0
  have LC := Aside0.mk LC0
  clear h hw LC0
  go_enter Try.func127, Try.ntmps127
  go_upto_region 1 with fail
  go_region_held3 (fun w' => w'.cell? ⟨na, 0, none⟩ = some (.pointer (some ⟨gs, 0, none⟩)) ∧ w'.cell? ⟨na, 1, none⟩ = some (.int .i64 A.who) ∧ w'.cell? ⟨gs, 0, none⟩ = some (.pointer (some ⟨S.gm, 0, none⟩)) ∧ w'.cell? ⟨gs, 2, none⟩ = some (.int .i64 1))
    (first | exact ⟨hx0, hx1, hy0, hy2⟩ | exact hN5)
    (first | (go_at_call 50; ((with_reducible refine LC.out.mono ?_); rintro e w5 ⟨rfl, hn⟩; have hN5 : w5.cell? ⟨na, 0, none⟩ = some (.pointer (some ⟨gs, 0, none⟩)) ∧ w5.cell? ⟨na, 1, none⟩ = some (.int .i64 A.who) ∧ w5.cell? ⟨gs, 0, none⟩ = some (.pointer (some ⟨S.gm, 0, none⟩)) ∧ w5.cell? ⟨gs, 2, none⟩ = some (.int .i64 1) := ⟨(cell_eq' (hn.2.1.2 na (blk_lt HD.out.a.act) HD.out.a.a1)).trans hx0, (cell_eq' (hn.2.1.2 na (blk_lt HD.out.a.act) HD.out.a.a1)).trans hx1, (cell_eq' (hn.2.1.2 gs (blk_lt HD.out.g.shot) HD.out.g.r1)).trans hy0, (cell_eq' (hn.2.1.2 gs (blk_lt HD.out.g.shot) HD.out.g.r1)).trans hy2⟩; have HT := Aside0.mk (SPTo.of_below H.out (below_drew (Below.refl _ W)) (SPTo.nextM HD.out hn)); clear hn)))
  all_goals
    go_wp2
    go_ret
    exact ⟨rfl, HT.out⟩
theorem open_C (h : SP W B own gs na op ot S (SM v T hh L) A P X) (hw : SW A L) (hv : S.ver = v) (hb : 0 ≤ v ∧ v ≤ 1000000) :
    Calls Try.prog 115 #[.pointer (some ⟨na, 0, none⟩)] W fun e w' => e = .returned (stg 125) ∧ SPTo W w' B own gs na op ot { S with ver := v + 1 } (SM (v + 1) T hh (L ++ [⟨A.who, 1, 1, true⟩])) A P X := by
  have TC := Aside0.mk (turn_C h hw hv hb)
  clear h hw hv hb
  go_enter Try.func115, Try.ntmps115
  go_wp2_with (first | (go_at_call 124; ((with_reducible refine TC.out.mono ?_); rintro e w5 ⟨rfl, hn⟩; have HT := Aside0.mk hn; clear hn)))
  go_ret
  exact ⟨rfl, HT.out⟩
theorem shut_C (h : SP W B own gs na op ot S (SM v T hh L) A P X) (hw : SW A L) (hv : S.ver = v) (hb : 0 ≤ v ∧ v ≤ 1000000) :
    Calls Try.prog 129 #[.pointer (some ⟨na, 0, none⟩)] W fun e w' => e = .returned (stg 127) ∧ SPTo W w' B own gs na op ot { S with ver := v + 1 } (SM (v + 1) T hh (L ++ [⟨A.who, 1, 1, true⟩])) { A with mark := (L.length : Int) + 1 } P X := by
  have TC := Aside0.mk (turn_C h hw hv hb)
  clear h hw hv hb
  go_enter Try.func129, Try.ntmps129
  go_upto_region 2 with (first | (go_at_call 124; ((with_reducible refine TC.out.mono ?_); rintro e w5 ⟨rfl, hn⟩; have HT := Aside0.mk hn; clear hn)))
  obtain ⟨o1, hsp, hk1⟩ := HT.out
  have hxs := hsp.a.act.cell
  have hys := hsp.g.shot.cell
  obtain ⟨hx0, -, -, -, -, -, -, -, -, hx9, -⟩ := hxs
  obtain ⟨hy0, -, -, -, -, -⟩ := hys
  replace hy0 : w5.cell? ⟨gs, 0, none⟩ = some (.pointer (some ⟨S.gm, 0, none⟩)) := hy0
  have hz9 := blk_frozen hsp.a.act 9
  have TM0 := Time_C hsp.g.mem
  rw [show (((SM (v + 1) T hh (L ++ [⟨A.who, 1, 1, true⟩])).log.length : Nat) : Int) = (L.length : Int) + 1 by simp [SM]] at TM0
  have TM := Aside0.mk TM0
  replace TM : Aside0 (Calls Try.prog 43 #[.pointer (some ⟨S.gm, 0, none⟩)] w5 _) := TM
  have H1 := Aside0.mk hsp
  have HK1 := Aside0.mk hk1
  clear TM0 hsp hk1
  go_wp2_with (first | (go_at_call 43; ((with_reducible refine TM.out.mono ?_); rintro e w6 ⟨rfl, hw6⟩; obtain rfl : w5 = w6 := hw6.symm)))
  go_ret
  exact ⟨rfl, SPTo.seq HK1.out (SPTo.actTurn H1.out ((Kept.refl _ (fun k => k = na)).setCell (p := ⟨na, 9, none⟩) (.inl rfl) _) ((Below.refl B _).setCell (p := ⟨na, 9, none⟩) H1.out.a.aB _) (blk_put H1.out.a.act 9 _ rfl) rfl rfl)⟩
theorem look_C (h : SP W B own gs na op ot S (SM v T hh L) A P X) (hw : SW A L) (hb : Int.tmod v 2 = 0) :
    Calls Try.prog 105 #[.pointer (some ⟨na, 0, none⟩)] W fun e w' => e = .returned (stg 118) ∧ SPTo W w' B own gs na op ot S (SM v T hh (L ++ [⟨A.who, 0, 1, true⟩])) { A with first := v, i := 0 } P X := by
  have VC := Aside0.mk (version_C h hw)
  clear h hw
  go_enter Try.func105, Try.ntmps105
  go_upto_region 2 with (first | (go_at_call 116; ((with_reducible refine VC.out.mono ?_); rintro e w5 ⟨rfl, hn⟩; have HT := Aside0.mk hn; obtain ⟨o1, hsp, hk1⟩ := hn; have hx5 := hsp.a.act.cell.2.2.2.2.2.1; have hz5 := blk_frozen hsp.a.act 5; have HSP := Aside0.mk hsp; have HK1 := Aside0.mk hk1; clear hsp hk1)))
  have HS2 := Aside0.mk (SPTo.actTurn (A' := { A with first := v }) HSP.out ((Kept.refl _ (fun k => k = na)).setCell (p := ⟨na, 5, none⟩) (.inl rfl) (.int .u64 v)) ((Below.refl B _).setCell (p := ⟨na, 5, none⟩) HSP.out.a.aB (.int .u64 v)) (blk_put HSP.out.a.act 5 (.int .u64 v) rfl) rfl rfl)
  clear hx5 hz5
  generalize ew : World.setCell w5 ⟨na, 5, none⟩ (.int .u64 v) = W2 at HS2 ⊢
  clear ew
  have HT2 := Aside0.mk (SPTo.seq HK1.out HS2.out)
  obtain ⟨o2, hsp, hk2⟩ := HT2.out
  have hx5 : W2.cell? ⟨na, 5, none⟩ = some (.int .u64 v) := hsp.a.act.cell.2.2.2.2.2.1
  have hx4 := hsp.a.act.cell.2.2.2.2.1
  have hz4 := blk_frozen hsp.a.act 4
  have HSP2 := Aside0.mk hsp
  have HK2 := Aside0.mk hk2
  clear hsp hk2
  go_wp2
  go_ret
  exact ⟨rfl, SPTo.seq HK2.out (SPTo.actTurn HSP2.out ((Kept.refl _ (fun k => k = na)).setCell (p := ⟨na, 4, none⟩) (.inl rfl) _) ((Below.refl B _).setCell (p := ⟨na, 4, none⟩) HSP2.out.a.aB _) (blk_put HSP2.out.a.act 4 _ rfl) rfl rfl)⟩
end
set_option maxRecDepth 100000
section
variable {W : World} {B : Nat} {own op ot : Nat → Prop} {gs na : Nat} {S : SS} {A : SA} {P X T : List Int} {v hh : Int} {L : List S128}
set_option maxHeartbeats 2000000 in
theorem lay_C (last : Bool) {i : Nat} (h : SP W B own gs na op ot S (SM v T hh L) A P X) (hw : SW A L) (hi : A.i = (i : Int)) (hX : X.length = T.length ∧ T.length ≤ 64) (hlt : i < T.length) (hlast : decide ((i : Int) + 1 < (X.length : Int)) = !last) :
    Calls Try.prog 125 #[.pointer (some ⟨na, 0, none⟩)] W fun e w' => e = .returned (if last then stg 129 else stg 125) ∧ SPTo W w' B own gs na op ot S (SM v (T.set i (rd X (i : Int))) hh (L ++ [⟨A.who, 1, 2 + (i : Int), true⟩])) { A with i := (i : Int) + 1 } P X := by
  obtain ⟨gt, ct, ht, -⟩ := Kd.R_form h.a.tm (by omega)
  have hxs := h.a.act.cell
  have hys := h.g.shot.cell
  obtain ⟨hx0, hx1, -, hx3, hx4, -, -, -, -, -, -⟩ := hxs
  obtain ⟨hy0, hy1, -, -, -, -⟩ := hys
  rw [ht] at hx3
  rw [hi] at hx4
  have q0 : (0 : Int) ≤ (i : Int) := by omega
  have q1 : (i : Int) < (X.length : Int) := by omega
  have hR := h.a.tm
  rw [ht] at hR
  have hxt : W.cell? ⟨gt, i, none⟩ = some (.int .u64 (rd X (i : Int))) := (Kd.R_celln 0 hR (i : Int) q0 q1).1
  have hot : ot gt := hR.1 gt rfl
  have hlg : gt < W.heap.size := (h.a.dt gt hot).2.2.2.2
  have hgo : ¬ own gt := (h.a.dt gt hot).1
  have w1_ : IntKind.i64.wrap (2 : Int) = 2 := by decide
  have w2_ : IntKind.i64.wrap (2 + (i : Int)) = 2 + (i : Int) := by rw [IntKind.wrap_i64]; omega
  have w3_ : IntKind.i64.wrap ((i : Int) + 1) = (i : Int) + 1 := by rw [IntKind.wrap_i64]; omega
  have H := Aside0.mk h
  have HD := Aside0.mk (h.below (below_drew (Below.refl _ W)))
  have LC0 := Store_C A.who (2 + (i : Int)) (rd X (i : Int)) hw.wf HD.out.g.mem hw.l
  rw [SM.storeT hw.w0 hlt] at LC0
  have LC := Aside0.mk LC0
  have HT0 := Aside0.mk ht
  have HOT := Aside0.mk hot
  have HGG := Aside0.mk (show _ ∧ _ from ⟨hlg, hgo⟩)
  clear h hw LC0 hR ht hot hlt hX hlg hgo
  go_enter Try.func125, Try.ntmps125
  go_upto_region 1 with fail
  go_region_held3 (fun w' => w'.cell? ⟨na, 0, none⟩ = some (.pointer (some ⟨gs, 0, none⟩)) ∧ w'.cell? ⟨na, 1, none⟩ = some (.int .i64 A.who) ∧ w'.cell? ⟨na, 3, none⟩ = some (.slice (some ⟨gt, 0, none⟩) X.length ct) ∧ w'.cell? ⟨na, 4, none⟩ = some (.int .i64 (i : Int)) ∧ w'.cell? ⟨gs, 0, none⟩ = some (.pointer (some ⟨S.gm, 0, none⟩)) ∧ w'.cell? ⟨gs, 1, none⟩ = some (.int .i64 1) ∧ w'.cell? ⟨gt, i, none⟩ = some (.int .u64 (rd X (i : Int))))
    (first | exact ⟨hx0, hx1, hx3, hx4, hy0, hy1, hxt⟩ | exact hN5)
    (first | (go_at_call 32; ((with_reducible refine LC.out.mono ?_); rintro e w5 ⟨rfl, hn⟩; have hN5 : w5.cell? ⟨na, 0, none⟩ = some (.pointer (some ⟨gs, 0, none⟩)) ∧ w5.cell? ⟨na, 1, none⟩ = some (.int .i64 A.who) ∧ w5.cell? ⟨na, 3, none⟩ = some (.slice (some ⟨gt, 0, none⟩) X.length ct) ∧ w5.cell? ⟨na, 4, none⟩ = some (.int .i64 (i : Int)) ∧ w5.cell? ⟨gs, 0, none⟩ = some (.pointer (some ⟨S.gm, 0, none⟩)) ∧ w5.cell? ⟨gs, 1, none⟩ = some (.int .i64 1) ∧ w5.cell? ⟨gt, i, none⟩ = some (.int .u64 (rd X (i : Int))) := ⟨(cell_eq' (hn.2.1.2 na (blk_lt HD.out.a.act) HD.out.a.a1)).trans hx0, (cell_eq' (hn.2.1.2 na (blk_lt HD.out.a.act) HD.out.a.a1)).trans hx1, (cell_eq' (hn.2.1.2 na (blk_lt HD.out.a.act) HD.out.a.a1)).trans hx3, (cell_eq' (hn.2.1.2 na (blk_lt HD.out.a.act) HD.out.a.a1)).trans hx4, (cell_eq' (hn.2.1.2 gs (blk_lt HD.out.g.shot) HD.out.g.r1)).trans hy0, (cell_eq' (hn.2.1.2 gs (blk_lt HD.out.g.shot) HD.out.g.r1)).trans hy1, (cell_eq' (hn.2.1.2 gt HGG.out.1 HGG.out.2)).trans hxt⟩; have HT := Aside0.mk (SPTo.of_below H.out (below_drew (Below.refl _ W)) (SPTo.nextM HD.out hn)); clear hn)))
  all_goals
    clear hx0 hx1 hx3 hx4 hy0 hy1 hxt q0 q1
    obtain ⟨o1, hsp, hk1⟩ := HT.out
    have hx4 : w5.cell? ⟨na, 4, none⟩ = some (.int .i64 (i : Int)) := (hsp.a.act.cell.2.2.2.2.1).trans (congrArg (fun z => some (Value.int .i64 z)) hi)
    have hz4 := blk_frozen hsp.a.act 4
    have HSP := Aside0.mk hsp
    have HK1 := Aside0.mk hk1
    clear hsp hk1
    go_upto_region 3 with fail
    have HS2 := Aside0.mk (SPTo.actTurn (A' := { A with i := (i : Int) + 1 }) HSP.out ((Kept.refl _ (fun k => k = na)).setCell (p := ⟨na, 4, none⟩) (.inl rfl) (.int .i64 ((i : Int) + 1))) ((Below.refl B _).setCell (p := ⟨na, 4, none⟩) HSP.out.a.aB (.int .i64 ((i : Int) + 1))) (blk_put HSP.out.a.act 4 (.int .i64 ((i : Int) + 1)) rfl) rfl rfl)
    clear hx4 hz4
    generalize World.setCell _ _ _ = W2 at HS2 ⊢
    have HT2 := Aside0.mk (SPTo.seq HK1.out HS2.out)
    obtain ⟨o2, hsp, hk2⟩ := HT2.out
    have hx4 : W2.cell? ⟨na, 4, none⟩ = some (.int .i64 ((i : Int) + 1)) := hsp.a.act.cell.2.2.2.2.1
    have hx3 : W2.cell? ⟨na, 3, none⟩ = some (.slice (some ⟨gt, 0, none⟩) X.length ct) := (hsp.a.act.cell.2.2.2.1).trans (congrArg some HT0.out)
    have HSP2 := Aside0.mk hsp
    have HK2 := Aside0.mk hk2
    clear hsp hk2 HS2 HT HSP HK1
    go_region_held3 (fun w' => w'.cell? ⟨na, 3, none⟩ = some (.slice (some ⟨gt, 0, none⟩) X.length ct) ∧ w'.cell? ⟨na, 4, none⟩ = some (.int .i64 ((i : Int) + 1)))
      (exact ⟨hx3, hx4⟩) (fail)
    all_goals
      have HF := Aside0.mk (SPTo.seq HK2.out (SPTo.of_below HSP2.out (below_drew (Below.refl _ W2)) (HSP2.out.below (below_drew (Below.refl _ W2))).self))
      cases last
      · have q5 : (i : Int) + 1 < (X.length : Int) := by simpa using hlast
        go_wp2
        go_ret
        exact ⟨rfl, HF.out⟩
      · have q5 : ¬ ((i : Int) + 1 < (X.length : Int)) := by simpa using hlast
        go_wp2
        go_ret
        exact ⟨rfl, HF.out⟩
theorem check_C (h : SP W B own gs na op ot S (SM v T hh L) A P X) (hw : SW A L) (hf : A.first = v) :
    Calls Try.prog 128 #[.pointer (some ⟨na, 0, none⟩)] W fun e w' => e = .returned .nilFunc ∧ SPTo W w' B own gs na op ot S (SM v T hh (L ++ [⟨A.who, 0, 1, true⟩])) { A with mark := (L.length : Int) + 1 } P X := by
  have hxs := h.a.act.cell
  have hys := h.g.shot.cell
  obtain ⟨-, -, -, -, -, hx5, -, -, -, -, -⟩ := hxs
  obtain ⟨-, -, -, -, -, -⟩ := hys
  rw [hf] at hx5
  have H := Aside0.mk h
  have HD := Aside0.mk (h.below (below_drew (Below.refl _ W)))
  have VC := Aside0.mk (version_C HD.out hw)
  have HF5 := Aside0.mk hf
  clear h hw
  go_enter Try.func128, Try.ntmps128
  go_upto_region 1 with fail
  go_region_held3 (fun w' => w'.cell? ⟨na, 5, none⟩ = some (.int .u64 v))
    (first | exact hx5 | exact hN5)
    (first | (go_at_call 116; ((with_reducible refine VC.out.mono ?_); rintro e w5 ⟨rfl, hn⟩; have hN5 : w5.cell? ⟨na, 5, none⟩ = some (.int .u64 v) := (by obtain ⟨o1, hsp, -⟩ := hn; exact (hsp.a.act.cell.2.2.2.2.2.1).trans (congrArg (fun z => some (Value.int .u64 z)) HF5.out)); have HT := Aside0.mk (SPTo.of_below H.out (below_drew (Below.refl _ W)) hn); clear hn)))
  all_goals
    clear hx5
    obtain ⟨o1, hsp, hk1⟩ := HT.out
    have hx0 := hsp.a.act.cell.1
    have hx9 := hsp.a.act.cell.2.2.2.2.2.2.2.2.2.1
    have hz9 := blk_frozen hsp.a.act 9
    have hy0 := hsp.g.shot.cell.1
    have TM0 := Time_C hsp.g.mem
    rw [show (((SM v T hh (L ++ [⟨A.who, 0, 1, true⟩])).log.length : Nat) : Int) = (L.length : Int) + 1 by simp [SM]] at TM0
    have TM := Aside0.mk TM0
    have H1 := Aside0.mk hsp
    have HK1 := Aside0.mk hk1
    clear TM0 hsp hk1
    go_wp2_with (first | (go_at_call 43; ((with_reducible refine TM.out.mono ?_); rintro e w6 ⟨rfl, hw6⟩; obtain rfl := hw6.symm)))
    go_ret
    exact ⟨rfl, SPTo.seq HK1.out (SPTo.actTurn H1.out ((Kept.refl _ (fun k => k = na)).setCell (p := ⟨na, 9, none⟩) (.inl rfl) _) ((Below.refl B _).setCell (p := ⟨na, 9, none⟩) H1.out.a.aB _) (blk_put H1.out.a.act 9 _ rfl) rfl rfl)⟩
set_option maxHeartbeats 4000000 in
theorem fetch_C (last : Bool) {i p : Nat} (h : SP W B own gs na op ot S (SM v T hh L) A P X) (hw : SW A L) (hi : A.i = (i : Int)) (hX : X.length = P.length ∧ T.length ≤ 64 ∧ P.length ≤ 64) (hlt : i < P.length) (hp : rd P (i : Int) = (p : Int)) (hpt : p < T.length) (hlast : decide ((i : Int) + 1 < (P.length : Int)) = !last) :
    Calls Try.prog 118 #[.pointer (some ⟨na, 0, none⟩)] W fun e w' => e = .returned (if last then stg 128 else stg 118) ∧ SPTo W w' B own gs na op ot S (SM v T hh (L ++ [⟨A.who, 0, 2 + (p : Int), true⟩])) { A with i := (i : Int) + 1 } P (X.set i (T[p]?.getD 0)) := by
  obtain ⟨gt, ct, ht, -⟩ := Kd.R_form h.a.tm (by omega)
  obtain ⟨gp, cp, hpp, -⟩ := Kd.R_form h.a.pr (by omega)
  have hxs := h.a.act.cell
  have hys := h.g.shot.cell
  obtain ⟨hx0, hx1, hx2, hx3, hx4, -, hx6, -, -, -, -⟩ := hxs
  obtain ⟨hy0, hy1, -, -, -, -⟩ := hys
  rw [ht] at hx3
  rw [hpp] at hx2
  rw [hi] at hx4
  have q0 : (0 : Int) ≤ (i : Int) := by omega
  have q1 : (i : Int) < (X.length : Int) := by omega
  have q2 : (i : Int) < (P.length : Int) := by omega
  have hR := h.a.tm
  rw [ht] at hR
  have hRp := h.a.pr
  rw [hpp] at hRp
  have hxt : W.cell? ⟨gt, i, none⟩ = some (.int .u64 (rd X (i : Int))) := (Kd.R_celln 0 hR (i : Int) q0 q1).1
  have hxp0 : W.cell? ⟨gp, i, none⟩ = some (.int .i64 (rd P (i : Int))) := (Kd.R_celln 0 hRp (i : Int) q0 q2).1
  rw [hp] at hxp0
  have hxp : W.cell? ⟨gp, i, none⟩ = some (.int .i64 (p : Int)) := hxp0
  have hot : ot gt := hR.1 gt rfl
  have hop : op gp := hRp.1 gp rfl
  have hgt := h.a.dt gt hot
  have hgp := h.a.dp gp hop
  have w1_ : IntKind.i64.wrap (2 : Int) = 2 := by decide
  have w2_ : IntKind.i64.wrap (2 + (p : Int)) = 2 + (p : Int) := by rw [IntKind.wrap_i64]; omega
  have w3_ : IntKind.i64.wrap ((i : Int) + 1) = (i : Int) + 1 := by rw [IntKind.wrap_i64]; omega
  have H := Aside0.mk h
  have HD := Aside0.mk (h.below (below_drew (Below.refl _ W)))
  have LC0 := Load_C A.who (2 + (p : Int)) hw.wf HD.out.g.mem hw.l
  rw [(SM.loadT hw.w0 hpt).1, (SM.loadT hw.w0 hpt).2, List.getD_eq_getElem?_getD] at LC0
  have LC := Aside0.mk LC0
  have HT0 := Aside0.mk (show _ ∧ _ from ⟨ht, hpp⟩)
  have HGG := Aside0.mk (show (gt < W.heap.size ∧ ¬ own gt) ∧ (gp < W.heap.size ∧ ¬ own gp) from ⟨⟨hgt.2.2.2.2, hgt.1⟩, hgp.2.2.2.2, hgp.1⟩)
  have HNE := Aside0.mk (show na ≠ gt ∧ gs ≠ gt ∧ gp ≠ gt from ⟨fun e => hgt.2.2.1 e.symm, fun e => hgt.2.1 e.symm, fun e => hgt.2.2.2.1 (e ▸ hop)⟩)
  have HXL := Aside0.mk (show X ≠ [] from fun e => by subst e; simp at hX; omega)
  clear h hw LC0 hR hRp ht hpp hot hop hlt hX hgt hgp hxp0 hp hpt
  go_enter Try.func118, Try.ntmps118
  go_upto_region 1 with fail
  go_region_held3 (fun w' => w'.cell? ⟨na, 0, none⟩ = some (.pointer (some ⟨gs, 0, none⟩)) ∧ w'.cell? ⟨na, 1, none⟩ = some (.int .i64 A.who) ∧ w'.cell? ⟨na, 2, none⟩ = some (.slice (some ⟨gp, 0, none⟩) P.length cp) ∧ w'.cell? ⟨na, 3, none⟩ = some (.slice (some ⟨gt, 0, none⟩) X.length ct) ∧ w'.cell? ⟨na, 4, none⟩ = some (.int .i64 (i : Int)) ∧ w'.cell? ⟨gs, 0, none⟩ = some (.pointer (some ⟨S.gm, 0, none⟩)) ∧ w'.cell? ⟨gs, 1, none⟩ = some (.int .i64 1) ∧ w'.cell? ⟨gp, i, none⟩ = some (.int .i64 (p : Int)))
    (first | exact ⟨hx0, hx1, hx2, hx3, hx4, hy0, hy1, hxp⟩ | exact hN5 | exact ⟨(cell_eq' (Below.heap_setCell w5 ⟨gt, i, none⟩ _ na HNE.out.1)).trans HN5.out.1, (cell_eq' (Below.heap_setCell w5 ⟨gt, i, none⟩ _ na HNE.out.1)).trans HN5.out.2.1, (cell_eq' (Below.heap_setCell w5 ⟨gt, i, none⟩ _ na HNE.out.1)).trans HN5.out.2.2.1, (cell_eq' (Below.heap_setCell w5 ⟨gt, i, none⟩ _ na HNE.out.1)).trans HN5.out.2.2.2.1, (cell_eq' (Below.heap_setCell w5 ⟨gt, i, none⟩ _ na HNE.out.1)).trans HN5.out.2.2.2.2.1, (cell_eq' (Below.heap_setCell w5 ⟨gt, i, none⟩ _ gs HNE.out.2.1)).trans HN5.out.2.2.2.2.2.1, (cell_eq' (Below.heap_setCell w5 ⟨gt, i, none⟩ _ gs HNE.out.2.1)).trans HN5.out.2.2.2.2.2.2.1, (cell_eq' (Below.heap_setCell w5 ⟨gt, i, none⟩ _ gp HNE.out.2.2)).trans HN5.out.2.2.2.2.2.2.2⟩)
    (first | (go_at_call 36; ((with_reducible refine LC.out.mono ?_); rintro e w5 ⟨rfl, hn⟩; have hN5 : w5.cell? ⟨na, 0, none⟩ = some (.pointer (some ⟨gs, 0, none⟩)) ∧ w5.cell? ⟨na, 1, none⟩ = some (.int .i64 A.who) ∧ w5.cell? ⟨na, 2, none⟩ = some (.slice (some ⟨gp, 0, none⟩) P.length cp) ∧ w5.cell? ⟨na, 3, none⟩ = some (.slice (some ⟨gt, 0, none⟩) X.length ct) ∧ w5.cell? ⟨na, 4, none⟩ = some (.int .i64 (i : Int)) ∧ w5.cell? ⟨gs, 0, none⟩ = some (.pointer (some ⟨S.gm, 0, none⟩)) ∧ w5.cell? ⟨gs, 1, none⟩ = some (.int .i64 1) ∧ w5.cell? ⟨gp, i, none⟩ = some (.int .i64 (p : Int)) := ⟨(cell_eq' (hn.2.1.2 na (blk_lt HD.out.a.act) HD.out.a.a1)).trans hx0, (cell_eq' (hn.2.1.2 na (blk_lt HD.out.a.act) HD.out.a.a1)).trans hx1, (cell_eq' (hn.2.1.2 na (blk_lt HD.out.a.act) HD.out.a.a1)).trans hx2, (cell_eq' (hn.2.1.2 na (blk_lt HD.out.a.act) HD.out.a.a1)).trans hx3, (cell_eq' (hn.2.1.2 na (blk_lt HD.out.a.act) HD.out.a.a1)).trans hx4, (cell_eq' (hn.2.1.2 gs (blk_lt HD.out.g.shot) HD.out.g.r1)).trans hy0, (cell_eq' (hn.2.1.2 gs (blk_lt HD.out.g.shot) HD.out.g.r1)).trans hy1, (cell_eq' (hn.2.1.2 gp HGG.out.2.1 HGG.out.2.2)).trans hxp⟩; have HT := Aside0.mk (SPTo.of_below H.out (below_drew (Below.refl _ W)) (SPTo.nextM HD.out hn)); have HN5 := Aside0.mk hN5; have hc5 : w5.cell? ⟨gt, i, none⟩ = some (.int .u64 (rd X (i : Int))) := (by obtain ⟨o1, hsp, -⟩ := HT.out; have hR := hsp.a.tm; rw [HT0.out.1] at hR; exact (Kd.R_celln 0 hR (i : Int) q0 q1).1); have hz5 : w5.frozen? ⟨gt, i, none⟩ = false := (by obtain ⟨o1, hsp, -⟩ := HT.out; have hR := hsp.a.tm; rw [HT0.out.1] at hR; exact (Kd.R_celln 0 hR (i : Int) q0 q1).2); clear hn)))
  all_goals
    clear hx0 hx1 hx2 hx3 hx4 hx6 hy0 hy1 hxt hxp q0 q1 q2 hc5 hz5
    obtain ⟨o1, hsp, hk1⟩ := HT.out
    have HS1 := Aside0.mk (SPTo.timesTurn hsp (by rw [HT0.out.1]) HXL.out (i : Int) (T[p]?.getD 0))
    have HK1 := Aside0.mk hk1
    clear hsp hk1
    rw [Int.toNat_natCast] at HS1
    generalize World.setCell _ _ _ = W1 at HS1 ⊢
    have HT1 := Aside0.mk (SPTo.seq HK1.out HS1.out)
    obtain ⟨o1, hsp, hk1⟩ := HT1.out
    have hx4 : W1.cell? ⟨na, 4, none⟩ = some (.int .i64 (i : Int)) := (hsp.a.act.cell.2.2.2.2.1).trans (congrArg (fun z => some (Value.int .i64 z)) hi)
    have hz4 := blk_frozen hsp.a.act 4
    have HSP := Aside0.mk hsp
    have HK2 := Aside0.mk hk1
    clear hsp hk1 HS1 HT HK1
    go_upto_region 3 with fail
    have HS2 := Aside0.mk (SPTo.actTurn (A' := { A with i := (i : Int) + 1 }) HSP.out ((Kept.refl _ (fun k => k = na)).setCell (p := ⟨na, 4, none⟩) (.inl rfl) (.int .i64 ((i : Int) + 1))) ((Below.refl B _).setCell (p := ⟨na, 4, none⟩) HSP.out.a.aB (.int .i64 ((i : Int) + 1))) (blk_put HSP.out.a.act 4 (.int .i64 ((i : Int) + 1)) rfl) rfl rfl)
    clear hx4 hz4
    generalize World.setCell _ _ _ = W2 at HS2 ⊢
    have HT2 := Aside0.mk (SPTo.seq HK2.out HS2.out)
    obtain ⟨o2, hsp, hk2⟩ := HT2.out
    have hx4 : W2.cell? ⟨na, 4, none⟩ = some (.int .i64 ((i : Int) + 1)) := hsp.a.act.cell.2.2.2.2.1
    have hx2 : W2.cell? ⟨na, 2, none⟩ = some (.slice (some ⟨gp, 0, none⟩) P.length cp) := (hsp.a.act.cell.2.2.1).trans (congrArg some HT0.out.2)
    have hx6 : W2.cell? ⟨na, 6, none⟩ = some (.bool false) := hsp.a.act.cell.2.2.2.2.2.2.1
    have HSP2 := Aside0.mk hsp
    have HK3 := Aside0.mk hk2
    clear hsp hk2 HS2 HSP HK2 HT1
    go_region_held3 (fun w' => w'.cell? ⟨na, 2, none⟩ = some (.slice (some ⟨gp, 0, none⟩) P.length cp) ∧ w'.cell? ⟨na, 4, none⟩ = some (.int .i64 ((i : Int) + 1)) ∧ w'.cell? ⟨na, 6, none⟩ = some (.bool false))
      (exact ⟨hx2, hx4, hx6⟩) (fail)
    all_goals
      have HF := Aside0.mk (SPTo.seq HK3.out (SPTo.of_below HSP2.out (below_drew (Below.refl _ W2)) (HSP2.out.below (below_drew (Below.refl _ W2))).self))
      cases last
      · have q5 : (i : Int) + 1 < (P.length : Int) := by simpa using hlast
        go_wp2
        go_ret
        exact ⟨rfl, HF.out⟩
      · have q5 : ¬ ((i : Int) + 1 < (P.length : Int)) := by simpa using hlast
        go_wp2
        go_ret
        exact ⟨rfl, HF.out⟩
end
open Go.RowKit Go.Proofs.YtlcnckbmolefpaaW.PrintWords Go.Proofs.YtlcnckbmolefpaaW.PrintLast Go.Proofs.YtlcnckbmolefpaaW.PrintMore
def slices_CloneU.f (l0 : List Int) : Option (List Int) := if l0.length < 17592186044415 then some l0 else none
set_option maxHeartbeats 400000 in
theorem slices_CloneU.calls (A0 : Option Addr) (c0 : Nat) (l0 : List Int) (r : List Int) (w : World) (hr0 : Kd.C (Kd.int .u64) w A0 l0.length l0) (hc0 : l0.length ≤ c0) (h : slices_CloneU.f l0 = some r) :
    Calls Try.prog 98 #[.slice A0 l0.length c0] w fun e w' => ∃ v0_ : Value, e = .returned v0_ ∧ Kd.R (Kd.int .u64) 29 w' w.heap.size (fun _ => True) v0_ r ∧ Below w.heap.size w w' := by
  unfold slices_CloneU.f at h
  by_cases hlim : l0.length < 17592186044415
  · rw [if_pos hlim] at h
    obtain rfl := Option.some.inj h
    have LM := Aside0.mk hlim
    clear hlim h
    have HR := Aside0.mk hr0
    clear hr0 hc0
    cases A0 with
    | none =>
      obtain rfl : l0 = [] := by
        have h1 := HR.out.2.2
        cases l0 with
        | nil => rfl
        | cons x xs =>
          obtain ⟨ad, h2, _⟩ := h1 (by simp)
          cases h2
      have hq := fun W : World => Go.Lib.run_eql_slice_nil_nil (P := Try.prog) W (t := 44) 0 c0 Try.underlying44
      go_enter Try.func98, Try.ntmps98
      go_wp2
      go_ret
      exact ⟨_, rfl, Kd.R_nil _ _ _ _ _, Below.refl _ _⟩
    | some ad =>
      have hq := fun W : World => Go.Lib.run_eql_slice_some_nil (P := Try.prog) W (t := 44) ad l0.length c0 Try.underlying44
      go_enter Try.func98, Try.ntmps98
      go_wp2_with (first | ((with_reducible refine gate_dst (N := 5) rfl ?_); refine Kd.R_lit (Kd.int .u64) _ 29 ?hg (N := 5) ?hd (xs := ([] : List Int)) (inner := []) (ok := fun _ => True) (okp := fun _ => True) ?hr ?hp (fun _ hk => hk) trivial (Below.refl _ _) (Nat.le_refl _) (by simp) ?_; (case hd => rfl); (case hg => rfl); (case hr => first | (go_simp; done) | (go_simp; rfl)); (case hp => exact (Reps.none _ _)); intro v1 w1 ho1 hb1 hg_ hnew_; clear hg_ hnew_; have HB1 := Aside0.mk hb1; have HO1 := Aside0.mk ho1; clear hb1 ho1) | ((with_reducible refine gate_builtin (b := .append) (xs := #[.tmp 5, .tmp 6]) rfl ?_); at_builtin; refine Kd.R_append_rows (Kd.int .u64) (w0 := w) w.heap.size rfl (.tmp 5) (.tmp 6) 44 29 (.int .u64 0) 8 rfl Try.underlying44 info29 rfl (by decide) (by omega) v1 [] l0 _ _ _ (fun _ => True) (fun _ => False) rfl rfl ?aO ?aR (fun _ _ h => h) (fun _ h => h.elim) ?aF ?aB ?aS ?aL ?_; (case aR => exact Kd.C_below HR.out HB1.out); (case aB => exact HB1.out); (case aF => exact (fun _ _ => trivial)); (case aO => exact HO1.out); (case aS => exact HB1.out.size); (case aL => have := LM.out; simp only [List.length_nil]; omega); intro v2 w2 ho hb hg hat; have HB2 := Aside0.mk hb; have HO2 := Aside0.mk ho; clear ho hb hg hat))
      go_ret
      exact ⟨_, rfl, by have := HO2.out; rwa [List.nil_append] at this, HB2.out⟩
  · rw [if_neg hlim] at h
    cases h
def slices_CloneI.f (l0 : List Int) : Option (List Int) := if l0.length < 17592186044415 then some l0 else none
set_option maxHeartbeats 400000 in
theorem slices_CloneI.calls (A0 : Option Addr) (c0 : Nat) (l0 : List Int) (r : List Int) (w : World) (hr0 : Kd.C (Kd.int .i64) w A0 l0.length l0) (hc0 : l0.length ≤ c0) (h : slices_CloneI.f l0 = some r) :
    Calls Try.prog 104 #[.slice A0 l0.length c0] w fun e w' => ∃ v0_ : Value, e = .returned v0_ ∧ Kd.R (Kd.int .i64) 3 w' w.heap.size (fun _ => True) v0_ r ∧ Below w.heap.size w w' := by
  unfold slices_CloneI.f at h
  by_cases hlim : l0.length < 17592186044415
  · rw [if_pos hlim] at h
    obtain rfl := Option.some.inj h
    have LM := Aside0.mk hlim
    clear hlim h
    have HR := Aside0.mk hr0
    clear hr0 hc0
    cases A0 with
    | none =>
      obtain rfl : l0 = [] := by
        have h1 := HR.out.2.2
        cases l0 with
        | nil => rfl
        | cons x xs =>
          obtain ⟨ad, h2, _⟩ := h1 (by simp)
          cases h2
      have hq := fun W : World => Go.Lib.run_eql_slice_nil_nil (P := Try.prog) W (t := 25) 0 c0 Try.underlying25
      go_enter Try.func104, Try.ntmps104
      go_wp2
      go_ret
      exact ⟨_, rfl, Kd.R_nil _ _ _ _ _, Below.refl _ _⟩
    | some ad =>
      have hq := fun W : World => Go.Lib.run_eql_slice_some_nil (P := Try.prog) W (t := 25) ad l0.length c0 Try.underlying25
      go_enter Try.func104, Try.ntmps104
      go_wp2_with (first | ((with_reducible refine gate_dst (N := 5) rfl ?_); refine Kd.R_lit (Kd.int .i64) _ 3 ?hg (N := 5) ?hd (xs := ([] : List Int)) (inner := []) (ok := fun _ => True) (okp := fun _ => True) ?hr ?hp (fun _ hk => hk) trivial (Below.refl _ _) (Nat.le_refl _) (by simp) ?_; (case hd => rfl); (case hg => rfl); (case hr => first | (go_simp; done) | (go_simp; rfl)); (case hp => exact (Reps.none _ _)); intro v1 w1 ho1 hb1 hg_ hnew_; clear hg_ hnew_; have HB1 := Aside0.mk hb1; have HO1 := Aside0.mk ho1; clear hb1 ho1) | ((with_reducible refine gate_builtin (b := .append) (xs := #[.tmp 5, .tmp 6]) rfl ?_); at_builtin; refine Kd.R_append_rows (Kd.int .i64) (w0 := w) w.heap.size rfl (.tmp 5) (.tmp 6) 25 3 (.int .i64 0) 8 rfl Try.underlying25 info3 rfl (by decide) (by omega) v1 [] l0 _ _ _ (fun _ => True) (fun _ => False) rfl rfl ?aO ?aR (fun _ _ h => h) (fun _ h => h.elim) ?aF ?aB ?aS ?aL ?_; (case aR => exact Kd.C_below HR.out HB1.out); (case aB => exact HB1.out); (case aF => exact (fun _ _ => trivial)); (case aO => exact HO1.out); (case aS => exact HB1.out.size); (case aL => have := LM.out; simp only [List.length_nil]; omega); intro v2 w2 ho hb hg hat; have HB2 := Aside0.mk hb; have HO2 := Aside0.mk ho; clear ho hb hg hat))
      go_ret
      exact ⟨_, rfl, by have := HO2.out; rwa [List.nil_append] at this, HB2.out⟩
  · rw [if_neg hlim] at h
    cases h
set_option maxRecDepth 100000
theorem eql_nil2 (W : World) : Sem.run Try.prog (binOp BinOp.eql 164 Value.nilFunc Value.nilFunc) W = .ok (.bool true) W := by kernel_rfl
theorem eql_func2 (f : Nat) (W : World) : Sem.run Try.prog (binOp BinOp.eql 164 (.func (.func f) #[] #[]) Value.nilFunc) W = .ok (.bool false) W := by kernel_rfl
section
variable {W : World} {gs na : Nat} {A : SA}
theorem SOver_done (h : SActAt W gs na A) (hs : A.st = .nilFunc) : Calls Try.prog 76 #[.pointer (some ⟨na, 0, none⟩)] W fun e w' => e = .returned (.bool true) ∧ w' = W := by
  obtain ⟨-, -, -, -, -, -, -, -, hx8, -⟩ := h.cell
  rw [hs] at hx8
  have hrun := eql_nil2 W
  go_enter Try.func76, Try.ntmps76
  go_wp2
  go_ret
  exact ⟨rfl, rfl⟩
theorem SOver_on (h : SActAt W gs na A) {f : Nat} (hs : A.st = stg f) : Calls Try.prog 76 #[.pointer (some ⟨na, 0, none⟩)] W fun e w' => e = .returned (.bool false) ∧ w' = W := by
  obtain ⟨-, -, -, -, -, -, -, -, hx8, -⟩ := h.cell
  rw [hs] at hx8
  unfold stg at hx8
  have hrun := eql_func2 f W
  go_enter Try.func76, Try.ntmps76
  go_wp2
  go_ret
  exact ⟨rfl, rfl⟩
theorem SMark_C (h : SActAt W gs na A) : Calls Try.prog 77 #[.pointer (some ⟨na, 0, none⟩)] W fun e w' => e = .returned (.int .i64 A.mark) ∧ w' = W := by
  obtain ⟨-, -, -, -, -, -, -, -, -, hx9, -⟩ := h.cell
  go_enter Try.func77, Try.ntmps77
  go_wp2
  go_ret
  exact ⟨rfl, rfl⟩
theorem SVain_C (h : SActAt W gs na A) : Calls Try.prog 70 #[.pointer (some ⟨na, 0, none⟩)] W fun e w' => e = .returned (.int .i64 0) ∧ w' = W := by
  obtain ⟨-, -, -, -, -, -, -, hx7, -⟩ := h.cell
  go_enter Try.func70, Try.ntmps70
  go_wp2
  go_ret
  exact ⟨rfl, rfl⟩
theorem STimes_C {B : Nat} {own op ot : Nat → Prop} {P X : List Int} (h : AG W B own gs na op ot A P X) (hs : A.st = .nilFunc) (hr : A.reads = true) (hl : X.length ≤ 1000) : Calls Try.prog 74 #[.pointer (some ⟨na, 0, none⟩)] W fun e w' => ∃ v, e = .returned v ∧ Kd.R (Kd.int .u64) 29 w' W.heap.size (fun _ => True) v X ∧ Below W.heap.size W w' := by
  have OV := Aside0.mk (SOver_done h.act hs)
  obtain ⟨-, -, -, hx3, -, -, -, -, -, -, hx10⟩ := h.act.cell
  obtain ⟨At, ct, ht, hct, hC⟩ := Kd.R_reads h.tm
  rw [hr] at hx10
  rw [ht] at hx3
  have CL := Aside0.mk (slices_CloneU.calls At ct X X W hC hct (by unfold slices_CloneU.f; exact if_pos (by omega)))
  clear h hC ht hct hl hs hr
  go_enter Try.func74, Try.ntmps74
  go_wp2_with (first | (go_at_call 76; ((with_reducible refine OV.out.mono ?_); rintro e w4 ⟨rfl, hw⟩; obtain rfl := hw.symm)) | (go_at_call 98; ((with_reducible refine CL.out.mono ?_); rintro e w5 ⟨v5, rfl, hr5, hb5⟩; have HR := Aside0.mk hr5; have HB := Aside0.mk hb5; obtain ⟨A5, n5, c5, rfl⟩ := R_any hr5; clear hr5 hb5)))
  go_ret
  exact ⟨_, rfl, HR.out, HB.out⟩
end
section
variable {W : World} {B : Nat} {own op ot : Nat → Prop} {gs na : Nat} {S S2 : SS} {A A2 : SA} {P X X2 T : List Int} {M2 : MS} {v hh : Int} {L : List S128}
theorem SStep99 (h : SP W B own gs na op ot S (SM v T hh L) A P X) (hs : A.st = stg 99) (hw : SW A L)
    (hstep : ∀ W1, SP W1 B own gs na op ot S (SM v T hh L) A P X → Calls Try.prog 99 #[.pointer (some ⟨na, 0, none⟩)] W1 fun e w' => e = .returned (.func (.func 115) #[] #[]) ∧ SPTo W1 w' B own gs na op ot S2 M2 A2 P X2) :
    Calls Try.prog 100 #[.pointer (some ⟨na, 0, none⟩)] W fun e w' => e = .returned (.bool false) ∧ SPTo W w' B own gs na op ot S2 M2 { A2 with st := (stg 115) } P X2 := by
  obtain ⟨hx0, hx1, -, -, -, -, -, -, hx8, -⟩ := h.a.act.cell
  obtain ⟨hy0, -⟩ := h.g.shot.cell
  have H := Aside0.mk h
  have H1 := Aside0.mk (h.below (below_drew (Below.refl _ W)))
  have OV := Aside0.mk (SOver_on H1.out.a.act hs)
  have AS0 := Asleep_C A.who hw.wf H1.out.g.mem
  replace AS0 : Calls Try.prog 44 #[.pointer (some ⟨S.gm, 0, none⟩), .int .i64 A.who] W.drew fun e w' => e = .returned (.bool false) ∧ w' = W.drew := AS0
  have ASL := Aside0.mk AS0
  have ST := Aside0.mk (hstep W.drew H1.out)
  rw [hs] at hx8
  unfold stg at hx8
  clear h AS0 hstep hs hw
  go_enter Try.func100, Try.ntmps100
  go_upto_region 1 with fail
  go_region_held3 (fun w' => w'.cell? ⟨na, 0, none⟩ = some (.pointer (some ⟨gs, 0, none⟩)) ∧ w'.cell? ⟨na, 1, none⟩ = some (.int .i64 A.who) ∧ w'.cell? ⟨gs, 0, none⟩ = some (.pointer (some ⟨S.gm, 0, none⟩)))
    (exact ⟨hx0, hx1, hy0⟩)
    (first | (go_at_call 76; ((with_reducible refine OV.out.mono ?_); rintro e w4 ⟨rfl, rfl⟩)) | (go_at_call 44; ((with_reducible refine ASL.out.mono ?_); rintro e w4 ⟨rfl, rfl⟩)))
  all_goals
    go_upto_region 3 with (first | (go_at_call 99; ((with_reducible refine ST.out.mono ?_); rintro e w5 ⟨rfl, hT⟩; obtain ⟨o1, hsp, hk1⟩ := SPTo.of_below H.out (below_drew (Below.refl _ W)) hT; have hq8 := hsp.a.act.cell.2.2.2.2.2.2.2.2.1; have hz8 := blk_frozen hsp.a.act 8; have HSP := Aside0.mk hsp; have HK1 := Aside0.mk hk1; clear hT hsp hk1)))
    have HS2 := Aside0.mk (SPTo.actTurn (A' := { A2 with st := (stg 115) }) HSP.out ((Kept.refl _ (fun k => k = na)).setCell (p := ⟨na, 8, none⟩) (.inl rfl) (.func (.func 115) #[] #[])) ((Below.refl B _).setCell (p := ⟨na, 8, none⟩) HSP.out.a.aB (.func (.func 115) #[] #[])) (blk_put HSP.out.a.act 8 (.func (.func 115) #[] #[]) rfl) rfl rfl)
    clear hx0 hx1 hx8 hy0 hq8 hz8
    generalize World.setCell _ _ _ = W2 at HS2 ⊢
    have HT2 := Aside0.mk (SPTo.seq HK1.out HS2.out)
    obtain ⟨o2, hsp, -⟩ := HT2.out
    have OV2 := Aside0.mk (SOver_on (f := 115) hsp.a.act rfl)
    clear hsp
    go_wp2_with (first | (go_at_call 76; ((with_reducible refine OV2.out.mono ?_); rintro e w6 ⟨rfl, hw6⟩; obtain rfl := hw6.symm)))
    go_ret
    exact ⟨rfl, HT2.out⟩
theorem SStep115 (h : SP W B own gs na op ot S (SM v T hh L) A P X) (hs : A.st = stg 115) (hw : SW A L)
    (hstep : ∀ W1, SP W1 B own gs na op ot S (SM v T hh L) A P X → Calls Try.prog 115 #[.pointer (some ⟨na, 0, none⟩)] W1 fun e w' => e = .returned (.func (.func 125) #[] #[]) ∧ SPTo W1 w' B own gs na op ot S2 M2 A2 P X2) :
    Calls Try.prog 100 #[.pointer (some ⟨na, 0, none⟩)] W fun e w' => e = .returned (.bool false) ∧ SPTo W w' B own gs na op ot S2 M2 { A2 with st := (stg 125) } P X2 := by
  obtain ⟨hx0, hx1, -, -, -, -, -, -, hx8, -⟩ := h.a.act.cell
  obtain ⟨hy0, -⟩ := h.g.shot.cell
  have H := Aside0.mk h
  have H1 := Aside0.mk (h.below (below_drew (Below.refl _ W)))
  have OV := Aside0.mk (SOver_on H1.out.a.act hs)
  have AS0 := Asleep_C A.who hw.wf H1.out.g.mem
  replace AS0 : Calls Try.prog 44 #[.pointer (some ⟨S.gm, 0, none⟩), .int .i64 A.who] W.drew fun e w' => e = .returned (.bool false) ∧ w' = W.drew := AS0
  have ASL := Aside0.mk AS0
  have ST := Aside0.mk (hstep W.drew H1.out)
  rw [hs] at hx8
  unfold stg at hx8
  clear h AS0 hstep hs hw
  go_enter Try.func100, Try.ntmps100
  go_upto_region 1 with fail
  go_region_held3 (fun w' => w'.cell? ⟨na, 0, none⟩ = some (.pointer (some ⟨gs, 0, none⟩)) ∧ w'.cell? ⟨na, 1, none⟩ = some (.int .i64 A.who) ∧ w'.cell? ⟨gs, 0, none⟩ = some (.pointer (some ⟨S.gm, 0, none⟩)))
    (exact ⟨hx0, hx1, hy0⟩)
    (first | (go_at_call 76; ((with_reducible refine OV.out.mono ?_); rintro e w4 ⟨rfl, rfl⟩)) | (go_at_call 44; ((with_reducible refine ASL.out.mono ?_); rintro e w4 ⟨rfl, rfl⟩)))
  all_goals
    go_upto_region 3 with (first | (go_at_call 115; ((with_reducible refine ST.out.mono ?_); rintro e w5 ⟨rfl, hT⟩; obtain ⟨o1, hsp, hk1⟩ := SPTo.of_below H.out (below_drew (Below.refl _ W)) hT; have hq8 := hsp.a.act.cell.2.2.2.2.2.2.2.2.1; have hz8 := blk_frozen hsp.a.act 8; have HSP := Aside0.mk hsp; have HK1 := Aside0.mk hk1; clear hT hsp hk1)))
    have HS2 := Aside0.mk (SPTo.actTurn (A' := { A2 with st := (stg 125) }) HSP.out ((Kept.refl _ (fun k => k = na)).setCell (p := ⟨na, 8, none⟩) (.inl rfl) (.func (.func 125) #[] #[])) ((Below.refl B _).setCell (p := ⟨na, 8, none⟩) HSP.out.a.aB (.func (.func 125) #[] #[])) (blk_put HSP.out.a.act 8 (.func (.func 125) #[] #[]) rfl) rfl rfl)
    clear hx0 hx1 hx8 hy0 hq8 hz8
    generalize World.setCell _ _ _ = W2 at HS2 ⊢
    have HT2 := Aside0.mk (SPTo.seq HK1.out HS2.out)
    obtain ⟨o2, hsp, -⟩ := HT2.out
    have OV2 := Aside0.mk (SOver_on (f := 125) hsp.a.act rfl)
    clear hsp
    go_wp2_with (first | (go_at_call 76; ((with_reducible refine OV2.out.mono ?_); rintro e w6 ⟨rfl, hw6⟩; obtain rfl := hw6.symm)))
    go_ret
    exact ⟨rfl, HT2.out⟩
theorem SStep125 (h : SP W B own gs na op ot S (SM v T hh L) A P X) (hs : A.st = stg 125) (hw : SW A L)
    (hstep : ∀ W1, SP W1 B own gs na op ot S (SM v T hh L) A P X → Calls Try.prog 125 #[.pointer (some ⟨na, 0, none⟩)] W1 fun e w' => e = .returned (.func (.func 125) #[] #[]) ∧ SPTo W1 w' B own gs na op ot S2 M2 A2 P X2) :
    Calls Try.prog 100 #[.pointer (some ⟨na, 0, none⟩)] W fun e w' => e = .returned (.bool false) ∧ SPTo W w' B own gs na op ot S2 M2 { A2 with st := (stg 125) } P X2 := by
  obtain ⟨hx0, hx1, -, -, -, -, -, -, hx8, -⟩ := h.a.act.cell
  obtain ⟨hy0, -⟩ := h.g.shot.cell
  have H := Aside0.mk h
  have H1 := Aside0.mk (h.below (below_drew (Below.refl _ W)))
  have OV := Aside0.mk (SOver_on H1.out.a.act hs)
  have AS0 := Asleep_C A.who hw.wf H1.out.g.mem
  replace AS0 : Calls Try.prog 44 #[.pointer (some ⟨S.gm, 0, none⟩), .int .i64 A.who] W.drew fun e w' => e = .returned (.bool false) ∧ w' = W.drew := AS0
  have ASL := Aside0.mk AS0
  have ST := Aside0.mk (hstep W.drew H1.out)
  rw [hs] at hx8
  unfold stg at hx8
  clear h AS0 hstep hs hw
  go_enter Try.func100, Try.ntmps100
  go_upto_region 1 with fail
  go_region_held3 (fun w' => w'.cell? ⟨na, 0, none⟩ = some (.pointer (some ⟨gs, 0, none⟩)) ∧ w'.cell? ⟨na, 1, none⟩ = some (.int .i64 A.who) ∧ w'.cell? ⟨gs, 0, none⟩ = some (.pointer (some ⟨S.gm, 0, none⟩)))
    (exact ⟨hx0, hx1, hy0⟩)
    (first | (go_at_call 76; ((with_reducible refine OV.out.mono ?_); rintro e w4 ⟨rfl, rfl⟩)) | (go_at_call 44; ((with_reducible refine ASL.out.mono ?_); rintro e w4 ⟨rfl, rfl⟩)))
  all_goals
    go_upto_region 3 with (first | (go_at_call 125; ((with_reducible refine ST.out.mono ?_); rintro e w5 ⟨rfl, hT⟩; obtain ⟨o1, hsp, hk1⟩ := SPTo.of_below H.out (below_drew (Below.refl _ W)) hT; have hq8 := hsp.a.act.cell.2.2.2.2.2.2.2.2.1; have hz8 := blk_frozen hsp.a.act 8; have HSP := Aside0.mk hsp; have HK1 := Aside0.mk hk1; clear hT hsp hk1)))
    have HS2 := Aside0.mk (SPTo.actTurn (A' := { A2 with st := (stg 125) }) HSP.out ((Kept.refl _ (fun k => k = na)).setCell (p := ⟨na, 8, none⟩) (.inl rfl) (.func (.func 125) #[] #[])) ((Below.refl B _).setCell (p := ⟨na, 8, none⟩) HSP.out.a.aB (.func (.func 125) #[] #[])) (blk_put HSP.out.a.act 8 (.func (.func 125) #[] #[]) rfl) rfl rfl)
    clear hx0 hx1 hx8 hy0 hq8 hz8
    generalize World.setCell _ _ _ = W2 at HS2 ⊢
    have HT2 := Aside0.mk (SPTo.seq HK1.out HS2.out)
    obtain ⟨o2, hsp, -⟩ := HT2.out
    have OV2 := Aside0.mk (SOver_on (f := 125) hsp.a.act rfl)
    clear hsp
    go_wp2_with (first | (go_at_call 76; ((with_reducible refine OV2.out.mono ?_); rintro e w6 ⟨rfl, hw6⟩; obtain rfl := hw6.symm)))
    go_ret
    exact ⟨rfl, HT2.out⟩
theorem SStep125l (h : SP W B own gs na op ot S (SM v T hh L) A P X) (hs : A.st = stg 125) (hw : SW A L)
    (hstep : ∀ W1, SP W1 B own gs na op ot S (SM v T hh L) A P X → Calls Try.prog 125 #[.pointer (some ⟨na, 0, none⟩)] W1 fun e w' => e = .returned (.func (.func 129) #[] #[]) ∧ SPTo W1 w' B own gs na op ot S2 M2 A2 P X2) :
    Calls Try.prog 100 #[.pointer (some ⟨na, 0, none⟩)] W fun e w' => e = .returned (.bool false) ∧ SPTo W w' B own gs na op ot S2 M2 { A2 with st := (stg 129) } P X2 := by
  obtain ⟨hx0, hx1, -, -, -, -, -, -, hx8, -⟩ := h.a.act.cell
  obtain ⟨hy0, -⟩ := h.g.shot.cell
  have H := Aside0.mk h
  have H1 := Aside0.mk (h.below (below_drew (Below.refl _ W)))
  have OV := Aside0.mk (SOver_on H1.out.a.act hs)
  have AS0 := Asleep_C A.who hw.wf H1.out.g.mem
  replace AS0 : Calls Try.prog 44 #[.pointer (some ⟨S.gm, 0, none⟩), .int .i64 A.who] W.drew fun e w' => e = .returned (.bool false) ∧ w' = W.drew := AS0
  have ASL := Aside0.mk AS0
  have ST := Aside0.mk (hstep W.drew H1.out)
  rw [hs] at hx8
  unfold stg at hx8
  clear h AS0 hstep hs hw
  go_enter Try.func100, Try.ntmps100
  go_upto_region 1 with fail
  go_region_held3 (fun w' => w'.cell? ⟨na, 0, none⟩ = some (.pointer (some ⟨gs, 0, none⟩)) ∧ w'.cell? ⟨na, 1, none⟩ = some (.int .i64 A.who) ∧ w'.cell? ⟨gs, 0, none⟩ = some (.pointer (some ⟨S.gm, 0, none⟩)))
    (exact ⟨hx0, hx1, hy0⟩)
    (first | (go_at_call 76; ((with_reducible refine OV.out.mono ?_); rintro e w4 ⟨rfl, rfl⟩)) | (go_at_call 44; ((with_reducible refine ASL.out.mono ?_); rintro e w4 ⟨rfl, rfl⟩)))
  all_goals
    go_upto_region 3 with (first | (go_at_call 125; ((with_reducible refine ST.out.mono ?_); rintro e w5 ⟨rfl, hT⟩; obtain ⟨o1, hsp, hk1⟩ := SPTo.of_below H.out (below_drew (Below.refl _ W)) hT; have hq8 := hsp.a.act.cell.2.2.2.2.2.2.2.2.1; have hz8 := blk_frozen hsp.a.act 8; have HSP := Aside0.mk hsp; have HK1 := Aside0.mk hk1; clear hT hsp hk1)))
    have HS2 := Aside0.mk (SPTo.actTurn (A' := { A2 with st := (stg 129) }) HSP.out ((Kept.refl _ (fun k => k = na)).setCell (p := ⟨na, 8, none⟩) (.inl rfl) (.func (.func 129) #[] #[])) ((Below.refl B _).setCell (p := ⟨na, 8, none⟩) HSP.out.a.aB (.func (.func 129) #[] #[])) (blk_put HSP.out.a.act 8 (.func (.func 129) #[] #[]) rfl) rfl rfl)
    clear hx0 hx1 hx8 hy0 hq8 hz8
    generalize World.setCell _ _ _ = W2 at HS2 ⊢
    have HT2 := Aside0.mk (SPTo.seq HK1.out HS2.out)
    obtain ⟨o2, hsp, -⟩ := HT2.out
    have OV2 := Aside0.mk (SOver_on (f := 129) hsp.a.act rfl)
    clear hsp
    go_wp2_with (first | (go_at_call 76; ((with_reducible refine OV2.out.mono ?_); rintro e w6 ⟨rfl, hw6⟩; obtain rfl := hw6.symm)))
    go_ret
    exact ⟨rfl, HT2.out⟩
theorem SStep129 (h : SP W B own gs na op ot S (SM v T hh L) A P X) (hs : A.st = stg 129) (hw : SW A L)
    (hstep : ∀ W1, SP W1 B own gs na op ot S (SM v T hh L) A P X → Calls Try.prog 129 #[.pointer (some ⟨na, 0, none⟩)] W1 fun e w' => e = .returned (.func (.func 127) #[] #[]) ∧ SPTo W1 w' B own gs na op ot S2 M2 A2 P X2) :
    Calls Try.prog 100 #[.pointer (some ⟨na, 0, none⟩)] W fun e w' => e = .returned (.bool false) ∧ SPTo W w' B own gs na op ot S2 M2 { A2 with st := (stg 127) } P X2 := by
  obtain ⟨hx0, hx1, -, -, -, -, -, -, hx8, -⟩ := h.a.act.cell
  obtain ⟨hy0, -⟩ := h.g.shot.cell
  have H := Aside0.mk h
  have H1 := Aside0.mk (h.below (below_drew (Below.refl _ W)))
  have OV := Aside0.mk (SOver_on H1.out.a.act hs)
  have AS0 := Asleep_C A.who hw.wf H1.out.g.mem
  replace AS0 : Calls Try.prog 44 #[.pointer (some ⟨S.gm, 0, none⟩), .int .i64 A.who] W.drew fun e w' => e = .returned (.bool false) ∧ w' = W.drew := AS0
  have ASL := Aside0.mk AS0
  have ST := Aside0.mk (hstep W.drew H1.out)
  rw [hs] at hx8
  unfold stg at hx8
  clear h AS0 hstep hs hw
  go_enter Try.func100, Try.ntmps100
  go_upto_region 1 with fail
  go_region_held3 (fun w' => w'.cell? ⟨na, 0, none⟩ = some (.pointer (some ⟨gs, 0, none⟩)) ∧ w'.cell? ⟨na, 1, none⟩ = some (.int .i64 A.who) ∧ w'.cell? ⟨gs, 0, none⟩ = some (.pointer (some ⟨S.gm, 0, none⟩)))
    (exact ⟨hx0, hx1, hy0⟩)
    (first | (go_at_call 76; ((with_reducible refine OV.out.mono ?_); rintro e w4 ⟨rfl, rfl⟩)) | (go_at_call 44; ((with_reducible refine ASL.out.mono ?_); rintro e w4 ⟨rfl, rfl⟩)))
  all_goals
    go_upto_region 3 with (first | (go_at_call 129; ((with_reducible refine ST.out.mono ?_); rintro e w5 ⟨rfl, hT⟩; obtain ⟨o1, hsp, hk1⟩ := SPTo.of_below H.out (below_drew (Below.refl _ W)) hT; have hq8 := hsp.a.act.cell.2.2.2.2.2.2.2.2.1; have hz8 := blk_frozen hsp.a.act 8; have HSP := Aside0.mk hsp; have HK1 := Aside0.mk hk1; clear hT hsp hk1)))
    have HS2 := Aside0.mk (SPTo.actTurn (A' := { A2 with st := (stg 127) }) HSP.out ((Kept.refl _ (fun k => k = na)).setCell (p := ⟨na, 8, none⟩) (.inl rfl) (.func (.func 127) #[] #[])) ((Below.refl B _).setCell (p := ⟨na, 8, none⟩) HSP.out.a.aB (.func (.func 127) #[] #[])) (blk_put HSP.out.a.act 8 (.func (.func 127) #[] #[]) rfl) rfl rfl)
    clear hx0 hx1 hx8 hy0 hq8 hz8
    generalize World.setCell _ _ _ = W2 at HS2 ⊢
    have HT2 := Aside0.mk (SPTo.seq HK1.out HS2.out)
    obtain ⟨o2, hsp, -⟩ := HT2.out
    have OV2 := Aside0.mk (SOver_on (f := 127) hsp.a.act rfl)
    clear hsp
    go_wp2_with (first | (go_at_call 76; ((with_reducible refine OV2.out.mono ?_); rintro e w6 ⟨rfl, hw6⟩; obtain rfl := hw6.symm)))
    go_ret
    exact ⟨rfl, HT2.out⟩
theorem SStep127 (h : SP W B own gs na op ot S (SM v T hh L) A P X) (hs : A.st = stg 127) (hw : SW A L)
    (hstep : ∀ W1, SP W1 B own gs na op ot S (SM v T hh L) A P X → Calls Try.prog 127 #[.pointer (some ⟨na, 0, none⟩)] W1 fun e w' => e = .returned .nilFunc ∧ SPTo W1 w' B own gs na op ot S2 M2 A2 P X2) :
    Calls Try.prog 100 #[.pointer (some ⟨na, 0, none⟩)] W fun e w' => e = .returned (.bool true) ∧ SPTo W w' B own gs na op ot S2 M2 { A2 with st := .nilFunc } P X2 := by
  obtain ⟨hx0, hx1, -, -, -, -, -, -, hx8, -⟩ := h.a.act.cell
  obtain ⟨hy0, -⟩ := h.g.shot.cell
  have H := Aside0.mk h
  have H1 := Aside0.mk (h.below (below_drew (Below.refl _ W)))
  have OV := Aside0.mk (SOver_on H1.out.a.act hs)
  have AS0 := Asleep_C A.who hw.wf H1.out.g.mem
  replace AS0 : Calls Try.prog 44 #[.pointer (some ⟨S.gm, 0, none⟩), .int .i64 A.who] W.drew fun e w' => e = .returned (.bool false) ∧ w' = W.drew := AS0
  have ASL := Aside0.mk AS0
  have ST := Aside0.mk (hstep W.drew H1.out)
  rw [hs] at hx8
  unfold stg at hx8
  clear h AS0 hstep hs hw
  go_enter Try.func100, Try.ntmps100
  go_upto_region 1 with fail
  go_region_held3 (fun w' => w'.cell? ⟨na, 0, none⟩ = some (.pointer (some ⟨gs, 0, none⟩)) ∧ w'.cell? ⟨na, 1, none⟩ = some (.int .i64 A.who) ∧ w'.cell? ⟨gs, 0, none⟩ = some (.pointer (some ⟨S.gm, 0, none⟩)))
    (exact ⟨hx0, hx1, hy0⟩)
    (first | (go_at_call 76; ((with_reducible refine OV.out.mono ?_); rintro e w4 ⟨rfl, rfl⟩)) | (go_at_call 44; ((with_reducible refine ASL.out.mono ?_); rintro e w4 ⟨rfl, rfl⟩)))
  all_goals
    go_upto_region 3 with (first | (go_at_call 127; ((with_reducible refine ST.out.mono ?_); rintro e w5 ⟨rfl, hT⟩; obtain ⟨o1, hsp, hk1⟩ := SPTo.of_below H.out (below_drew (Below.refl _ W)) hT; have hq8 := hsp.a.act.cell.2.2.2.2.2.2.2.2.1; have hz8 := blk_frozen hsp.a.act 8; have HSP := Aside0.mk hsp; have HK1 := Aside0.mk hk1; clear hT hsp hk1)))
    have HS2 := Aside0.mk (SPTo.actTurn (A' := { A2 with st := .nilFunc }) HSP.out ((Kept.refl _ (fun k => k = na)).setCell (p := ⟨na, 8, none⟩) (.inl rfl) .nilFunc) ((Below.refl B _).setCell (p := ⟨na, 8, none⟩) HSP.out.a.aB .nilFunc) (blk_put HSP.out.a.act 8 .nilFunc rfl) rfl rfl)
    clear hx0 hx1 hx8 hy0 hq8 hz8
    generalize World.setCell _ _ _ = W2 at HS2 ⊢
    have HT2 := Aside0.mk (SPTo.seq HK1.out HS2.out)
    obtain ⟨o2, hsp, -⟩ := HT2.out
    have OV2 := Aside0.mk (SOver_done hsp.a.act rfl)
    clear hsp
    go_wp2_with (first | (go_at_call 76; ((with_reducible refine OV2.out.mono ?_); rintro e w6 ⟨rfl, hw6⟩; obtain rfl := hw6.symm)))
    go_ret
    exact ⟨rfl, HT2.out⟩
theorem SStep105 (h : SP W B own gs na op ot S (SM v T hh L) A P X) (hs : A.st = stg 105) (hw : SW A L)
    (hstep : ∀ W1, SP W1 B own gs na op ot S (SM v T hh L) A P X → Calls Try.prog 105 #[.pointer (some ⟨na, 0, none⟩)] W1 fun e w' => e = .returned (.func (.func 118) #[] #[]) ∧ SPTo W1 w' B own gs na op ot S2 M2 A2 P X2) :
    Calls Try.prog 100 #[.pointer (some ⟨na, 0, none⟩)] W fun e w' => e = .returned (.bool false) ∧ SPTo W w' B own gs na op ot S2 M2 { A2 with st := (stg 118) } P X2 := by
  obtain ⟨hx0, hx1, -, -, -, -, -, -, hx8, -⟩ := h.a.act.cell
  obtain ⟨hy0, -⟩ := h.g.shot.cell
  have H := Aside0.mk h
  have H1 := Aside0.mk (h.below (below_drew (Below.refl _ W)))
  have OV := Aside0.mk (SOver_on H1.out.a.act hs)
  have AS0 := Asleep_C A.who hw.wf H1.out.g.mem
  replace AS0 : Calls Try.prog 44 #[.pointer (some ⟨S.gm, 0, none⟩), .int .i64 A.who] W.drew fun e w' => e = .returned (.bool false) ∧ w' = W.drew := AS0
  have ASL := Aside0.mk AS0
  have ST := Aside0.mk (hstep W.drew H1.out)
  rw [hs] at hx8
  unfold stg at hx8
  clear h AS0 hstep hs hw
  go_enter Try.func100, Try.ntmps100
  go_upto_region 1 with fail
  go_region_held3 (fun w' => w'.cell? ⟨na, 0, none⟩ = some (.pointer (some ⟨gs, 0, none⟩)) ∧ w'.cell? ⟨na, 1, none⟩ = some (.int .i64 A.who) ∧ w'.cell? ⟨gs, 0, none⟩ = some (.pointer (some ⟨S.gm, 0, none⟩)))
    (exact ⟨hx0, hx1, hy0⟩)
    (first | (go_at_call 76; ((with_reducible refine OV.out.mono ?_); rintro e w4 ⟨rfl, rfl⟩)) | (go_at_call 44; ((with_reducible refine ASL.out.mono ?_); rintro e w4 ⟨rfl, rfl⟩)))
  all_goals
    go_upto_region 3 with (first | (go_at_call 105; ((with_reducible refine ST.out.mono ?_); rintro e w5 ⟨rfl, hT⟩; obtain ⟨o1, hsp, hk1⟩ := SPTo.of_below H.out (below_drew (Below.refl _ W)) hT; have hq8 := hsp.a.act.cell.2.2.2.2.2.2.2.2.1; have hz8 := blk_frozen hsp.a.act 8; have HSP := Aside0.mk hsp; have HK1 := Aside0.mk hk1; clear hT hsp hk1)))
    have HS2 := Aside0.mk (SPTo.actTurn (A' := { A2 with st := (stg 118) }) HSP.out ((Kept.refl _ (fun k => k = na)).setCell (p := ⟨na, 8, none⟩) (.inl rfl) (.func (.func 118) #[] #[])) ((Below.refl B _).setCell (p := ⟨na, 8, none⟩) HSP.out.a.aB (.func (.func 118) #[] #[])) (blk_put HSP.out.a.act 8 (.func (.func 118) #[] #[]) rfl) rfl rfl)
    clear hx0 hx1 hx8 hy0 hq8 hz8
    generalize World.setCell _ _ _ = W2 at HS2 ⊢
    have HT2 := Aside0.mk (SPTo.seq HK1.out HS2.out)
    obtain ⟨o2, hsp, -⟩ := HT2.out
    have OV2 := Aside0.mk (SOver_on (f := 118) hsp.a.act rfl)
    clear hsp
    go_wp2_with (first | (go_at_call 76; ((with_reducible refine OV2.out.mono ?_); rintro e w6 ⟨rfl, hw6⟩; obtain rfl := hw6.symm)))
    go_ret
    exact ⟨rfl, HT2.out⟩
theorem SStep118 (h : SP W B own gs na op ot S (SM v T hh L) A P X) (hs : A.st = stg 118) (hw : SW A L)
    (hstep : ∀ W1, SP W1 B own gs na op ot S (SM v T hh L) A P X → Calls Try.prog 118 #[.pointer (some ⟨na, 0, none⟩)] W1 fun e w' => e = .returned (.func (.func 118) #[] #[]) ∧ SPTo W1 w' B own gs na op ot S2 M2 A2 P X2) :
    Calls Try.prog 100 #[.pointer (some ⟨na, 0, none⟩)] W fun e w' => e = .returned (.bool false) ∧ SPTo W w' B own gs na op ot S2 M2 { A2 with st := (stg 118) } P X2 := by
  obtain ⟨hx0, hx1, -, -, -, -, -, -, hx8, -⟩ := h.a.act.cell
  obtain ⟨hy0, -⟩ := h.g.shot.cell
  have H := Aside0.mk h
  have H1 := Aside0.mk (h.below (below_drew (Below.refl _ W)))
  have OV := Aside0.mk (SOver_on H1.out.a.act hs)
  have AS0 := Asleep_C A.who hw.wf H1.out.g.mem
  replace AS0 : Calls Try.prog 44 #[.pointer (some ⟨S.gm, 0, none⟩), .int .i64 A.who] W.drew fun e w' => e = .returned (.bool false) ∧ w' = W.drew := AS0
  have ASL := Aside0.mk AS0
  have ST := Aside0.mk (hstep W.drew H1.out)
  rw [hs] at hx8
  unfold stg at hx8
  clear h AS0 hstep hs hw
  go_enter Try.func100, Try.ntmps100
  go_upto_region 1 with fail
  go_region_held3 (fun w' => w'.cell? ⟨na, 0, none⟩ = some (.pointer (some ⟨gs, 0, none⟩)) ∧ w'.cell? ⟨na, 1, none⟩ = some (.int .i64 A.who) ∧ w'.cell? ⟨gs, 0, none⟩ = some (.pointer (some ⟨S.gm, 0, none⟩)))
    (exact ⟨hx0, hx1, hy0⟩)
    (first | (go_at_call 76; ((with_reducible refine OV.out.mono ?_); rintro e w4 ⟨rfl, rfl⟩)) | (go_at_call 44; ((with_reducible refine ASL.out.mono ?_); rintro e w4 ⟨rfl, rfl⟩)))
  all_goals
    go_upto_region 3 with (first | (go_at_call 118; ((with_reducible refine ST.out.mono ?_); rintro e w5 ⟨rfl, hT⟩; obtain ⟨o1, hsp, hk1⟩ := SPTo.of_below H.out (below_drew (Below.refl _ W)) hT; have hq8 := hsp.a.act.cell.2.2.2.2.2.2.2.2.1; have hz8 := blk_frozen hsp.a.act 8; have HSP := Aside0.mk hsp; have HK1 := Aside0.mk hk1; clear hT hsp hk1)))
    have HS2 := Aside0.mk (SPTo.actTurn (A' := { A2 with st := (stg 118) }) HSP.out ((Kept.refl _ (fun k => k = na)).setCell (p := ⟨na, 8, none⟩) (.inl rfl) (.func (.func 118) #[] #[])) ((Below.refl B _).setCell (p := ⟨na, 8, none⟩) HSP.out.a.aB (.func (.func 118) #[] #[])) (blk_put HSP.out.a.act 8 (.func (.func 118) #[] #[]) rfl) rfl rfl)
    clear hx0 hx1 hx8 hy0 hq8 hz8
    generalize World.setCell _ _ _ = W2 at HS2 ⊢
    have HT2 := Aside0.mk (SPTo.seq HK1.out HS2.out)
    obtain ⟨o2, hsp, -⟩ := HT2.out
    have OV2 := Aside0.mk (SOver_on (f := 118) hsp.a.act rfl)
    clear hsp
    go_wp2_with (first | (go_at_call 76; ((with_reducible refine OV2.out.mono ?_); rintro e w6 ⟨rfl, hw6⟩; obtain rfl := hw6.symm)))
    go_ret
    exact ⟨rfl, HT2.out⟩
theorem SStep118l (h : SP W B own gs na op ot S (SM v T hh L) A P X) (hs : A.st = stg 118) (hw : SW A L)
    (hstep : ∀ W1, SP W1 B own gs na op ot S (SM v T hh L) A P X → Calls Try.prog 118 #[.pointer (some ⟨na, 0, none⟩)] W1 fun e w' => e = .returned (.func (.func 128) #[] #[]) ∧ SPTo W1 w' B own gs na op ot S2 M2 A2 P X2) :
    Calls Try.prog 100 #[.pointer (some ⟨na, 0, none⟩)] W fun e w' => e = .returned (.bool false) ∧ SPTo W w' B own gs na op ot S2 M2 { A2 with st := (stg 128) } P X2 := by
  obtain ⟨hx0, hx1, -, -, -, -, -, -, hx8, -⟩ := h.a.act.cell
  obtain ⟨hy0, -⟩ := h.g.shot.cell
  have H := Aside0.mk h
  have H1 := Aside0.mk (h.below (below_drew (Below.refl _ W)))
  have OV := Aside0.mk (SOver_on H1.out.a.act hs)
  have AS0 := Asleep_C A.who hw.wf H1.out.g.mem
  replace AS0 : Calls Try.prog 44 #[.pointer (some ⟨S.gm, 0, none⟩), .int .i64 A.who] W.drew fun e w' => e = .returned (.bool false) ∧ w' = W.drew := AS0
  have ASL := Aside0.mk AS0
  have ST := Aside0.mk (hstep W.drew H1.out)
  rw [hs] at hx8
  unfold stg at hx8
  clear h AS0 hstep hs hw
  go_enter Try.func100, Try.ntmps100
  go_upto_region 1 with fail
  go_region_held3 (fun w' => w'.cell? ⟨na, 0, none⟩ = some (.pointer (some ⟨gs, 0, none⟩)) ∧ w'.cell? ⟨na, 1, none⟩ = some (.int .i64 A.who) ∧ w'.cell? ⟨gs, 0, none⟩ = some (.pointer (some ⟨S.gm, 0, none⟩)))
    (exact ⟨hx0, hx1, hy0⟩)
    (first | (go_at_call 76; ((with_reducible refine OV.out.mono ?_); rintro e w4 ⟨rfl, rfl⟩)) | (go_at_call 44; ((with_reducible refine ASL.out.mono ?_); rintro e w4 ⟨rfl, rfl⟩)))
  all_goals
    go_upto_region 3 with (first | (go_at_call 118; ((with_reducible refine ST.out.mono ?_); rintro e w5 ⟨rfl, hT⟩; obtain ⟨o1, hsp, hk1⟩ := SPTo.of_below H.out (below_drew (Below.refl _ W)) hT; have hq8 := hsp.a.act.cell.2.2.2.2.2.2.2.2.1; have hz8 := blk_frozen hsp.a.act 8; have HSP := Aside0.mk hsp; have HK1 := Aside0.mk hk1; clear hT hsp hk1)))
    have HS2 := Aside0.mk (SPTo.actTurn (A' := { A2 with st := (stg 128) }) HSP.out ((Kept.refl _ (fun k => k = na)).setCell (p := ⟨na, 8, none⟩) (.inl rfl) (.func (.func 128) #[] #[])) ((Below.refl B _).setCell (p := ⟨na, 8, none⟩) HSP.out.a.aB (.func (.func 128) #[] #[])) (blk_put HSP.out.a.act 8 (.func (.func 128) #[] #[]) rfl) rfl rfl)
    clear hx0 hx1 hx8 hy0 hq8 hz8
    generalize World.setCell _ _ _ = W2 at HS2 ⊢
    have HT2 := Aside0.mk (SPTo.seq HK1.out HS2.out)
    obtain ⟨o2, hsp, -⟩ := HT2.out
    have OV2 := Aside0.mk (SOver_on (f := 128) hsp.a.act rfl)
    clear hsp
    go_wp2_with (first | (go_at_call 76; ((with_reducible refine OV2.out.mono ?_); rintro e w6 ⟨rfl, hw6⟩; obtain rfl := hw6.symm)))
    go_ret
    exact ⟨rfl, HT2.out⟩
theorem SStep128 (h : SP W B own gs na op ot S (SM v T hh L) A P X) (hs : A.st = stg 128) (hw : SW A L)
    (hstep : ∀ W1, SP W1 B own gs na op ot S (SM v T hh L) A P X → Calls Try.prog 128 #[.pointer (some ⟨na, 0, none⟩)] W1 fun e w' => e = .returned .nilFunc ∧ SPTo W1 w' B own gs na op ot S2 M2 A2 P X2) :
    Calls Try.prog 100 #[.pointer (some ⟨na, 0, none⟩)] W fun e w' => e = .returned (.bool true) ∧ SPTo W w' B own gs na op ot S2 M2 { A2 with st := .nilFunc } P X2 := by
  obtain ⟨hx0, hx1, -, -, -, -, -, -, hx8, -⟩ := h.a.act.cell
  obtain ⟨hy0, -⟩ := h.g.shot.cell
  have H := Aside0.mk h
  have H1 := Aside0.mk (h.below (below_drew (Below.refl _ W)))
  have OV := Aside0.mk (SOver_on H1.out.a.act hs)
  have AS0 := Asleep_C A.who hw.wf H1.out.g.mem
  replace AS0 : Calls Try.prog 44 #[.pointer (some ⟨S.gm, 0, none⟩), .int .i64 A.who] W.drew fun e w' => e = .returned (.bool false) ∧ w' = W.drew := AS0
  have ASL := Aside0.mk AS0
  have ST := Aside0.mk (hstep W.drew H1.out)
  rw [hs] at hx8
  unfold stg at hx8
  clear h AS0 hstep hs hw
  go_enter Try.func100, Try.ntmps100
  go_upto_region 1 with fail
  go_region_held3 (fun w' => w'.cell? ⟨na, 0, none⟩ = some (.pointer (some ⟨gs, 0, none⟩)) ∧ w'.cell? ⟨na, 1, none⟩ = some (.int .i64 A.who) ∧ w'.cell? ⟨gs, 0, none⟩ = some (.pointer (some ⟨S.gm, 0, none⟩)))
    (exact ⟨hx0, hx1, hy0⟩)
    (first | (go_at_call 76; ((with_reducible refine OV.out.mono ?_); rintro e w4 ⟨rfl, rfl⟩)) | (go_at_call 44; ((with_reducible refine ASL.out.mono ?_); rintro e w4 ⟨rfl, rfl⟩)))
  all_goals
    go_upto_region 3 with (first | (go_at_call 128; ((with_reducible refine ST.out.mono ?_); rintro e w5 ⟨rfl, hT⟩; obtain ⟨o1, hsp, hk1⟩ := SPTo.of_below H.out (below_drew (Below.refl _ W)) hT; have hq8 := hsp.a.act.cell.2.2.2.2.2.2.2.2.1; have hz8 := blk_frozen hsp.a.act 8; have HSP := Aside0.mk hsp; have HK1 := Aside0.mk hk1; clear hT hsp hk1)))
    have HS2 := Aside0.mk (SPTo.actTurn (A' := { A2 with st := .nilFunc }) HSP.out ((Kept.refl _ (fun k => k = na)).setCell (p := ⟨na, 8, none⟩) (.inl rfl) .nilFunc) ((Below.refl B _).setCell (p := ⟨na, 8, none⟩) HSP.out.a.aB .nilFunc) (blk_put HSP.out.a.act 8 .nilFunc rfl) rfl rfl)
    clear hx0 hx1 hx8 hy0 hq8 hz8
    generalize World.setCell _ _ _ = W2 at HS2 ⊢
    have HT2 := Aside0.mk (SPTo.seq HK1.out HS2.out)
    obtain ⟨o2, hsp, -⟩ := HT2.out
    have OV2 := Aside0.mk (SOver_done hsp.a.act rfl)
    clear hsp
    go_wp2_with (first | (go_at_call 76; ((with_reducible refine OV2.out.mono ?_); rintro e w6 ⟨rfl, hw6⟩; obtain rfl := hw6.symm)))
    go_ret
    exact ⟨rfl, HT2.out⟩
end
theorem sfinish_gen {W : World} {na : Nat} (n : Nat) (hn : 1 ≤ n ∧ n ≤ 200) (St : Nat → World → Prop) (Fin : World → Prop) (h0 : St 0 W)
    (hs : ∀ i, i + 1 < n → ∀ w, St i w → Calls Try.prog 100 #[.pointer (some ⟨na, 0, none⟩)] w fun e w' => e = .returned (.bool false) ∧ St (i + 1) w')
    (he : ∀ i, i + 1 = n → ∀ w, St i w → Calls Try.prog 100 #[.pointer (some ⟨na, 0, none⟩)] w fun e w' => e = .returned (.bool true) ∧ Fin w')
    (hov : ∀ w, Fin w → Calls Try.prog 76 #[.pointer (some ⟨na, 0, none⟩)] w fun e w' => e = .returned (.bool true) ∧ w' = w) :
    Calls Try.prog 69 #[.pointer (some ⟨na, 0, none⟩)] W fun e w' => e = .returned (.bool true) ∧ Fin w' := by
  have HS := Aside0.mk hs
  have HE := Aside0.mk he
  have HOV := Aside0.mk hov
  have HN := Aside0.mk hn
  have H0 := Aside0.mk h0
  clear hs he hov hn h0
  go_enter Try.func69, Try.ntmps69
  go_wp2
  go_loopw [3] (fun v3 wr => ∃ i : Nat, v3 = .int .i64 (i : Int) ∧ Aside0 (i < n ∧ St i wr)) (fun v3 _ => (300 - intOf v3).toNat)
  case atStart => exact ⟨0, rfl, ⟨by have := HN.out; omega, H0.out⟩⟩
  case round =>
    obtain ⟨i, rfl, HI⟩ := hrel
    have d1 := decide_eq_true (show (i : Int) < 256 by have := HN.out; have := HI.out.1; omega)
    have hw : IntKind.i64.wrap ((i : Int) + 1) = (i : Int) + 1 := by rw [IntKind.wrap_i64]; have := HN.out; have := HI.out.1; omega
    by_cases hi : i + 1 = n
    · have HC := Aside0.mk (HE.out i hi _ HI.out.2)
      clear hi
      go_wp2_with (first | (go_at_call 100; ((with_reducible refine HC.out.mono ?_); rintro e w2 ⟨rfl, hf⟩; have HF := Aside0.mk hf; have HO := Aside0.mk (HOV.out _ hf); clear hf)) | (go_at_call 76; ((with_reducible refine HO.out.mono ?_); rintro e w3 ⟨rfl, hw3⟩; obtain rfl : w2 = w3 := hw3.symm)))
      go_ret
      exact ⟨rfl, HF.out⟩
    · have HC := Aside0.mk (HS.out i (by have := HI.out.1; omega) _ HI.out.2)
      have HLT := Aside0.mk (show i + 1 < n by have := HI.out.1; omega)
      clear hi
      go_wp2_with (first | (go_at_call 100; ((with_reducible refine HC.out.mono ?_); rintro e w2 ⟨rfl, hf⟩; have HF := Aside0.mk hf; clear hf)))
      go_roundw
      case rel => exact ⟨i + 1, by first | rfl | exact congrArg _ hw, ⟨HLT.out, HF.out⟩⟩
      case measure => have := HN.out; have := HLT.out; simp only [intOf]; omega
theorem lay_next {X T : List Int} {i : Nat} (hi : i < X.length) (hl : X.length = T.length) : (X.take i ++ T.drop i).set i (X[i]?.getD 0) = X.take (i + 1) ++ T.drop (i + 1) := by
  apply List.ext_getElem?
  intro k
  have h1 : (X.take i).length = i := by rw [List.length_take]; omega
  have h2 : (X.take (i + 1)).length = i + 1 := by rw [List.length_take]; omega
  rw [List.getElem?_set]
  by_cases hk : i = k
  · subst hk
    rw [if_pos rfl, if_pos (by rw [List.length_append, h1, List.length_drop]; omega), List.getElem?_append_left (by omega), List.getElem?_take_of_lt (by omega), List.getElem?_eq_getElem hi]
    rfl
  · rw [if_neg hk]
    by_cases hlt : k < i
    · rw [List.getElem?_append_left (by omega), List.getElem?_append_left (by omega), List.getElem?_take_of_lt hlt, List.getElem?_take_of_lt (by omega)]
    · rw [List.getElem?_append_right (by omega), List.getElem?_append_right (by omega), h1, h2, List.getElem?_drop, List.getElem?_drop]
      congr 1
      omega
theorem rd_nat (X : List Int) (i : Nat) : rd X (i : Int) = X[i]?.getD 0 := by
  unfold rd
  rw [Int.toNat_natCast, List.getD_eq_getElem?_getD]
section
variable {W w w' : World} {B : Nat} {own op ot : Nat → Prop} {gs na : Nat} {S : SS} {A : SA} {P X T : List Int} {v : Int} {L : List S128} {j L0 : Nat}
def PubSt (W : World) (B : Nat) (own : Nat → Prop) (gs na : Nat) (op ot : Nat → Prop) (S : SS) (A : SA) (P X T : List Int) (v : Int) (L0 j : Nat) (w : World) : Prop :=
  ∃ L' : List S128, L'.length = L0 + j ∧ ((j = 0 ∧ SPTo W w B own gs na op ot S (SM v T (-1) L') A P X) ∨
    (j = 1 ∧ SPTo W w B own gs na op ot S (SM v T A.who L') { A with st := stg 115 } P X) ∨
    (∃ i, i < X.length ∧ j = i + 2 ∧ SPTo W w B own gs na op ot { S with ver := v + 1 } (SM (v + 1) (X.take i ++ T.drop i) A.who L') { A with st := stg 125, i := (i : Int) } P X) ∨
    (j = X.length + 2 ∧ SPTo W w B own gs na op ot { S with ver := v + 1 } (SM (v + 1) X A.who L') { A with st := stg 129, i := (X.length : Int) } P X) ∨
    (j = X.length + 3 ∧ SPTo W w B own gs na op ot { S with ver := v + 1 + 1 } (SM (v + 1 + 1) X A.who L') { A with st := stg 127, i := (X.length : Int), mark := ((L0 + X.length + 3 : Nat) : Int) } P X))
def PubFin (W : World) (B : Nat) (own : Nat → Prop) (gs na : Nat) (op ot : Nat → Prop) (S : SS) (A : SA) (P X : List Int) (v : Int) (L0 : Nat) (w : World) : Prop :=
  ∃ L' : List S128, L'.length = L0 + X.length + 4 ∧ SPTo W w B own gs na op ot { S with ver := v + 1 + 1 } (SM (v + 1 + 1) X (-1) L') { A with st := .nilFunc, i := (X.length : Int), mark := ((L0 + X.length + 3 : Nat) : Int) } P X
theorem len1 {L : List S128} (x : S128) : (L ++ [x]).length = L.length + 1 := by simp
theorem pub_step (hv : S.ver = v) (hb : 0 ≤ v ∧ v ≤ 900000) (hst : A.st = stg 99) (hi : A.i = 0) (hw : 0 ≤ A.who ∧ (Lit.int .i64 A.who).wf = true) (hX : X.length = T.length ∧ 1 ≤ X.length ∧ X.length ≤ 64) (hl : L0 ≤ 800000) (hj : j + 1 < X.length + 4) (h : PubSt W B own gs na op ot S A P X T v L0 j w) :
    Calls Try.prog 100 #[.pointer (some ⟨na, 0, none⟩)] w fun e w' => e = .returned (.bool false) ∧ PubSt W B own gs na op ot S A P X T v L0 (j + 1) w' := by
  obtain ⟨L', hL, h⟩ := h
  have hll : L'.length ≤ 900000 := by omega
  rcases h with ⟨rfl, h⟩ | ⟨rfl, h⟩ | ⟨i, hix, rfl, h⟩ | ⟨rfl, h⟩ | ⟨rfl, h⟩
  · obtain ⟨o1, hsp, hk⟩ := h
    refine (SStep99 hsp hst ⟨hw.1, hw.2, hll⟩ (fun W1 h1 => grab_C h1 ⟨hw.1, hw.2, hll⟩)).mono ?_
    rintro e w' ⟨rfl, h2⟩
    exact ⟨rfl, _, (len1 _).trans (by omega), .inr (.inl ⟨rfl, SPTo.seq hk h2⟩)⟩
  · obtain ⟨o1, hsp, hk⟩ := h
    refine (SStep115 hsp rfl ⟨hw.1, hw.2, hll⟩ (fun W1 h1 => open_C h1 ⟨hw.1, hw.2, hll⟩ hv ⟨hb.1, by omega⟩)).mono ?_
    rintro e w' ⟨rfl, h2⟩
    have h3 := SPTo.seq hk h2
    have e1 : T = X.take 0 ++ T.drop 0 := by simp
    have e2 : (({ A with st := stg 125 } : SA)) = { A with st := stg 125, i := ((0 : Nat) : Int) } := by rw [show ((0 : Nat) : Int) = A.i from hi.symm]
    replace h3 : SPTo W w' B own gs na op ot { S with ver := v + 1 } (SM (v + 1) T A.who (L' ++ [⟨A.who, 1, 1, true⟩])) { A with st := stg 125 } P X := h3
    rw [e2] at h3
    exact ⟨rfl, L' ++ [_], (len1 _).trans (by omega), .inr (.inr (.inl ⟨0, by omega, rfl, by rw [← e1]; exact h3⟩))⟩
  · obtain ⟨o1, hsp, hk⟩ := h
    have hT : X.length = (X.take i ++ T.drop i).length := by rw [List.length_append, List.length_take, List.length_drop]; omega
    have hn : (X.take i ++ T.drop i).set i (rd X (i : Int)) = X.take (i + 1) ++ T.drop (i + 1) := by rw [rd_nat]; exact lay_next hix hX.1
    by_cases hlast : i + 1 < X.length
    · refine (SStep125 hsp rfl ⟨hw.1, hw.2, hll⟩ (fun W1 h1 => lay_C false h1 ⟨hw.1, hw.2, hll⟩ rfl ⟨hT, by omega⟩ (by omega) (decide_eq_true (by omega)))).mono ?_
      rintro e w' ⟨rfl, h2⟩
      rw [hn] at h2
      exact ⟨rfl, _, (len1 _).trans (by omega), .inr (.inr (.inl ⟨i + 1, hlast, rfl, SPTo.seq hk h2⟩))⟩
    · refine (SStep125l hsp rfl ⟨hw.1, hw.2, hll⟩ (fun W1 h1 => lay_C true h1 ⟨hw.1, hw.2, hll⟩ rfl ⟨hT, by omega⟩ (by omega) (decide_eq_false (by omega)))).mono ?_
      rintro e w' ⟨rfl, h2⟩
      have he : i + 1 = X.length := by omega
      rw [hn, he, List.take_length, List.drop_eq_nil_of_le (by omega), List.append_nil] at h2
      have h3 := SPTo.seq hk h2
      rw [show (i : Int) + 1 = (X.length : Int) by omega] at h3
      exact ⟨rfl, _, (len1 _).trans (by omega), .inr (.inr (.inr (.inl ⟨by omega, h3⟩)))⟩
  · obtain ⟨o1, hsp, hk⟩ := h
    refine (SStep129 hsp rfl ⟨hw.1, hw.2, hll⟩ (fun W1 h1 => shut_C h1 ⟨hw.1, hw.2, hll⟩ rfl ⟨by omega, by omega⟩)).mono ?_
    rintro e w' ⟨rfl, h2⟩
    have h3 := SPTo.seq hk h2
    rw [show (L'.length : Int) + 1 = ((L0 + X.length + 3 : Nat) : Int) by omega] at h3
    exact ⟨rfl, _, (len1 _).trans (by omega), .inr (.inr (.inr (.inr ⟨rfl, h3⟩)))⟩
  · omega
theorem pub_last (hv : S.ver = v) (hw : 0 ≤ A.who ∧ (Lit.int .i64 A.who).wf = true) (hX : 1 ≤ X.length ∧ X.length ≤ 64) (hl : L0 ≤ 800000) (hj : j + 1 = X.length + 4) (h : PubSt W B own gs na op ot S A P X T v L0 j w) :
    Calls Try.prog 100 #[.pointer (some ⟨na, 0, none⟩)] w fun e w' => e = .returned (.bool true) ∧ PubFin W B own gs na op ot S A P X v L0 w' := by
  obtain ⟨L', hL, h⟩ := h
  have hll : L'.length ≤ 900000 := by omega
  rcases h with ⟨rfl, h⟩ | ⟨rfl, h⟩ | ⟨i, hix, rfl, h⟩ | ⟨rfl, h⟩ | ⟨rfl, h⟩
  · omega
  · omega
  · omega
  · omega
  · obtain ⟨o1, hsp, hk⟩ := h
    refine (SStep127 hsp rfl ⟨hw.1, hw.2, hll⟩ (fun W1 h1 => free_C (A := { A with st := stg 127, i := (X.length : Int), mark := ((L0 + X.length + 3 : Nat) : Int) }) h1 ⟨hw.1, hw.2, hll⟩)).mono ?_
    rintro e w' ⟨rfl, h2⟩
    exact ⟨rfl, _, (len1 _).trans (by omega), SPTo.seq hk h2⟩
theorem pub_finish (h : SP W B own gs na op ot S (SM v T (-1) L) A P X) (hv : S.ver = v) (hb : 0 ≤ v ∧ v ≤ 900000) (hst : A.st = stg 99) (hi : A.i = 0) (hw : 0 ≤ A.who ∧ (Lit.int .i64 A.who).wf = true) (hX : X.length = T.length ∧ 1 ≤ X.length ∧ X.length ≤ 64) (hl : L.length ≤ 800000) :
    Calls Try.prog 69 #[.pointer (some ⟨na, 0, none⟩)] W fun e w' => e = .returned (.bool true) ∧ PubFin W B own gs na op ot S A P X v L.length w' :=
  sfinish_gen (X.length + 4) ⟨by omega, by omega⟩ (PubSt W B own gs na op ot S A P X T v L.length) _ ⟨L, rfl, .inl ⟨rfl, h.self⟩⟩
    (fun i hi2 w h => pub_step hv hb hst hi hw hX hl hi2 h) (fun i hi2 w h => pub_last hv hw hX.2 hl hi2 h)
    (fun w h => by obtain ⟨L', -, o1, hsp, -⟩ := h; exact SOver_done hsp.a.act rfl)
def readV (T P : List Int) : List Int := P.map (fun p => T[p.toNat]?.getD 0)
def RdSt (W : World) (B : Nat) (own : Nat → Prop) (gs na : Nat) (op ot : Nat → Prop) (S : SS) (A : SA) (P X T : List Int) (v : Int) (L0 j : Nat) (w : World) : Prop :=
  ∃ L' : List S128, L'.length = L0 + j ∧ ((j = 0 ∧ SPTo W w B own gs na op ot S (SM v T (-1) L') A P X) ∨
    (∃ i, i < P.length ∧ j = i + 1 ∧ SPTo W w B own gs na op ot S (SM v T (-1) L') { A with st := stg 118, first := v, i := (i : Int) } P ((readV T P).take i ++ X.drop i)) ∨
    (j = P.length + 1 ∧ SPTo W w B own gs na op ot S (SM v T (-1) L') { A with st := stg 128, first := v, i := (P.length : Int) } P (readV T P)))
def RdFin (W : World) (B : Nat) (own : Nat → Prop) (gs na : Nat) (op ot : Nat → Prop) (S : SS) (A : SA) (P T : List Int) (v : Int) (L0 : Nat) (w : World) : Prop :=
  ∃ L' : List S128, L'.length = L0 + P.length + 2 ∧ SPTo W w B own gs na op ot S (SM v T (-1) L') { A with st := .nilFunc, first := v, i := (P.length : Int), mark := ((L0 + P.length + 2 : Nat) : Int) } P (readV T P)
theorem readV_len (T P : List Int) : (readV T P).length = P.length := List.length_map ..
theorem rd_step (hb : Int.tmod v 2 = 0) (hst : A.st = stg 105) (hw : 0 ≤ A.who ∧ (Lit.int .i64 A.who).wf = true) (hX : X.length = P.length ∧ 1 ≤ P.length ∧ P.length ≤ 64) (hT : T.length ≤ 64) (hP : ∀ p ∈ P, 0 ≤ p ∧ p < (T.length : Int)) (hl : L0 ≤ 800000) (hj : j + 1 < P.length + 2) (h : RdSt W B own gs na op ot S A P X T v L0 j w) :
    Calls Try.prog 100 #[.pointer (some ⟨na, 0, none⟩)] w fun e w' => e = .returned (.bool false) ∧ RdSt W B own gs na op ot S A P X T v L0 (j + 1) w' := by
  obtain ⟨L', hL, h⟩ := h
  have hll : L'.length ≤ 900000 := by omega
  have hrl := readV_len T P
  rcases h with ⟨rfl, h⟩ | ⟨i, hix, rfl, h⟩ | ⟨rfl, h⟩
  · obtain ⟨o1, hsp, hk⟩ := h
    refine (SStep105 hsp hst ⟨hw.1, hw.2, hll⟩ (fun W1 h1 => look_C h1 ⟨hw.1, hw.2, hll⟩ hb)).mono ?_
    rintro e w' ⟨rfl, h2⟩
    have h3 := SPTo.seq hk h2
    have e1 : X = (readV T P).take 0 ++ X.drop 0 := by simp
    exact ⟨rfl, L' ++ [_], (len1 _).trans (by omega), .inr (.inl ⟨0, by omega, rfl, by rw [← e1]; exact h3⟩)⟩
  · obtain ⟨o1, hsp, hk⟩ := h
    obtain ⟨hp0, hp1⟩ := hP (P[i]) (List.getElem_mem ..)
    have hpe : rd P (i : Int) = ((P[i].toNat : Nat) : Int) := by rw [rd_nat, List.getElem?_eq_getElem hix]; show P[i] = _; omega
    have hye : (readV T P)[i]?.getD 0 = T[P[i].toNat]?.getD 0 := by unfold readV; rw [List.getElem?_map, List.getElem?_eq_getElem hix]; rfl
    have hT1 : ((readV T P).take i ++ X.drop i).length = P.length := by rw [List.length_append, List.length_take, List.length_drop]; omega
    have hn : ((readV T P).take i ++ X.drop i).set i (T[P[i].toNat]?.getD 0) = (readV T P).take (i + 1) ++ X.drop (i + 1) := by rw [← hye]; exact lay_next (by omega) (by omega)
    by_cases hlast : i + 1 < P.length
    · refine (SStep118 hsp rfl ⟨hw.1, hw.2, hll⟩ (fun W1 h1 => fetch_C false h1 ⟨hw.1, hw.2, hll⟩ rfl ⟨hT1, hT, hX.2.2⟩ hix hpe (by omega) (decide_eq_true (by omega)))).mono ?_
      rintro e w' ⟨rfl, h2⟩
      rw [hn] at h2
      exact ⟨rfl, _, (len1 _).trans (by omega), .inr (.inl ⟨i + 1, hlast, rfl, SPTo.seq hk h2⟩)⟩
    · refine (SStep118l hsp rfl ⟨hw.1, hw.2, hll⟩ (fun W1 h1 => fetch_C true h1 ⟨hw.1, hw.2, hll⟩ rfl ⟨hT1, hT, hX.2.2⟩ hix hpe (by omega) (decide_eq_false (by omega)))).mono ?_
      rintro e w' ⟨rfl, h2⟩
      have he : i + 1 = P.length := by omega
      rw [hn, he, ← hrl, List.take_length, hrl, List.drop_eq_nil_of_le (by omega), List.append_nil] at h2
      have h3 := SPTo.seq hk h2
      rw [show (i : Int) + 1 = (P.length : Int) by omega] at h3
      exact ⟨rfl, _, (len1 _).trans (by omega), .inr (.inr ⟨by omega, h3⟩)⟩
  · omega
theorem rd_last (hw : 0 ≤ A.who ∧ (Lit.int .i64 A.who).wf = true) (hX : 1 ≤ P.length ∧ P.length ≤ 64) (hl : L0 ≤ 800000) (hj : j + 1 = P.length + 2) (h : RdSt W B own gs na op ot S A P X T v L0 j w) :
    Calls Try.prog 100 #[.pointer (some ⟨na, 0, none⟩)] w fun e w' => e = .returned (.bool true) ∧ RdFin W B own gs na op ot S A P T v L0 w' := by
  obtain ⟨L', hL, h⟩ := h
  have hll : L'.length ≤ 900000 := by omega
  rcases h with ⟨rfl, h⟩ | ⟨i, hix, rfl, h⟩ | ⟨rfl, h⟩
  · omega
  · omega
  · obtain ⟨o1, hsp, hk⟩ := h
    refine (SStep128 hsp rfl ⟨hw.1, hw.2, hll⟩ (fun W1 h1 => check_C h1 ⟨hw.1, hw.2, hll⟩ rfl)).mono ?_
    rintro e w' ⟨rfl, h2⟩
    have h3 := SPTo.seq hk h2
    rw [show (L'.length : Int) + 1 = ((L0 + P.length + 2 : Nat) : Int) by omega] at h3
    exact ⟨rfl, _, (len1 _).trans (by omega), h3⟩
theorem rd_finish (h : SP W B own gs na op ot S (SM v T (-1) L) A P X) (hb : Int.tmod v 2 = 0) (hst : A.st = stg 105) (hw : 0 ≤ A.who ∧ (Lit.int .i64 A.who).wf = true) (hX : X.length = P.length ∧ 1 ≤ P.length ∧ P.length ≤ 64) (hT : T.length ≤ 64) (hP : ∀ p ∈ P, 0 ≤ p ∧ p < (T.length : Int)) (hl : L.length ≤ 800000) :
    Calls Try.prog 69 #[.pointer (some ⟨na, 0, none⟩)] W fun e w' => e = .returned (.bool true) ∧ RdFin W B own gs na op ot S A P T v L.length w' :=
  sfinish_gen (P.length + 2) ⟨by omega, by omega⟩ (RdSt W B own gs na op ot S A P X T v L.length) _ ⟨L, rfl, .inl ⟨rfl, h.self⟩⟩
    (fun i hi2 w h => rd_step hb hst hw hX hT hP hl hi2 h) (fun i hi2 w h => rd_last hw hX.2 hl hi2 h)
    (fun w h => by obtain ⟨L', -, o1, hsp, -⟩ := h; exact SOver_done hsp.a.act rfl)
end
open Go.RowKit Go.Maps Go.Proofs.YtlcnckbmolefpaaW.PrintWords Go.Proofs.YtlcnckbmolefpaaW.PrintLast Go.Proofs.YtlcnckbmolefpaaW.PrintMore
theorem wrap_next {i : Nat} (h : i ≤ 1000000000) : wrap64 ((i : Int) + 1) = ((i + 1 : Nat) : Int) := by unfold wrap64; omega
theorem rd_in {P : List Int} {i : Nat} (h : i < P.length) : rd P (i : Int) ∈ P := by
  rw [rd_nat, List.getElem?_eq_getElem h]
  exact List.getElem_mem ..
theorem min_l0 {P : List Int} (hp : ∀ p ∈ P, 0 ≤ p) (hl : P.length ≤ 1000000) : ∀ (d i : Nat) (x : Int), P.length - i = d → 0 ≤ x → ∃ k r, slices_Min_int_int.l0 k P x (i : Int) = some r ∧ 0 ≤ r
  | 0, i, x, hd, hx => ⟨1, x, by show slices_Min_int_int.l0 (0 + 1) P x (i : Int) = _; rw [slices_Min_int_int.l0, if_neg (by omega)], hx⟩
  | d + 1, i, x, hd, hx => by
    have h1 := hp _ (rd_in (P := P) (i := i) (by omega))
    obtain ⟨k, r, h2, h3⟩ := min_l0 hp hl d (i + 1) (mn x (rd P (i : Int))) (by omega) (by unfold mn; split <;> omega)
    exact ⟨k + 1, r, by rw [slices_Min_int_int.l0, if_pos (by omega), if_pos (by omega), wrap_next (by omega)]; exact h2, h3⟩
theorem min_ok {P : List Int} (hp : ∀ p ∈ P, 0 ≤ p) (hl : 1 ≤ P.length ∧ P.length ≤ 1000000) : ∃ k r, slices_Min_int_int.f k P = some r ∧ 0 ≤ r := by
  obtain ⟨k, r, h1, h2⟩ := min_l0 hp hl.2 _ 1 (rd P ((0 : Nat) : Int)) rfl (hp _ (rd_in (by omega)))
  exact ⟨k, r, by unfold slices_Min_int_int.f; rw [if_neg (by omega), if_pos (by omega)]; exact h1, h2⟩
theorem max_l0 {n : Int} {P : List Int} (hp : ∀ p ∈ P, p < n) (hl : P.length ≤ 1000000) : ∀ (d i : Nat) (x : Int), P.length - i = d → x < n → ∃ k r, slices_Max_int_int.l0 k P x (i : Int) = some r ∧ r < n
  | 0, i, x, hd, hx => ⟨1, x, by show slices_Max_int_int.l0 (0 + 1) P x (i : Int) = _; rw [slices_Max_int_int.l0, if_neg (by omega)], hx⟩
  | d + 1, i, x, hd, hx => by
    have h1 := hp _ (rd_in (P := P) (i := i) (by omega))
    obtain ⟨k, r, h2, h3⟩ := max_l0 hp hl d (i + 1) (mx x (rd P (i : Int))) (by omega) (by unfold mx; split <;> omega)
    exact ⟨k + 1, r, by rw [slices_Max_int_int.l0, if_pos (by omega), if_pos (by omega), wrap_next (by omega)]; exact h2, h3⟩
theorem max_ok {n : Int} {P : List Int} (hp : ∀ p ∈ P, p < n) (hl : 1 ≤ P.length ∧ P.length ≤ 1000000) : ∃ k r, slices_Max_int_int.f k P = some r ∧ r < n := by
  obtain ⟨k, r, h1, h2⟩ := max_l0 hp hl.2 _ 1 (rd P ((0 : Nat) : Int)) rfl (hp _ (rd_in (by omega)))
  exact ⟨k, r, by unfold slices_Max_int_int.f; rw [if_neg (by omega), if_pos (by omega)]; exact h1, h2⟩
theorem ssame_l0 {P : List Int} (hl : P.length ≤ 1000000) : ∀ (d i : Nat), P.length - i = d → ∃ k, marchlandref13_Same.l0 k P P (i : Int) = some true
  | 0, i, hd => ⟨1, by show marchlandref13_Same.l0 (0 + 1) P P (i : Int) = _; rw [marchlandref13_Same.l0, if_neg (by omega)]⟩
  | d + 1, i, hd => by
    obtain ⟨k, h2⟩ := ssame_l0 hl d (i + 1) (by omega)
    exact ⟨k + 1, by rw [marchlandref13_Same.l0, if_pos (by omega), if_pos (by omega), if_pos (by omega), if_pos rfl, wrap_next (by omega)]; exact h2⟩
theorem ssame_ok {P : List Int} (hl : P.length ≤ 1000000) : ∃ k, marchlandref13_Same.f k P P = some true := by
  obtain ⟨k, h⟩ := ssame_l0 hl _ 0 rfl
  exact ⟨k, by unfold marchlandref13_Same.f; rw [if_pos rfl]; exact h⟩
theorem fit_l0 {l : List Int} {n : Nat} (hn : n ≤ 64) : ∀ (d i : Nat) (X : List Int), n - i = d → X.length = n → ∃ k r, marchlandref13_Fit.l0 k l (n : Int) X (i : Int) = some r ∧ r.length = n
  | 0, i, X, hd, hX => ⟨1, X, by show marchlandref13_Fit.l0 (0 + 1) l (n : Int) X (i : Int) = _; rw [marchlandref13_Fit.l0, if_neg (by omega)], hX⟩
  | d + 1, i, X, hd, hX => by
    by_cases hi : i < l.length
    · obtain ⟨k, r, h2, h3⟩ := fit_l0 hn d (i + 1) (X.set ((i : Int)).toNat (rd l (i : Int))) (by omega) (by rw [List.length_set]; exact hX)
      exact ⟨k + 1, r, by rw [marchlandref13_Fit.l0, if_pos (by omega), if_pos (by omega), if_pos (by omega), if_pos (by omega), wrap_next (by omega)]; exact h2, h3⟩
    · exact ⟨1, X, by show marchlandref13_Fit.l0 (0 + 1) l (n : Int) X (i : Int) = _; rw [marchlandref13_Fit.l0, if_pos (by omega), if_neg (by omega)], hX⟩
theorem fit_ok (l : List Int) {n : Nat} (hn : n ≤ 64) : ∃ k r, marchlandref13_Fit.f k l (n : Int) = some r ∧ r.length = n := by
  obtain ⟨k, r, h1, h2⟩ := fit_l0 (l := l) hn _ 0 (List.replicate ((n : Int)).toNat 0) rfl (by rw [List.length_replicate]; omega)
  exact ⟨k, r, by unfold marchlandref13_Fit.f; rw [if_pos (by omega), if_pos (by omega)]; exact h1, h2⟩
theorem some_l0 {l : List Int} {n : Nat} (hn : 1 ≤ n ∧ n ≤ 64) : ∀ (d i : Nat) (X : List Int), 12 - i = d → i ≤ 12 → X.length = i + 1 → (∀ p ∈ X, 0 ≤ p ∧ p < (n : Int)) → ∃ k r, marchlandref13_Some.l0 k l (n : Int) X (i : Int) = some r ∧ 1 ≤ r.length ∧ r.length ≤ 13 ∧ ∀ p ∈ r, 0 ≤ p ∧ p < (n : Int)
  | 0, i, X, hd, hi, hX, hp => by
    by_cases hl : i < l.length
    · exact ⟨1, X, by show marchlandref13_Some.l0 (0 + 1) l (n : Int) X (i : Int) = _; rw [marchlandref13_Some.l0, if_pos (by omega), if_neg (by omega)], by omega, by omega, hp⟩
    · exact ⟨1, X, by show marchlandref13_Some.l0 (0 + 1) l (n : Int) X (i : Int) = _; rw [marchlandref13_Some.l0, if_neg (by omega)], by omega, by omega, hp⟩
  | d + 1, i, X, hd, hi, hX, hp => by
    by_cases hl : i < l.length
    · have hw : IntKind.u64.wrap (n : Int) = (n : Int) := by rw [IntKind.wrap_u64]; omega
      have h0 := u64_pos (rd l (i : Int))
      have h1 := Int.tmod_nonneg (n : Int) h0
      have h2 := Int.tmod_lt_of_pos (IntKind.u64.wrap (rd l (i : Int))) (show (0 : Int) < (n : Int) by omega)
      have hw2 : wrap64 (Int.tmod (IntKind.u64.wrap (rd l (i : Int))) (n : Int)) = Int.tmod (IntKind.u64.wrap (rd l (i : Int))) (n : Int) := by unfold wrap64; omega
      obtain ⟨k, r, h3, h4⟩ := some_l0 (l := l) hn d (i + 1) (X ++ [Int.tmod (IntKind.u64.wrap (rd l (i : Int))) (n : Int)]) (by omega) (by omega) (by simp; omega) (fun p hm => by
        rcases List.mem_append.1 hm with q | q
        · exact hp p q
        · rw [List.mem_singleton.1 q]; exact ⟨h1, h2⟩)
      exact ⟨k + 1, r, by rw [marchlandref13_Some.l0, if_pos (by omega), if_pos (by omega), if_pos (by omega), hw, if_neg (by omega), if_pos (by omega), hw2, wrap_next (by omega)]; exact h3, h4⟩
    · exact ⟨1, X, by show marchlandref13_Some.l0 (0 + 1) l (n : Int) X (i : Int) = _; rw [marchlandref13_Some.l0, if_neg (by omega)], by omega, by omega, hp⟩
theorem some_ok (l : List Int) {n : Nat} (hn : 1 ≤ n ∧ n ≤ 64) : ∃ k r, marchlandref13_Some.f k l (n : Int) = some r ∧ 1 ≤ r.length ∧ r.length ≤ 13 ∧ ∀ p ∈ r, 0 ≤ p ∧ p < (n : Int) :=
  some_l0 hn _ 0 [0] rfl (by omega) rfl (fun p hm => by rw [List.mem_singleton.1 hm]; omega)
attribute [local go_sem] max2_int min2_int max_two min_two max_three min_three max_four min_four   -- for this text's walks alone
/-! ### shot_within: function 101 -/
def shot_within.f (a0 : Int) (a1 : Int) : Option (Bool) := if a0 ≥ 1 then (some (decide (a0 ≤ a1))) else (some false)
set_option maxHeartbeats 8000000 in
set_option maxRecDepth 100000 in
theorem shot_within.calls (a0 : Int) (a1 : Int) (r : Bool) (w : World) (h : shot_within.f a0 a1 = some r) :
    Calls Try.prog 101 #[.int .i64 a0, .int .i64 a1] w fun e w' => e = .returned (.bool r) ∧ Drawn0 w w' := by
  have H : (if a0 ≥ 1 then (some (decide (a0 ≤ a1))) else (some false)) = some r := h
  clear h
  by_cases c3 : a0 ≥ 1
  · rw [if_pos c3] at H
    have c3b0 : decide (1 ≤ a0) = true := decide_eq_true c3
    clear c3
    obtain rfl := Option.some.inj H
    go_enter Try.func101, Try.ntmps101
    go_wp2
    go_ret
    exact ⟨by first | rfl | (simp; done) | (simp [*]; done), by repeat (first | exact Drawn0.refl _ | apply Drawn0.step)⟩
  · rw [if_neg c3] at H
    have c3b0 : decide (1 ≤ a0) = false := decide_eq_false c3
    clear c3
    obtain rfl := Option.some.inj H
    go_enter Try.func101, Try.ntmps101
    go_wp2
    go_ret
    exact ⟨by first | rfl | (simp; done) | (simp [*]; done), by repeat (first | exact Drawn0.refl _ | apply Drawn0.step)⟩
set_option maxRecDepth 100000
def pubA (who : Int) (vt : Value) : SA := ⟨who, .slice none 0 0, vt, 0, 0, stg 99, 0, false⟩
def rdA (who : Int) (vp vt : Value) : SA := ⟨who, vp, vt, 0, 0, stg 105, 0, true⟩
theorem R_made (W : World) (base m : Nat) (hb : base ≤ W.heap.size) (hm : m ≤ 1000000) : Kd.R (Kd.int .u64) 29 (W.alloc (.cells (madeCells #[.int .u64 0] m) 29)) base (fun k => k = W.heap.size) (.slice (some ⟨W.heap.size, 0, none⟩) m m) (List.replicate m 0) := by
  refine ⟨fun k hk => ?_, (madeCells (Value.int .u64 0).cells (m * 1)).toList, ?_, Kd.reps_made (z := .int .u64 0) (size := 1) (z0 := (0 : Int)) rfl (by decide) rfl m⟩
  · have : W.heap.size = k := by simpa [Value.ownBlock] using hk
    exact this.symm
  · have h2 := World.ownsRow_lit (base := base) (e := 29) (size := 1) W (madeCells #[.int .u64 0] m) m hb (by unfold maxLen; omega) (by simp [size_madeCells])
    rw [Nat.mul_one, List.length_replicate]
    exact h2
section
variable {W w' : World} {B : Nat} {own : Nat → Prop} {gs : Nat} {S : SS} {M : MS} {P X : List Int}
theorem SP.begun {w5 : World} {A : SA} {na : Nat} {op ot : Nat → Prop} (h : SG W B own gs S M) (hb : Below W.heap.size W w5) (ha : w5.heap[na]? = some (.cells (A.cells gs) 166 (0, 0))) (hna : W.heap.size ≤ na)
    (hp : Kd.R (Kd.int .i64) 3 w5 W.heap.size op A.ports P) (ht : Kd.R (Kd.int .u64) 29 w5 W.heap.size ot A.times X) (dp : ∀ k, op k → W.heap.size ≤ k ∧ k ≠ na ∧ ¬ ot k) (dt : ∀ k, ot k → W.heap.size ≤ k ∧ k ≠ na ∧ ¬ op k) :
    ∃ op' ot' : Nat → Prop, SP w5 B own gs na op' ot' S M A P X ∧ (∀ k, op' k → W.heap.size ≤ k) ∧ (∀ k, ot' k → W.heap.size ≤ k) := by
  have hB := h.mem.size
  have hgs := blk_lt h.shot
  refine ⟨fun k => op k ∧ k < w5.heap.size, fun k => ot k ∧ k < w5.heap.size, ⟨h.below hb, ha, Kd.R_mono (Kd.R_lower (Kd.R_bound hp) hB) (fun k hk => ⟨hk.1, hk.2.2.1⟩), Kd.R_mono (Kd.R_lower (Kd.R_bound ht) hB) (fun k hk => ⟨hk.1, hk.2.2.1⟩), fun ho => by have := h.mem.2 na ho; omega, by omega, by omega, fun k hk => ?_, fun k hk => ?_⟩, fun k hk => (dp k hk.1).1, fun k hk => (dt k hk.1).1⟩
  · obtain ⟨g1, g2, g3⟩ := dp k hk.1
    exact ⟨fun ho => by have := h.mem.2 k ho; omega, by omega, g2, fun h2 => g3 h2.1, hk.2⟩
  · obtain ⟨g1, g2, g3⟩ := dt k hk.1
    exact ⟨fun ho => by have := h.mem.2 k ho; omega, by omega, g2, fun h2 => g3 h2.1, hk.2⟩
theorem Publish_C (who : Int) (Av : Option Addr) (cv : Nat) (h : SG W B own gs S M) (hC : Kd.C (Kd.int .u64) W Av X.length X) (hc : X.length ≤ cv) (hw : 0 ≤ who) (hn : S.n = (X.length : Int)) (hX : X.length ≤ 64) :
    Calls Try.prog 68 #[.pointer (some ⟨gs, 0, none⟩), .int .i64 who, .slice Av X.length cv] W fun e w' => ∃ na vt op ot, e = .returned (.pointer (some ⟨na, 0, none⟩)) ∧ W.heap.size ≤ na ∧ SP w' B own gs na op ot S M (pubA who vt) [] X ∧ (∀ k, op k → W.heap.size ≤ k) ∧ (∀ k, ot k → W.heap.size ≤ k) ∧ Below W.heap.size W w' := by
  obtain ⟨-, -, -, hy3, -⟩ := h.shot.cell
  rw [hn] at hy3
  have hwd := decide_eq_false (show ¬ who < 0 by omega)
  have CL := Aside0.mk (slices_CloneU.calls Av cv X X W hC hc (by unfold slices_CloneU.f; exact if_pos (by omega)))
  have H := Aside0.mk h
  clear h hC hc hn hX hw
  go_enter Try.func68, Try.ntmps68
  go_wp2_with (first | (go_at_call 98; ((with_reducible refine CL.out.mono ?_); rintro e w5 ⟨v5, rfl, hr5, hb5⟩; obtain ⟨A5, n5, c5, rfl⟩ := R_any hr5; have HR := Aside0.mk hr5; have HB := Aside0.mk hb5; clear hr5 hb5)))
  go_ret
  have hal := below_alloc (Below.refl w5.heap.size w5) (.cells ((pubA who (.slice A5 n5 c5)).cells gs) 166)
  have hbb := below_step HB.out hal
  obtain ⟨op', ot', hsp, h1, h2⟩ := SP.begun (P := []) (X := X) (A := pubA who (.slice A5 n5 c5)) (op := fun _ => False) (ot := fun k => W.heap.size ≤ k ∧ k < w5.heap.size) H.out hbb (blk_new w5 _) HB.out.size (Kd.R_nil _ _ _ _ _) (Kd.R_mono (Kd.R_alloc (Kd.R_bound HR.out) _) (fun k hk => ⟨hk.2.1, hk.2.2.1⟩)) (fun k hk => hk.elim) (fun k hk => ⟨hk.1, by omega, id⟩)
  exact ⟨_, _, op', ot', rfl, HB.out.size, hsp, h1, h2, hbb⟩
theorem Read_C (who : Int) (Ap : Option Addr) (cp : Nat) (h : SG W B own gs S M) (hC : Kd.C (Kd.int .i64) W Ap P.length P) (hc : P.length ≤ cp) (hw : 0 ≤ who) (hP : ∀ p ∈ P, 0 ≤ p ∧ p < S.n) (hX : 1 ≤ P.length ∧ P.length ≤ 64) :
    Calls Try.prog 72 #[.pointer (some ⟨gs, 0, none⟩), .int .i64 who, .slice Ap P.length cp] W fun e w' => ∃ na vp vt op ot, e = .returned (.pointer (some ⟨na, 0, none⟩)) ∧ W.heap.size ≤ na ∧ SP w' B own gs na op ot S M (rdA who vp vt) P (List.replicate P.length 0) ∧ (∀ k, op k → W.heap.size ≤ k) ∧ (∀ k, ot k → W.heap.size ≤ k) ∧ Below W.heap.size W w' := by
  obtain ⟨-, -, -, hy3, -⟩ := h.shot.cell
  have hwd := decide_eq_false (show ¬ who < 0 by omega)
  obtain ⟨k1, mi, hmi, hmi0⟩ := min_ok (P := P) (fun p hm => (hP p hm).1) ⟨hX.1, by omega⟩
  obtain ⟨k2, ma, hma, hma0⟩ := max_ok (n := S.n) (P := P) (fun p hm => (hP p hm).2) ⟨hX.1, by omega⟩
  have WI := Aside0.mk (shot_within.calls (P.length : Int) 64 true W (by unfold shot_within.f; rw [if_pos (by omega)]; exact congrArg some (decide_eq_true (by omega))))
  have H := Aside0.mk h
  have HC := Aside0.mk (show _ ∧ _ from ⟨hC, hc⟩)
  have HMI := Aside0.mk hmi
  have HMA := Aside0.mk hma
  have q1 := decide_eq_false (show ¬ (mi < 0) by omega)
  have q2 := decide_eq_false (show ¬ (S.n ≤ ma) by omega)
  have hmk := fun W : World => run_make_row' (P := Try.prog) 44 29 (.int .u64 0) 8 Try.underlying44 info29 rfl .i64 .i64 P.length (by omega) (by omega) W
  clear h hC hc hw hmi hma hP
  go_enter Try.func72, Try.ntmps72
  go_upto_region 3 with (first | (go_at_call 101; ((with_reducible refine WI.out.mono ?_); rintro e w5 ⟨rfl, hd5⟩; have HB5 := Aside0.mk (Drawn0.below hd5); clear hd5)))
  have MI := Aside0.mk (fun w1 (hb : Below W.heap.size W w1) => slices_Min_int_int.calls k1 Ap cp P mi w1 (Kd.C_below HC.out.1 hb) HC.out.2 HMI.out)
  have MA := Aside0.mk (fun w1 (hb : Below W.heap.size W w1) => slices_Max_int_int.calls k2 Ap cp P ma w1 (Kd.C_below HC.out.1 hb) HC.out.2 HMA.out)
  have HY := Aside0.mk hy3
  have hlt := blk_lt H.out.shot
  have hy3 : w5.cell? ⟨gs, 3, none⟩ = some (.int .i64 S.n) := (HB5.out.cell (p := ⟨gs, 3, none⟩) hlt).trans HY.out
  go_region_held3 (fun w' => w'.cell? ⟨gs, 3, none⟩ = some (.int .i64 S.n))
    (first | exact hy3 | exact hN7 | exact hN6)
    (first | (go_at_call 102; ((with_reducible refine (MI.out _ (below_drew HB5.out)).mono ?_); rintro e w6 ⟨rfl, hb⟩; have HB6 := Aside0.mk (below_step (below_drew HB5.out) hb); have hN6 : w6.cell? ⟨gs, 3, none⟩ = some (.int .i64 S.n) := (HB6.out.cell (p := ⟨gs, 3, none⟩) hlt).trans HY.out; clear hb)) | (go_at_call 103; ((with_reducible refine (MA.out _ HB6.out).mono ?_); rintro e w7 ⟨rfl, hb⟩; have HB7 := Aside0.mk (below_step HB6.out hb); have hN7 : w7.cell? ⟨gs, 3, none⟩ = some (.int .i64 S.n) := (HB7.out.cell (p := ⟨gs, 3, none⟩) hlt).trans HY.out; clear hb)))
  go_upto_region 5 with fail
  have HB8 := Aside0.mk (below_drew HB7.out)
  have CL := Aside0.mk (fun w1 (hb : Below W.heap.size W w1) => slices_CloneI.calls Ap cp P P w1 (Kd.C_below HC.out.1 hb) HC.out.2 (by unfold slices_CloneI.f; exact if_pos (by omega)))
  have HB9 := Aside0.mk (below_drew (below_alloc HB7.out (.cells (madeCells #[.int .u64 0] P.length) 29)))
  have HSZ := Aside0.mk HB7.out.size
  go_region_held3 (fun w' => True)
    (trivial)
    (first | (go_at_call 104; ((with_reducible refine (CL.out _ HB8.out).mono ?_); rintro e w5 ⟨v5, rfl, hr5, hb5⟩; obtain ⟨A5, n5, c5, rfl⟩ := R_any hr5; have HR := Aside0.mk hr5; have HB := Aside0.mk (below_step HB8.out hb5); clear hr5 hb5)) | (go_at_call 104; ((with_reducible refine (CL.out _ HB9.out).mono ?_); rintro e w5 ⟨v5, rfl, hr5, hb5⟩; obtain ⟨A5, n5, c5, rfl⟩ := R_any hr5; have HR := Aside0.mk hr5; have HB := Aside0.mk (below_step HB9.out hb5); have HBS := Aside0.mk hb5; clear hr5 hb5)))
  · go_wp2
    go_ret
    have hs : (w5.alloc (.cells (madeCells #[.int .u64 0] P.length) 29)).heap.size = w5.heap.size + 1 := by simp
    have ha := blk_new (w5.alloc (.cells (madeCells #[.int .u64 0] P.length) 29)) (.cells ((rdA who (.slice A5 n5 c5) (.slice (some ⟨w5.heap.size, 0, none⟩) P.length P.length)).cells gs) 166)
    rw [hs] at ha
    have hbb := below_alloc (below_alloc HB.out (.cells (madeCells #[.int .u64 0] P.length) 29)) (.cells ((rdA who (.slice A5 n5 c5) (.slice (some ⟨w5.heap.size, 0, none⟩) P.length P.length)).cells gs) 166)
    have z1 := HB.out.size
    obtain ⟨op', ot', hsp, h1, h2⟩ := SP.begun (P := P) (X := List.replicate P.length 0) (A := rdA who (.slice A5 n5 c5) (.slice (some ⟨w5.heap.size, 0, none⟩) P.length P.length)) (op := fun k => W.heap.size ≤ k ∧ k < w5.heap.size) (ot := fun k => k = w5.heap.size) H.out hbb ha (by omega) (Kd.R_mono (Kd.R_alloc (Kd.R_alloc (Kd.R_bound (Kd.R_lower HR.out HB8.out.size)) _) _) (fun k hk => ⟨hk.2.1, hk.2.2.1⟩)) (Kd.R_alloc (R_made w5 W.heap.size P.length z1 (by omega)) _) (fun k hk => ⟨hk.1, by omega, by omega⟩) (fun k hk => ⟨by omega, by omega, by omega⟩)
    exact ⟨_, _, _, op', ot', rfl, by omega, hsp, h1, h2, hbb⟩
  · go_wp2
    go_ret
    have hs : (w7.alloc (.cells (madeCells #[.int .u64 0] P.length) 29)).drew.heap.size = w7.heap.size + 1 := by simp
    have ha := blk_new w5 (.cells ((rdA who (.slice A5 n5 c5) (.slice (some ⟨w7.heap.size, 0, none⟩) P.length P.length)).cells gs) 166)
    have hbb := below_alloc HB.out (.cells ((rdA who (.slice A5 n5 c5) (.slice (some ⟨w7.heap.size, 0, none⟩) P.length P.length)).cells gs) 166)
    have z1 := HB7.out.size
    have z2 := HBS.out.size
    rw [hs] at z2
    have hR := HR.out
    rw [hs] at hR
    obtain ⟨op', ot', hsp, h1, h2⟩ := SP.begun (P := P) (X := List.replicate P.length 0) (A := rdA who (.slice A5 n5 c5) (.slice (some ⟨w7.heap.size, 0, none⟩) P.length P.length)) (op := fun k => w7.heap.size + 1 ≤ k ∧ k < w5.heap.size) (ot := fun k => k = w7.heap.size) H.out hbb ha (by omega) (Kd.R_lower (Kd.R_mono (Kd.R_alloc (Kd.R_bound hR) _) (fun k hk => ⟨hk.2.1, hk.2.2.1⟩)) (by omega)) (Kd.R_alloc (Kd.R_below (Kd.R_drew (R_made w7 W.heap.size P.length z1 (by omega))) HBS.out) _) (fun k hk => ⟨by omega, by omega, by omega⟩) (fun k hk => ⟨by omega, by omega, by omega⟩)
    exact ⟨_, _, _, op', ot', rfl, by omega, hsp, h1, h2, hbb⟩
end
/-! ### shot_Words: function 96 -/
def shot_Words.f (a0 : Int) : Option (Int) := (shot_within.f a0 64).bind fun t331 => (if t331 = true then (some (wrap64 (a0 + 1))) else (some 0))
set_option maxHeartbeats 8000000 in
set_option maxRecDepth 100000 in
theorem shot_Words.calls (a0 : Int) (r : Int) (w : World) (h : shot_Words.f a0 = some r) :
    Calls Try.prog 96 #[.int .i64 a0] w fun e w' => e = .returned (.int .i64 r) ∧ Drawn0 w w' := by
  have H : ((shot_within.f a0 64).bind fun t331 => (if t331 = true then (some (wrap64 (a0 + 1))) else (some 0))) = some r := h
  clear h
  replace H := Option.bind_eq_some_iff.mp H
  obtain ⟨t331, A20, H⟩ := H
  replace H : (if t331 = true then (some (wrap64 (a0 + 1))) else (some 0)) = some r := H
  have A2 := Aside0.mk A20
  clear A20
  by_cases c3 : t331 = true
  · subst c3
    have H1 : (some (wrap64 (a0 + 1))) = some r := by rw [if_pos rfl] at H; exact H
    clear H
    have H := H1
    clear H1
    obtain rfl := Option.some.inj H
    go_enter Try.func96, Try.ntmps96
    go_wp2_with (first | ((with_reducible refine gate_callee (f := 101) rfl ?_); refine goesL_ (some 4) rfl rfl Try.func101 (by kernel_rfl) rfl #[.int .i64 a0, .int .i64 64] rfl (by (try simp only [List.map_toArray, List.map_cons, List.map_nil]); first | done | rfl | (simp only [List.length_drop, List.length_take]; rfl)) ?_; (with_reducible refine (shot_within.calls a0 64 true _ A2.out).mono ?_); rintro e w' ⟨rfl, ⟨nd, rfl⟩⟩; refine ⟨_, rfl, ?_⟩))
    go_ret
    exact ⟨by first | rfl | (simp; done) | (simp [*]; done), by repeat (first | exact Drawn0.refl _ | apply Drawn0.step)⟩
  · replace c3 := Bool.eq_false_iff.mpr c3
    subst c3
    have H1 : (some 0) = some r := by rw [if_neg (show ¬ (false = true) by decide)] at H; exact H
    clear H
    have H := H1
    clear H1
    obtain rfl := Option.some.inj H
    go_enter Try.func96, Try.ntmps96
    go_wp2_with (first | ((with_reducible refine gate_callee (f := 101) rfl ?_); refine goesL_ (some 4) rfl rfl Try.func101 (by kernel_rfl) rfl #[.int .i64 a0, .int .i64 64] rfl (by (try simp only [List.map_toArray, List.map_cons, List.map_nil]); first | done | rfl | (simp only [List.length_drop, List.length_take]; rfl)) ?_; (with_reducible refine (shot_within.calls a0 64 false _ A2.out).mono ?_); rintro e w' ⟨rfl, ⟨nd, rfl⟩⟩; refine ⟨_, rfl, ?_⟩))
    go_ret
    exact ⟨by first | rfl | (simp; done) | (simp [*]; done), by repeat (first | exact Drawn0.refl _ | apply Drawn0.step)⟩
set_option maxRecDepth 100000
theorem MemC.lower {w : World} {B B' : Nat} {own : Nat → Prop} {g : Nat} {M : MS} (h : MemC w B own g M) (hb : B' ≤ B) : MemC w B' own g M := by
  obtain ⟨⟨bm, vw, vb, vl, vo, hm⟩, ho⟩ := h
  exact ⟨⟨bm, vw, vb, vl, vo, hm.hg, hm.og, Nat.le_trans hb hm.bg, Kd.R_lower hm.hw hb, Kd.R_lower hm.hb hb, Kd.R_lower hm.hl hb, Kd.R_lower hm.ho hb, hm.om, Nat.le_trans hb hm.bb, hm.hm⟩, ho⟩
theorem SNew_C (gm n tries : Nat) (hn : 1 ≤ n ∧ n ≤ 64) (ht : 1 ≤ tries ∧ tries ≤ 8) (W : World) :
    Calls Try.prog 97 #[.pointer (some ⟨gm, 0, none⟩), .int .i64 1, .int .i64 1, .int .i64 (n : Int), .int .i64 (tries : Int)] W fun e w' => ∃ gs, e = .returned (.tuple #[.pointer (some ⟨gs, 0, none⟩), .int .i64 0]) ∧ W.heap.size ≤ gs ∧ ShotAt w' gs ⟨gm, n, tries, 0⟩ ∧ Below W.heap.size W w' := by
  have W1 := Aside0.mk (fun w => shot_within.calls (n : Int) 64 true w (by unfold shot_within.f; rw [if_pos (by omega)]; exact congrArg some (decide_eq_true (by omega))))
  have W2 := Aside0.mk (fun w => shot_within.calls (tries : Int) 8 true w (by unfold shot_within.f; rw [if_pos (by omega)]; exact congrArg some (decide_eq_true (by omega))))
  clear hn ht
  have HB := Aside0.mk (Below.refl W.heap.size W)
  go_enter Try.func97, Try.ntmps97
  go_wp2_with (first | (go_at_call 101; ((with_reducible refine (W1.out _).mono ?_); rintro e w5 ⟨rfl, hd⟩; have HB1 := Aside0.mk (below_step HB.out (Drawn0.below hd)); clear hd HB; have HB := HB1; clear HB1)) | (go_at_call 101; ((with_reducible refine (W2.out _).mono ?_); rintro e w6 ⟨rfl, hd⟩; have HB1 := Aside0.mk (below_step HB.out (Drawn0.below hd)); clear hd HB; have HB := HB1; clear HB1)))
  ((try simp only [Exit.inBlock, Exit.then]); first | refine bodyPost_ret (results_tmp2 rfl _ _ _) rfl ?_ | refine bodyPost_end (results_tmp2 rfl _ _ _) rfl ?_)
  exact ⟨_, rfl, HB.out.size, blk_new _ _, below_alloc HB.out _⟩
theorem sbegin_C (n tries : Nat) (hn : 1 ≤ n ∧ n ≤ 64) (ht : 1 ≤ tries ∧ tries ≤ 8) (W : World) :
    Calls Try.prog 65 #[.int .i64 (n : Int), .int .i64 (tries : Int)] W fun e w' => ∃ gm gs own, e = .returned (.tuple #[.pointer (some ⟨gm, 0, none⟩), .pointer (some ⟨gs, 0, none⟩)]) ∧ SG w' W.heap.size own gs ⟨gm, n, tries, 0⟩ (SM 0 (List.replicate n 0) (-1) []) ∧ Below W.heap.size W w' := by
  have WO := Aside0.mk (shot_Words.calls (n : Int) ((n : Int) + 1) W (by unfold shot_Words.f shot_within.f; rw [if_pos (by omega), Option.bind_some, decide_eq_true (by omega), if_pos rfl]; congr 1; unfold wrap64; omega))
  have hw : IntKind.i64.wrap ((n : Int) + 1 + 1) = ((n + 2 : Nat) : Int) := by rw [IntKind.wrap_i64]; omega
  have MN := Aside0.mk (fun w => New_C (n + 2) 0 2 (by omega) (by omega) (by omega) w)
  have SN := Aside0.mk (fun gm w => SNew_C gm n tries hn ht w)
  clear hn ht
  go_enter Try.func65, Try.ntmps65
  go_wp2_with (first | (go_at_call 96; ((with_reducible refine WO.out.mono ?_); rintro e w5 ⟨rfl, hd⟩; have HB1 := Aside0.mk (Drawn0.below hd); clear hd)) | (go_at_call 30; ((refine (MN.out _).mono ?_); rintro e w6 ⟨gm, own, rfl, hm, hwn, hb⟩; have HM := Aside0.mk (show _ ∧ _ from ⟨hm, hwn⟩); have HB2 := Aside0.mk (below_step HB1.out hb); have HB6 := Aside0.mk hb; clear hm hb hwn)) | (go_at_call 97; ((refine (SN.out gm _).mono ?_); rintro e w7 ⟨gs, rfl, hgs, hs, hb⟩; have HS := Aside0.mk (show _ ∧ _ ∧ _ from ⟨hgs, hs, hb⟩); clear hgs hs hb)))
  ((try simp only [Exit.inBlock, Exit.then]); first | refine bodyPost_ret (results_tmp2 rfl _ _ _) rfl ?_ | refine bodyPost_end (results_tmp2 rfl _ _ _) rfl ?_)
  obtain ⟨hge, hs, hb⟩ := HS.out
  have hm : MemC w6 w5.heap.size own gm (SM 0 (List.replicate n 0) (-1) []) := HM.out.1
  have h5 := HB1.out.size
  exact ⟨gm, gs, own, rfl, ⟨(hm.lower h5).below hb, hs, fun ho => by have := hm.2 gs ho; omega, by have := HB2.out.size; omega⟩, below_step HB2.out hb⟩
structure Apart (na : Nat) (op ot : Nat → Prop) (nb : Nat) (otb : Nat → Prop) : Prop where
  n1 : na ≠ nb
  n2 : ¬ op nb
  n3 : ¬ ot nb
  o1 : ∀ k, otb k → k ≠ na ∧ ¬ op k ∧ ¬ ot k
section
variable {W w w' : World} {B : Nat} {own own' op ot op2 ot2 : Nat → Prop} {gs na nb : Nat} {S S2 : SS} {A A2 : SA} {P X P2 X2 : List Int} {M M2 : MS}
theorem AG.newer (h : AG w B own gs na op ot A P X) (hn : w.heap.size ≤ nb) (ho : ∀ k, ot2 k → w.heap.size ≤ k) : Apart na op ot nb ot2 :=
  ⟨by have := blk_lt h.act; omega, fun h1 => by have := (h.dp nb h1).2.2.2.2; omega, fun h1 => by have := (h.dt nb h1).2.2.2.2; omega, fun k hk => ⟨by have := blk_lt h.act; have := ho k hk; omega, fun h1 => by have := (h.dp k h1).2.2.2.2; have := ho k hk; omega, fun h1 => by have := (h.dt k h1).2.2.2.2; have := ho k hk; omega⟩⟩
theorem AG.older (h : AG w B own gs nb op2 ot2 A2 P2 X2) (hn : w.heap.size ≤ na) (h1 : ∀ k, op k → w.heap.size ≤ k) (h2 : ∀ k, ot k → w.heap.size ≤ k) : Apart na op ot nb ot2 :=
  ⟨by have := blk_lt h.act; omega, fun g => by have := blk_lt h.act; have := h1 nb g; omega, fun g => by have := blk_lt h.act; have := h2 nb g; omega, fun k hk => ⟨by have := (h.dt k hk).2.2.2.2; omega, fun g => by have := (h.dt k hk).2.2.2.2; have := h1 k g; omega, fun g => by have := (h.dt k hk).2.2.2.2; have := h2 k g; omega⟩⟩
theorem AG.beside (h : AG w B own gs na op ot A P X) (hk : (∀ k, own' k → own k ∨ w.heap.size ≤ k) ∧ Kept w w' (fun k => own k ∨ k = gs ∨ k = nb ∨ ot2 k) ∧ Below B w w') (hd : Apart na op ot nb ot2) : AG w' B own' gs na op ot A P X :=
  h.keep hk.2.1 (fun k hS => .inr (by
    rcases hS with hS | rfl | rfl | hS
    · exact ⟨fun e => h.a1 (e ▸ hS), fun g => (h.dp k g).1 hS, fun g => (h.dt k g).1 hS⟩
    · exact ⟨fun e => h.ne e.symm, fun g => (h.dp _ g).2.1 rfl, fun g => (h.dt _ g).2.1 rfl⟩
    · exact ⟨fun e => hd.n1 e.symm, hd.n2, hd.n3⟩
    · exact hd.o1 k hS)) hk.1
end
theorem lit2_u (W : World) (a b : Int) : Kd.R (Kd.int .u64) 29 (W.alloc (.cells #[.int .u64 a, .int .u64 b] 29)) W.heap.size (fun _ => True) (.slice (some ⟨W.heap.size, 0, none⟩) 2 2) [a, b] :=
  Kd.R_of_own (enc := Value.int .u64) (h1 := fun _ => rfl) (World.ownsRow_lit (base := W.heap.size) (e := 29) (size := 1) W #[.int .u64 a, .int .u64 b] 2 (Nat.le_refl _) (by decide) rfl) (fun _ _ => trivial)
theorem lit2_i (W : World) (a b : Int) : Kd.R (Kd.int .i64) 3 (W.alloc (.cells #[.int .i64 a, .int .i64 b] 3)) W.heap.size (fun _ => True) (.slice (some ⟨W.heap.size, 0, none⟩) 2 2) [a, b] :=
  Kd.R_of_own (enc := Value.int .i64) (h1 := fun _ => rfl) (World.ownsRow_lit (base := W.heap.size) (e := 3) (size := 1) W #[.int .i64 a, .int .i64 b] 2 (Nat.le_refl _) (by decide) rfl) (fun _ _ => trivial)
end Go.Proofs.Ytlcnckbmolefpaa.P
end
