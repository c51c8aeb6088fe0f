/- Walks and laws of several statements of this seat, joined into one text; no condition. -/
import Derived.Test.YtlcnckbmolefpaaProg
import Derived.Below
import Derived.Deep.Draws
import Derived.Deep.AppendLies
import Derived.Maps.AppendAt
import Derived.OwnWalk
import Derived.Laws.BytesArg
import Derived.Laws.MakeOwn
import Derived.Laws.OwnMore
import Derived.Deep.OwnRows
import Derived.Tactics
import Derived.Lib.ConvBytes
import Derived.Laws.Slices
import Derived.WalkKit
import Derived.KernelRfl
import Derived.RowKit3
import Derived.Deep.LoopGhost
import Derived.Deep.QuietTactic
import Derived.BigQuiet
import Derived.WideLaws
import Derived.Deep.DeepCutAuto
import Derived.Deep.CutBlock
import Derived.Deep.RegionHeld3
import Derived.Laws.Rows
import Derived.Lib.AppendStr
import Derived.ArgAppend
import Derived.Laws.IdiomCopy
import Derived.OrdersHeld
import Derived.Laws.BitsLemmas
import Derived.RowKit
import Derived.Laws.StructEq
import Derived.Maps.RangeWalk
import Derived.Maps.OwnRows
import Derived.Maps.Views
import Derived.Maps.OwnSet
import Derived.IntWalk
import Derived.Shelf.SlMaps.Clone
import Derived.Deep.RegionHeldLaw
import Derived.Maps.GroupsBeside
import Derived.Deep.Slices
import Derived.SizedLaws
import Derived.OpenShut
import Derived.Lib.SmallJoins
import Derived.Test.YtlcnckbmolefpaaCBa0
import Derived.Test.YtlcnckbmolefpaaCBa1
import Derived.Test.YtlcnckbmolefpaaCBa2
import Derived.Test.YtlcnckbmolefpaaCBa3
import Derived.Test.YtlcnckbmolefpaaCBa4
import Derived.Test.YtlcnckbmolefpaaCBa5
import Derived.Test.YtlcnckbmolefpaaCBa6
section
/- law09.To, ref09.step, ref09.Ahead: what they answer: which events happen before which (HClockA). -/
namespace Go.Proofs.Ytlcnckbmolefpaa.Pure
open Go.RowKit Go.Proofs.Ytlcnckbmolefpaa.P Go.Proofs.Ytlcnckbmolefpaa.CK Go.Proofs.YtlcnckbmolefpaaW.PrintWords Go.Proofs.YtlcnckbmolefpaaW.PrintLast Go.Proofs.YtlcnckbmolefpaaW.PrintMore
set_option linter.unusedVariables false
set_option linter.unusedSimpArgs false
theorem Ev.s {α : Type} {F G : Nat → Option α} {r : α} (h : ∀ k, F (k + 1) = G k) (g : Ev G r) : Ev F r := by
  obtain ⟨K, g⟩ := g
  refine ⟨K + 1, fun k hk => ?_⟩
  obtain ⟨k, rfl⟩ : ∃ m, k = m + 1 := ⟨k - 1, by omega⟩
  rw [h]; exact g k (by omega)
theorem Ev.o {α : Type} {F : Nat → Option α} {r : α} (h : ∀ k, F (k + 1) = some r) : Ev F r := by
  refine ⟨1, fun k hk => ?_⟩
  obtain ⟨k, rfl⟩ : ∃ m, k = m + 1 := ⟨k - 1, by omega⟩
  exact h k
theorem w64n {x : Int} (h : -1000000 ≤ x) (h2 : x ≤ 1000000) : wrap64 x = x := by unfold wrap64; omega
def Ls {α : Type} (n : Nat) (g : Nat → α) : List α := (List.range n).map g
theorem ls_len {α : Type} (n : Nat) (g : Nat → α) : (Ls n g).length = n := by simp [Ls]
theorem ls_get {α : Type} (n : Nat) (g : Nat → α) (d : α) {i : Nat} (h : i < n) : (Ls n g).getD i d = g i := by
  rw [List.getD_eq_getElem?_getD, List.getElem?_eq_getElem (by rw [ls_len]; exact h)]; simp [Ls]
theorem ls_congr {α : Type} {n : Nat} {f g : Nat → α} (h : ∀ i, i < n → f i = g i) : Ls n f = Ls n g := by
  apply List.map_congr_left; intro i hi; exact h i (List.mem_range.1 hi)
theorem ls_set {α : Type} (n : Nat) (g : Nat → α) (i : Nat) (x : α) : (Ls n g).set i x = Ls n (fun a => if a = i then x else g a) := by
  apply List.ext_getElem?
  intro a
  rw [List.getElem?_set]
  by_cases c : i = a
  · subst c
    by_cases h : i < n
    · rw [if_pos rfl, if_pos (by rw [ls_len]; exact h), List.getElem?_eq_getElem (by rw [ls_len]; exact h)]; simp [Ls]
    · rw [if_pos rfl, if_neg (by rw [ls_len]; exact h), List.getElem?_eq_none (by rw [ls_len]; omega)]
  · rw [if_neg c]
    by_cases h : a < n
    · rw [List.getElem?_eq_getElem (by rw [ls_len]; exact h), List.getElem?_eq_getElem (by rw [ls_len]; exact h)]
      simp [Ls]
      intro q; exact absurd q.symm c
    · rw [List.getElem?_eq_none (by rw [ls_len]; omega), List.getElem?_eq_none (by rw [ls_len]; omega)]
theorem ls_rep {α : Type} (n : Nat) (x : α) : List.replicate n x = Ls n (fun _ => x) := by
  apply List.ext_getElem <;> simp [Ls]
theorem ls_snoc {α : Type} (n : Nat) (g : Nat → α) : Ls n g ++ [g n] = Ls (n + 1) g := by simp [Ls, List.range_succ]
theorem ls_rdB (n : Nat) (g : Nat → Bool) {i : Nat} (h : i < n) : rdOf false (Ls n g) (i : Int) = g i := by unfold rdOf; rw [Int.toNat_natCast, ls_get n g false h]
theorem ls_rdL (n : Nat) (g : Nat → List Bool) {i : Nat} (h : i < n) : rd_L5 (Ls n g) (i : Int) = g i := by unfold rd_L5; rw [Int.toNat_natCast, ls_get n g [] h]
def c8 (x : S127) : S128 := ⟨x.f0, x.f1, x.f2, x.f3⟩
theorem rd127 (p : List S127) (x : S127) (q : List S127) {i : Int} (h : i = p.length) : rd_T127 (p ++ x :: q) i = x := by subst h; simp [rd_T127]
theorem to9_l0 {l : List S127} (hl : l.length ≤ 1000) : ∀ (rest pre : List S127), l = pre ++ rest → Ev (fun k => marchlandlaw09_To.l0 k l (pre.map c8) (pre.length : Int)) (l.map c8)
  | [], pre, h => by
    refine Ev.o (fun k => ?_)
    rw [marchlandlaw09_To.l0, if_neg (by rw [h]; simp), h]; simp
  | x :: rest, pre, h => by
    refine Ev.s (fun k => ?_) (to9_l0 hl rest (pre ++ [x]) (by rw [h]; simp))
    have e : l.length = pre.length + (rest.length + 1) := by rw [h]; simp
    show marchlandlaw09_To.l0 (k + 1) _ _ _ = _
    rw [marchlandlaw09_To.l0, if_pos (by omega), if_pos (by omega), if_pos (by rw [List.length_map]; omega), w64n (by omega) (by omega)]
    have e2 : rd_T127 l (pre.length : Int) = x := by rw [h]; exact rd127 pre x rest rfl
    rw [e2, List.map_append, List.length_append]
    rfl
theorem to9_ev {l : List S127} (hl : l.length ≤ 1000) : Ev (fun k => marchlandlaw09_To.f k l) (l.map c8) := to9_l0 hl l [] rfl
/-- the events, by their places -/
def G (l : List S127) : Nat → CK.Ev := gl (l.map c8)
def ev7 (x : S127) : CK.Ev := ⟨x.f0, x.f1, x.f2, x.f3⟩
theorem G_at {l : List S127} {i : Nat} (h : i < l.length) : G l i = ev7 (rd_T127 l (i : Int)) := by
  unfold G gl rd_T127
  rw [Int.toNat_natCast, List.getD_eq_getElem?_getD, List.getElem?_map, List.getD_eq_getElem?_getD, List.getElem?_eq_getElem h]
  rfl
open Classical in
noncomputable def stB (g : Nat → CK.Ev) (i j : Nat) : Bool := decide (stp g i j)
open Classical in
noncomputable def hbB (g : Nat → CK.Ev) (i j : Nat) : Bool := decide (hb g i j)
open Classical in
theorem stB_t {g : Nat → CK.Ev} {i j : Nat} : stB g i j = true ↔ stp g i j := by unfold stB; exact decide_eq_true_iff
open Classical in
theorem hbB_t {g : Nat → CK.Ev} {i j : Nat} : hbB g i j = true ↔ hb g i j := by unfold hbB; exact decide_eq_true_iff
theorem stB_of {g : Nat → CK.Ev} {i j : Nat} {b : Bool} (h : b = true ↔ stp g i j) : stB g i j = b := by
  rw [Bool.eq_iff_iff, stB_t, h]
section
variable {l : List S127} {i j : Nat}
/-- is there none that lays the word anew between? -/
theorem step_l0 (hl : l.length ≤ 1000) (hj : j < l.length) (a0 a1 a2 : Int) (a3 : Bool) : ∀ d m : Nat, m + d = j → Ev (fun k => marchlandref09_step.l0 k l (j : Int) (m : Int) a0 a1 a2 a3) (!(List.range' m d).any fun k => decide (stores (G l k)) && decide ((G l k).at_ = a2))
  | 0, m, h => by
    refine Ev.o (fun k => ?_)
    rw [marchlandref09_step.l0, if_neg (by omega)]; rfl
  | d + 1, m, h => by
    have hm : m < l.length := by omega
    have ih := step_l0 hl hj a0 a1 a2 a3 d (m + 1) (by omega)
    by_cases c : (rd_T127 l (m : Int)).f1 = 1
    · by_cases c2 : (rd_T127 l (m : Int)).f2 = a2
      · refine Ev.o (fun k => ?_)
        rw [marchlandref09_step.l0, if_pos (by omega), if_pos (by omega), if_pos (by omega), if_pos c, if_pos c2, List.range'_succ, List.any_cons, G_at hm]
        simp [ev7, stores, c, c2]
      · refine Ev.s (fun k => ?_) (Ev.congr (fun _ => rfl) ih |> fun q => by
          rw [show (!(List.range' m (d + 1)).any fun k => decide (stores (G l k)) && decide ((G l k).at_ = a2)) = (!(List.range' (m + 1) d).any fun k => decide (stores (G l k)) && decide ((G l k).at_ = a2)) by
            rw [List.range'_succ, List.any_cons, G_at hm]; simp [ev7, c2]]
          exact q)
        show marchlandref09_step.l0 (k + 1) _ _ _ _ _ _ _ = _
        rw [marchlandref09_step.l0, if_pos (by omega), if_pos (by omega), if_pos (by omega), if_pos c, if_neg c2, w64n (by omega) (by omega)]; rfl
    · refine Ev.s (fun k => ?_) (Ev.congr (fun _ => rfl) ih |> fun q => by
          rw [show (!(List.range' m (d + 1)).any fun k => decide (stores (G l k)) && decide ((G l k).at_ = a2)) = (!(List.range' (m + 1) d).any fun k => decide (stores (G l k)) && decide ((G l k).at_ = a2)) by
            rw [List.range'_succ, List.any_cons, G_at hm]; simp [ev7, stores, c]]
          exact q)
      show marchlandref09_step.l0 (k + 1) _ _ _ _ _ _ _ = _
      rw [marchlandref09_step.l0, if_pos (by omega), if_pos (by omega), if_pos (by omega), if_neg c, w64n (by omega) (by omega)]; rfl
theorem none_between (h : i < j) (a : Int) : ((!(List.range' (i + 1) (j - (i + 1))).any fun k => decide (stores (G l k)) && decide ((G l k).at_ = a)) = true) ↔ ∀ k, i < k → k < j → ¬ (stores (G l k) ∧ (G l k).at_ = a) := by
  rw [Bool.not_eq_true', List.any_eq_false]
  constructor
  · intro q k h1 h2 h3
    have := q k (by rw [List.mem_range'_1]; omega)
    simp [h3.1, h3.2] at this
  · intro q k hk
    rw [List.mem_range'_1] at hk
    have := q k (by omega) (by omega)
    simp only [Bool.and_eq_true, decide_eq_true_iff]
    exact this
theorem step_ev (hl : l.length ≤ 1000) (hij : i < j) (hj : j < l.length) : Ev (fun k => marchlandref09_step.f k l (i : Int) (j : Int)) (stB (G l) i j) := by
  have hi : i < l.length := by omega
  have gi := G_at hi
  have gj := G_at hj
  have e0 : ∀ k, marchlandref09_step.f k l (i : Int) (j : Int) = marchlandref09_step.j0 k l (i : Int) (j : Int) (!(decide (valid (G l i)) && decide (valid (G l j)))) ((rd_T127 l i).f0) ((rd_T127 l i).f1) ((rd_T127 l i).f2) ((rd_T127 l i).f3) ((rd_T127 l j).f0) ((rd_T127 l j).f1) ((rd_T127 l j).f2) ((rd_T127 l j).f3) := by
    intro k
    have vi : valid (G l i) ↔ 0 ≤ (rd_T127 l i).f1 ∧ (rd_T127 l i).f1 ≤ 7 := by rw [gi]; exact Iff.rfl
    have vj : valid (G l j) ↔ 0 ≤ (rd_T127 l j).f1 ∧ (rd_T127 l j).f1 ≤ 7 := by rw [gj]; exact Iff.rfl
    unfold marchlandref09_step.f
    rw [if_pos (by omega), if_pos (by omega), if_pos (by omega), if_pos (by omega)]
    by_cases c1 : (rd_T127 l i).f1 < 0
    · rw [if_pos c1, decide_eq_false (show ¬ valid (G l i) by rw [vi]; omega)]; rfl
    · rw [if_neg c1]
      by_cases c2 : (rd_T127 l i).f1 > 7
      · rw [if_pos c2, decide_eq_false (show ¬ valid (G l i) by rw [vi]; omega)]; rfl
      · rw [if_neg c2, decide_eq_true (show valid (G l i) by rw [vi]; omega)]
        by_cases c3 : (rd_T127 l j).f1 < 0
        · rw [if_pos c3, decide_eq_false (show ¬ valid (G l j) by rw [vj]; omega)]; rfl
        · rw [if_neg c3]
          by_cases c4 : (rd_T127 l j).f1 > 7
          · rw [decide_eq_true c4, decide_eq_false (show ¬ valid (G l j) by rw [vj]; omega)]; rfl
          · rw [decide_eq_false c4, decide_eq_true (show valid (G l j) by rw [vj]; omega)]; rfl
  refine Ev.congr e0 ?_
  by_cases hv : valid (G l i) ∧ valid (G l j)
  · rw [decide_eq_true hv.1, decide_eq_true hv.2]
    have wi : (G l i).who = (rd_T127 l i).f0 := by rw [gi]; rfl
    have wj : (G l j).who = (rd_T127 l j).f0 := by rw [gj]; rfl
    have ai : (G l i).at_ = (rd_T127 l i).f2 := by rw [gi]; rfl
    have aj : (G l j).at_ = (rd_T127 l j).f2 := by rw [gj]; rfl
    have ki : (G l i).kind = (rd_T127 l i).f1 := by rw [gi]; rfl
    have kj : (G l j).kind = (rd_T127 l j).f1 := by rw [gj]; rfl
    have oi : (G l i).ok = (rd_T127 l i).f3 := by rw [gi]; rfl
    have oj : (G l j).ok = (rd_T127 l j).f3 := by rw [gj]; rfl
    by_cases cw : (rd_T127 l i).f0 = (rd_T127 l j).f0
    · rw [stB_of (b := true) ⟨fun _ => ⟨hij, hv.1, hv.2, Or.inl (by rw [wi, wj]; exact cw)⟩, fun _ => rfl⟩]
      refine Ev.o (fun k => ?_)
      rw [marchlandref09_step.j0, if_neg (by simp), if_pos cw]
    · by_cases ca : (rd_T127 l i).f2 = (rd_T127 l j).f2
      · have key : ∀ b : Bool, (b = true ↔ ((stores (G l i) ∧ (G l j).kind = 0 ∧ ∀ k, i < k → k < j → ¬ (stores (G l k) ∧ (G l k).at_ = (G l i).at_)) ∨ (frees (G l i) ∧ (G l j).kind = 4 ∧ (G l j).ok = true))) → stB (G l) i j = b := fun b hb => stB_of (hb.trans ⟨fun q => ⟨hij, hv.1, hv.2, Or.inr ⟨by rw [ai, aj]; exact ca, q⟩⟩, fun q => q.2.2.2.elim (fun q => absurd (by rw [← wi, ← wj]; exact q) cw) (fun q => q.2)⟩)
        by_cases c10 : (rd_T127 l i).f1 = 1 ∧ (rd_T127 l j).f1 = 0
        · rw [key (!(List.range' (i + 1) (j - (i + 1))).any fun k => decide (stores (G l k)) && decide ((G l k).at_ = (rd_T127 l i).f2)) (by
            rw [none_between hij]
            constructor
            · intro q; exact Or.inl ⟨by show (G l i).kind = 1; rw [ki]; exact c10.1, by rw [kj]; exact c10.2, by rw [ai]; exact q⟩
            · rintro (q | q)
              · rw [← ai]; exact q.2.2
              · have := q.2.1; rw [kj, c10.2] at this; omega)]
          refine Ev.s (G := fun k => marchlandref09_step.j1 k l (i : Int) (j : Int) true ((rd_T127 l i).f0) ((rd_T127 l i).f1) ((rd_T127 l i).f2) ((rd_T127 l i).f3) ((rd_T127 l j).f0) ((rd_T127 l j).f1) ((rd_T127 l j).f2) ((rd_T127 l j).f3)) (fun k => ?_) (Ev.s (fun k => ?_) (step_l0 hl hj ((rd_T127 l i).f0) ((rd_T127 l i).f1) ((rd_T127 l i).f2) ((rd_T127 l i).f3) (j - (i + 1)) (i + 1) (by omega)))
          · show marchlandref09_step.j0 (k + 1) _ _ _ _ _ _ _ _ _ _ _ _ = _
            rw [marchlandref09_step.j0, if_neg (by simp), if_neg cw, if_pos ca, if_pos c10.1, c10.2]; rfl
          · show marchlandref09_step.j1 (k + 1) _ _ _ _ _ _ _ _ _ _ _ _ = _
            rw [marchlandref09_step.j1, if_pos rfl, w64n (by omega) (by omega)]; rfl
        · have kb : ((((rd_T127 l i).f1 == 5 || (rd_T127 l i).f1 == 6) && (rd_T127 l i).f3 && ((rd_T127 l j).f1 == 4) && (rd_T127 l j).f3) = true) ↔ ((stores (G l i) ∧ (G l j).kind = 0 ∧ ∀ k, i < k → k < j → ¬ (stores (G l k) ∧ (G l k).at_ = (G l i).at_)) ∨ (frees (G l i) ∧ (G l j).kind = 4 ∧ (G l j).ok = true)) := by
            unfold frees
            rw [ki, kj, oi, oj]
            simp only [Bool.and_eq_true, Bool.or_eq_true, beq_iff_eq]
            constructor
            · intro q; exact Or.inr ⟨⟨q.1.1.1, q.1.1.2⟩, q.1.2, q.2⟩
            · rintro (q | q)
              · exact absurd ⟨by rw [← ki]; exact q.1, q.2.1⟩ c10
              · exact ⟨⟨⟨q.1.1, q.1.2⟩, q.2.1⟩, q.2.2⟩
          rw [key _ kb]
          refine Ev.s (G := fun k => marchlandref09_step.j1 k l (i : Int) (j : Int) false ((rd_T127 l i).f0) ((rd_T127 l i).f1) ((rd_T127 l i).f2) ((rd_T127 l i).f3) ((rd_T127 l j).f0) ((rd_T127 l j).f1) ((rd_T127 l j).f2) ((rd_T127 l j).f3)) (fun k => ?_) (Ev.o (fun k => ?_))
          · show marchlandref09_step.j0 (k + 1) _ _ _ _ _ _ _ _ _ _ _ _ = _
            rw [marchlandref09_step.j0, if_neg (by simp), if_neg cw, if_pos ca]
            by_cases c1 : (rd_T127 l i).f1 = 1
            · rw [if_pos c1]
              have : ((rd_T127 l j).f1 == 0) = false := by
                cases h : ((rd_T127 l j).f1 == 0)
                · rfl
                · exact absurd ⟨c1, by simpa using h⟩ c10
              rw [this]
            · rw [if_neg c1]
          · rw [marchlandref09_step.j1, if_neg (by simp)]
            by_cases c5 : (rd_T127 l i).f1 = 5
            · rw [if_pos c5, c5]
              cases (rd_T127 l i).f3 <;> by_cases c4 : (rd_T127 l j).f1 = 4 <;> simp [c4]
            · rw [if_neg c5]
              by_cases c6 : (rd_T127 l i).f1 = 6
              · rw [if_pos c6, c6]
                cases (rd_T127 l i).f3 <;> by_cases c4 : (rd_T127 l j).f1 = 4 <;> simp [c4]
              · rw [if_neg c6]
                simp [c5, c6]
      · rw [stB_of (b := false) ⟨fun q => (by cases q), fun q => q.2.2.2.elim (fun q => absurd (by rw [← wi, ← wj]; exact q) cw) (fun q => absurd (by rw [← ai, ← aj]; exact q.1) ca)⟩]
        refine Ev.o (fun k => ?_)
        rw [marchlandref09_step.j0, if_neg (by simp), if_neg cw, if_neg ca]
  · rw [stB_of (b := false) ⟨fun q => (by cases q), fun q => absurd ⟨q.2.1, q.2.2.1⟩ hv⟩]
    refine Ev.o (fun k => ?_)
    have : (!(decide (valid (G l i)) && decide (valid (G l j)))) = true := by
      by_cases h1 : valid (G l i)
      · by_cases h2 : valid (G l j)
        · exact absurd ⟨h1, h2⟩ hv
        · rw [decide_eq_false h2]; simp
      · rw [decide_eq_false h1]; simp
    rw [marchlandref09_step.j0, if_pos this]
end
noncomputable def AR (l : List S127) (j : Nat) : List Bool := Ls l.length fun i => hbB (G l) i j
noncomputable def AX (l : List S127) (j : Nat) : List (List Bool) := Ls j (AR l)
noncomputable def mix (l : List S127) (ρ : Nat → Bool) (i t : Nat) : Nat → Bool := fun b => decide (b < t) && hbB (G l) b i || ρ b
section
variable {l : List S127} {i j : Nat}
theorem ahead_l2 (hl : l.length ≤ 1000) (hij : i < j) (hj : j < l.length) (ρ : Nat → Bool) (R : List (List Bool)) (h : Ev (fun k => marchlandref09_Ahead.l1 k l (AX l j) (j : Int) (Ls l.length (mix l ρ i i)) ((i : Int) - 1)) R) :
    ∀ d t : Nat, t + d = i → Ev (fun k => marchlandref09_Ahead.l2 k l (AX l j) (j : Int) (Ls l.length (mix l ρ i t)) (i : Int) (t : Int)) R
  | 0, t, ht => by
    obtain rfl : t = i := by omega
    refine Ev.s (fun k => ?_) h
    rw [marchlandref09_Ahead.l2, if_neg (by omega), w64n (by omega) (by omega)]
  | d + 1, t, ht => by
    refine Ev.s (fun k => ?_) (ahead_l2 hl hij hj ρ R h d (t + 1) (by omega))
    have e1 : mix l ρ i t t = ρ t := by unfold mix; simp
    have e2 : rd_L5 (AX l j) (i : Int) = AR l i := ls_rdL j (AR l) hij
    have e3 : rdOf false (AR l i) (t : Int) = hbB (G l) t i := ls_rdB _ _ (by omega)
    have e4 : ∀ b : Bool, b = (hbB (G l) t i || ρ t) → (Ls l.length (mix l ρ i t)).set t b = Ls l.length (mix l ρ i (t + 1)) := fun b hb => by
      rw [ls_set]
      refine ls_congr fun a ha => ?_
      by_cases c : a = t
      · rw [if_pos c, c, hb]; unfold mix; simp
      · rw [if_neg c]; unfold mix
        by_cases c2 : a < t
        · rw [decide_eq_true c2, decide_eq_true (show a < t + 1 by omega)]
        · rw [decide_eq_false c2, decide_eq_false (show ¬ a < t + 1 by omega)]
    show marchlandref09_Ahead.l2 (k + 1) _ _ _ _ _ _ = _
    rw [marchlandref09_Ahead.l2, if_pos (by omega), if_pos (by omega), ls_len, if_pos (by omega), ls_rdB _ _ (by omega), e1]
    by_cases c : ρ t = true
    · rw [if_pos c, Int.toNat_natCast, e4 true (by rw [c]; simp), w64n (by omega) (by omega)]; rfl
    · rw [if_neg c, if_pos (by omega), if_pos (by unfold AX; rw [ls_len]; omega), e2, if_pos (by unfold AR; rw [ls_len]; omega), Int.toNat_natCast, e3, e4 _ (by rw [show ρ t = false by simpa using c]; simp), w64n (by omega) (by omega)]; rfl
structure AInv (l : List S127) (j c : Nat) (ρ : Nat → Bool) : Prop where
  a : ∀ b, ρ b = true → hb (G l) b j
  b : ∀ b, c ≤ b → stp (G l) b j → ρ b = true
  cl : ∀ b, ρ b = true → ∀ a, hb (G l) a b → ρ a = true
theorem AInv.done {ρ : Nat → Bool} (h : AInv l j 0 ρ) : Ls l.length ρ = AR l j := by
  refine ls_congr fun b _ => ?_
  rw [Bool.eq_iff_iff, hbB_t]
  refine ⟨h.a b, fun q => ?_⟩
  obtain ⟨k, hk, q⟩ := hb_last.1 q
  have := h.b k (Nat.zero_le _) hk
  rcases q with rfl | q
  · exact this
  · exact h.cl k this b q
theorem AInv.skip {ρ : Nat → Bool} (h : AInv l j (i + 1) ρ) (hi : ρ i = true ∨ ¬ stp (G l) i j) : AInv l j i ρ := by
  refine ⟨h.a, fun b hb hs => ?_, h.cl⟩
  by_cases c : b = i
  · subst c; rcases hi with hi | hi
    · exact hi
    · exact absurd hs hi
  · exact h.b b (by omega) hs
theorem AInv.take {ρ : Nat → Bool} (h : AInv l j (i + 1) ρ) (hs : stp (G l) i j) : AInv l j i (mix l (fun b => if b = i then true else ρ b) i i) := by
  have key : ∀ b, mix l (fun b => if b = i then true else ρ b) i i b = true ↔ (b < i ∧ hb (G l) b i) ∨ b = i ∨ ρ b = true := fun b => by
    unfold mix
    rw [Bool.or_eq_true, Bool.and_eq_true, decide_eq_true_iff, hbB_t]
    by_cases c : b = i <;> simp [c]
  refine ⟨fun b hb' => ?_, fun b hb' hst => ?_, fun b hb' a ha => ?_⟩
  · rcases (key b).1 hb' with q | q | q
    · exact .more q.2 hs
    · subst q; exact .one hs
    · exact h.a b q
  · rw [key]
    by_cases c : b = i
    · exact Or.inr (Or.inl c)
    · exact Or.inr (Or.inr (h.b b (by omega) hst))
  · rw [key]
    rcases (key b).1 hb' with q | q | q
    · have t := hb_trans ha q.2
      exact Or.inl ⟨hb_lt t, t⟩
    · subst q; exact Or.inl ⟨hb_lt ha, ha⟩
    · exact Or.inr (Or.inr (h.cl b q a ha))
theorem ahead_l1 (hl : l.length ≤ 1000) (hj : j < l.length) (R : List (List Bool)) (h : Ev (fun k => marchlandref09_Ahead.l0 k l (AX l (j + 1)) ((j + 1 : Nat) : Int)) R) :
    ∀ (c : Nat) (ρ : Nat → Bool), c ≤ j → AInv l j c ρ → Ev (fun k => marchlandref09_Ahead.l1 k l (AX l j) (j : Int) (Ls l.length ρ) ((c : Int) - 1)) R
  | 0, ρ, _, hI => by
    refine Ev.s (fun k => ?_) h
    rw [marchlandref09_Ahead.l1, if_neg (by omega), if_pos (by unfold AX; rw [ls_len]; omega), hI.done, w64n (by omega) (by omega)]
    have : AX l j ++ [AR l j] = AX l (j + 1) := ls_snoc j (AR l)
    rw [this]; rfl
  | i + 1, ρ, hc, hI => by
    have hi : i < l.length := by omega
    have e0 : ((i + 1 : Nat) : Int) - 1 = (i : Int) := by omega
    by_cases c1 : ρ i = true
    · have ih := ahead_l1 hl hj R h i ρ (by omega) (hI.skip (Or.inl c1))
      refine Ev.s (G := fun k => marchlandref09_Ahead.j2 k l (AX l j) (j : Int) (Ls l.length ρ) (i : Int) true) (fun k => ?_) (Ev.s (fun k => ?_) ih)
      · rw [e0, marchlandref09_Ahead.l1, if_pos (by omega), if_pos (by omega), ls_len, if_pos (by omega), ls_rdB _ _ hi, if_pos c1]
      · rw [marchlandref09_Ahead.j2, if_pos rfl, w64n (by omega) (by omega)]
    · have st := step_ev hl (show i < j by omega) hj
      by_cases c2 : stp (G l) i j
      · have ih := ahead_l1 hl hj R h i _ (by omega) (hI.take c2)
        have l2 := ahead_l2 hl (show i < j by omega) hj _ R ih i 0 (by omega)
        rw [stB_t.2 c2] at st
        have e5 : (Ls l.length ρ).set i true = Ls l.length (mix l (fun b => if b = i then true else ρ b) i 0) := by
          rw [ls_set]; refine ls_congr fun a _ => ?_; unfold mix; simp
        refine Ev.s (G := fun k => (marchlandref09_step.f k l (i : Int) (j : Int)).bind fun t172 => marchlandref09_Ahead.j2 k l (AX l j) (j : Int) (Ls l.length ρ) (i : Int) (!t172)) (fun k => ?_) (Ev.bind st (Ev.s (fun k => ?_) l2))
        · rw [e0, marchlandref09_Ahead.l1, if_pos (by omega), if_pos (by omega), ls_len, if_pos (by omega), ls_rdB _ _ hi, if_neg c1]
        · rw [marchlandref09_Ahead.j2, if_neg (by simp), if_pos (by omega), ls_len, if_pos (by omega), Int.toNat_natCast, e5]; rfl
      · have ih := ahead_l1 hl hj R h i ρ (by omega) (hI.skip (Or.inr c2))
        rw [stB_of (b := false) ⟨fun q => (by cases q), fun q => absurd q c2⟩] at st
        refine Ev.s (G := fun k => (marchlandref09_step.f k l (i : Int) (j : Int)).bind fun t172 => marchlandref09_Ahead.j2 k l (AX l j) (j : Int) (Ls l.length ρ) (i : Int) (!t172)) (fun k => ?_) (Ev.bind st (Ev.s (fun k => ?_) ih))
        · rw [e0, marchlandref09_Ahead.l1, if_pos (by omega), if_pos (by omega), ls_len, if_pos (by omega), ls_rdB _ _ hi, if_neg c1]
        · rw [marchlandref09_Ahead.j2, if_pos (show (!false) = true from rfl), w64n (by omega) (by omega)]
theorem ahead_l0 (hl : l.length ≤ 1000) : ∀ d j : Nat, j + d = l.length → Ev (fun k => marchlandref09_Ahead.l0 k l (AX l j) (j : Int)) (AX l l.length)
  | 0, j, h => by
    obtain rfl : j = l.length := by omega
    refine Ev.o (fun k => ?_)
    rw [marchlandref09_Ahead.l0, if_neg (by omega)]
  | d + 1, j, h => by
    have hj : j < l.length := by omega
    have ih := ahead_l1 hl hj _ (ahead_l0 hl d (j + 1) (by omega)) j (fun _ => false) (Nat.le_refl _) ⟨fun b q => (by cases q), fun b q s => absurd s.1 (by omega), fun b q => (by cases q)⟩
    refine Ev.s (fun k => ?_) ih
    rw [marchlandref09_Ahead.l0, if_pos (by omega), if_pos (by omega), if_pos (by omega), Int.toNat_natCast, ls_rep, w64n (by omega) (by omega)]
theorem ahead_ev (hl : l.length ≤ 1000) : Ev (fun k => marchlandref09_Ahead.f k l) (AX l l.length) := ahead_l0 hl l.length 0 (by omega)
/-- what Ahead says of two -/
theorem ax_at {a b : Nat} (ha : a < l.length) (hb' : b < l.length) : rd_L5 (AX l l.length) (b : Int) = AR l b ∧ rdOf false (AR l b) (a : Int) = hbB (G l) a b := ⟨ls_rdL _ _ hb', ls_rdB _ _ ha⟩
theorem ax_len : (AX l l.length).length = l.length := ls_len _ _
theorem ar_len {b : Nat} : (AR l b).length = l.length := ls_len _ _
/-- what the program says of two -/
theorem before_eq (hl : l.length ≤ 1000) (hw : ∀ x ∈ l, (-9223372036854775808 ≤ x.f0 ∧ x.f0 ≤ 9223372036854775807) ∧ -9223372036854775808 ≤ x.f2 ∧ x.f2 ≤ 9223372036854775807) (a b : Int) : clock_Before.f (l.map c8) a b = some (decide (0 ≤ a) && decide (a < b) && decide (b < (l.length : Int)) && hbB (G l) a.toNat b.toNat) := by
  have ok : evsB (l.map c8) = true := by
    unfold evsB
    rw [Bool.and_eq_true, decide_eq_true_iff, List.all_eq_true]
    refine ⟨by rw [List.length_map]; omega, fun e he => ?_⟩
    obtain ⟨x, hx, rfl⟩ := List.mem_map.1 he
    have := hw x hx
    unfold EvB c8
    simp only [Bool.and_eq_true, decide_eq_true_iff]
    exact ⟨⟨⟨this.1.1, this.1.2⟩, this.2.1⟩, this.2.2⟩
  unfold clock_Before.f
  rw [if_pos ok, List.length_map]
  by_cases h0 : 0 ≤ a
  · by_cases h1 : a < b
    · have : bef (gl (l.map c8)) a.toNat b.toNat = hbB (G l) a.toNat b.toNat := by
        rw [Bool.eq_iff_iff, hbB_t]
        exact bef_iff (by omega)
      rw [this]
    · rw [decide_eq_false h1]; simp
  · rw [decide_eq_false h0]; simp
end
end Go.Proofs.Ytlcnckbmolefpaa.Pure
end
section
namespace Go.Proofs.Ytlcnckbmolefpaa.P
open Go.RowKit Go.Proofs.YtlcnckbmolefpaaW.PrintWords Go.Proofs.YtlcnckbmolefpaaW.PrintLast Go.Proofs.YtlcnckbmolefpaaW.PrintMore
set_option linter.unusedVariables false
set_option linter.unusedSimpArgs false
open Go.ChangeShapes Go.WideShapes Go.Deep
/-- Whatever reads at type t is told by the kind d, and is so as q says. -/
def Opens (P : Program) (t : TypeId) {α : Type} (d : Kd α) (q : α → Prop) : Prop :=
  ∀ (H : Type) (enc : TypeId × Value → H) (w : World) (base : Nat) (spare : Nat → Bool) (held : Bool) (fuel : Nat) (cs : List Value) (x : DataW H × List MemPlace),
    DataW.trod enc P w base spare held fuel t cs = some x → ∃ y : α, d.K w y cs ∧ q y
theorem Opens.int {P : Program} {t : TypeId} {k : IntKind} (hu : P.underlying t = some (.int k)) : Opens P t (Kd.int k) (fun n => (Lit.int k n).wf = true) := by
  intro H enc w base spare held fuel cs x h
  obtain ⟨n, rfl, _, hw⟩ := DataW.trod_int hu h
  exact ⟨n, rfl, hw⟩
theorem Opens.bool {P : Program} {t : TypeId} (hu : P.underlying t = some .bool) : Opens P t Kd.bool (fun _ => True) := by
  intro H enc w base spare held fuel cs x h
  obtain ⟨b, rfl, _⟩ := DataW.trod_bool hu h
  exact ⟨b, rfl, trivial⟩
theorem Opens.imp {P : Program} {t : TypeId} {α : Type} {d : Kd α} {q q' : α → Prop} (h : Opens P t d q) (hq : ∀ y, q y → q' y) : Opens P t d q' := by
  intro H enc w base spare held fuel cs x hx
  obtain ⟨y, h1, h2⟩ := h H enc w base spare held fuel cs x hx
  exact ⟨y, h1, hq y h2⟩
theorem Opens.iso {P : Program} {t : TypeId} {α β : Type} {d : Kd α} {q : α → Prop} (h : Opens P t d q) (f : β → α) (g : α → β) (hfg : ∀ y, f (g y) = y) : Opens P t (Kd.iso d f) (fun x => q (f x)) := by
  intro H enc w base spare held fuel cs x hx
  obtain ⟨y, h1, h2⟩ := h H enc w base spare held fuel cs x hx
  refine ⟨g y, ?_, by show q (f (g y)); rw [hfg]; exact h2⟩
  show d.K w (f (g y)) cs
  rw [hfg]; exact h1
theorem Opens.slice {P : Program} {t e : TypeId} {α : Type} [Inhabited α] {d : Kd α} {q : α → Prop} (hu : P.underlying t = some (.slice e)) (hc : P.cellsOf e = d.sz) (h : Opens P e d q) : Opens P t (Kd.slice e d) (fun l => l.length ≤ maxLen ∧ ∀ y ∈ l, q y) := by
  intro H enc w base spare held fuel cs x hx
  rcases open_slice hu hx with ⟨rfl, _⟩ | ⟨a, len, cap, m, n, D, Pl, rfl, hb, hl, hm, hmm, _, hel⟩
  · exact ⟨[], ⟨none, 0, rfl, Nat.le_refl _, rfl, Nat.zero_le _, fun h => absurd h (by simp)⟩, Nat.zero_le _, fun y hy => by simp at hy⟩
  · have hlm : len ≤ m := by rw [hmm]; split <;> omega
    obtain ⟨Y, hY⟩ := choose_lt (α := α) (n := len) (p := fun i y => ∃ cs', w.cells? base (a.add (i * P.cellsOf e)) (P.cellsOf e) = some cs' ∧ d.K w y cs' ∧ q y) (fun i hi => by
      obtain ⟨cs', h1, h2⟩ := hel i (by omega)
      obtain ⟨y, h3, h4⟩ := h H enc w base spare held n cs' _ h2
      exact ⟨y, cs', h1, h3, h4⟩)
    have hlen : ((List.range len).map Y).length = len := by simp
    refine ⟨(List.range len).map Y, ⟨some a, cap, by rw [hlen], by rw [hlen]; exact hl, rfl, ?_, fun _ => ⟨a, rfl, fun j p hj => ?_⟩⟩, ?_, fun y hy => ?_⟩
    · rw [hlen]; unfold maxLen at hm; omega
    · obtain ⟨hjl, hje⟩ := List.getElem?_eq_some_iff.1 hj
      rw [hlen] at hjl
      have hpj : p = Y j := by rw [← hje]; simp
      obtain ⟨cs', h1, h3, _⟩ := hY j hjl
      obtain ⟨_, hcl, hcc⟩ := World.cells?_some h1
      refine ⟨cs', d.K_len h3, by rw [hpj]; exact h3, fun i u hu2 => ?_⟩
      have hi := (List.getElem?_eq_some_iff.1 hu2).1
      rw [d.K_len h3] at hi
      have h5 := hcc i (by rw [hc]; exact hi)
      rw [hc, Go.Deep.add_add] at h5
      rw [h5, ← hu2]
    · rw [hlen]; omega
    · obtain ⟨j, hj, rfl⟩ := List.mem_map.1 hy
      obtain ⟨_, _, _, h4⟩ := hY j (List.mem_range.1 hj)
      exact h4
/-- Fields, one behind the other, from a place on. -/
def OpensSeg (P : Program) (fs : List Field) (off : Nat) {α : Type} (d : Kd α) (q : α → Prop) : Prop :=
  ∀ (H : Type) (enc : TypeId × Value → H) (w : World) (base : Nat) (spare : Nat → Bool) (held : Bool) (fuel : Nat) (cs : List Value), cs.length = d.sz →
    (∀ f ∈ fs, ∃ x : DataW H × List MemPlace, DataW.trod enc P w base spare held fuel f.type ((cs.drop (f.offset - off)).take (P.cellsOf f.type)) = some x) → ∃ y : α, d.K w y cs ∧ q y
theorem OpensSeg.one {P : Program} {f : Field} {off : Nat} {α : Type} {d : Kd α} {q : α → Prop} (ho : f.offset = off) (hc : P.cellsOf f.type = d.sz) (h : Opens P f.type d q) : OpensSeg P [f] off d q := by
  intro H enc w base spare held fuel cs hl hf
  obtain ⟨x, hx⟩ := hf f List.mem_cons_self
  rw [ho, Nat.sub_self, List.drop_zero, hc, ← hl, List.take_length] at hx
  exact h H enc w base spare held fuel cs x hx
theorem OpensSeg.cons {P : Program} {f : Field} {fs : List Field} {off : Nat} {α β : Type} {d : Kd α} {d2 : Kd β} {q : α → Prop} {q2 : β → Prop} (ho : f.offset = off) (hc : P.cellsOf f.type = d.sz) (hm : ∀ g ∈ fs, off + d.sz ≤ g.offset) (h : Opens P f.type d q) (h2 : OpensSeg P fs (off + d.sz) d2 q2) :
    OpensSeg P (f :: fs) off (Kd.pair d d2) (fun y => q y.1 ∧ q2 y.2) := by
  intro H enc w base spare held fuel cs hl hf
  have hl' : cs.length = d.sz + d2.sz := hl
  obtain ⟨x, hx⟩ := hf f List.mem_cons_self
  rw [ho, Nat.sub_self, List.drop_zero, hc] at hx
  obtain ⟨y, h3, h4⟩ := h H enc w base spare held fuel _ x hx
  obtain ⟨y2, h5, h6⟩ := h2 H enc w base spare held fuel (cs.drop d.sz) (by rw [List.length_drop]; omega) (fun g hg => by
    obtain ⟨x2, hx2⟩ := hf g (List.mem_cons_of_mem _ hg)
    refine ⟨x2, ?_⟩
    have := hm g hg
    rw [List.drop_drop, show d.sz + (g.offset - (off + d.sz)) = g.offset - off by omega]
    exact hx2)
  exact ⟨(y, y2), ⟨cs.take d.sz, cs.drop d.sz, (List.take_append_drop _ _).symm, h3, h5⟩, h4, h6⟩
theorem Opens.struct {P : Program} {t : TypeId} {fs : Array Field} {α : Type} {d : Kd α} {q : α → Prop} (hu : P.underlying t = some (.struct fs)) (hc : P.cellsOf t = d.sz) (h : OpensSeg P fs.toList 0 d q) : Opens P t d q := by
  intro H enc w base spare held fuel cs x hx
  obtain ⟨xs, n, rfl, _, hl, hxs, hf⟩ := DataW.trod_struct hu hx
  refine h H enc w base spare held n cs (by rw [hl, hc]) (fun f hf2 => ?_)
  obtain ⟨i, hi, rfl⟩ := List.getElem_of_mem hf2
  have h1 := hf i fs.toList[i] (by rw [Array.getElem?_eq_getElem (by simpa using hi)]; simp)
  have hi2 : i < fs.size := by simpa using hi
  rw [List.getElem?_eq_getElem (by omega)] at h1
  exact ⟨_, by rw [Nat.sub_zero]; exact h1⟩
/-- An argument that is a slice: its value, its list, how long it may be. -/
theorem Opens.arg {P : Program} {t e : TypeId} {α : Type} {d : Kd α} {q : List α → Prop} (ho : Opens P t (Kd.slice e d) q) {H : Type} {enc : TypeId × Value → H} {w : World} {base : Nat} {spare : Nat → Bool} {held : Bool} {a : Option Addr} {len cap : Nat} {D : DataW H} {ps : List MemPlace} (h : DataW.Trod enc P w base spare held t (.slice a len cap) D ps) :
    ∃ l : List α, len = l.length ∧ Kd.C d w a l.length l ∧ l.length ≤ cap ∧ q l := by
  obtain ⟨fuel, hf⟩ := h
  obtain ⟨l, ⟨A, c, he, hlc, hC⟩, hq⟩ := ho H enc w base spare held fuel _ _ hf
  simp [Value.cells] at he
  obtain ⟨rfl, rfl, rfl⟩ := he
  exact ⟨l, rfl, hC, hlc, hq⟩
theorem sized_slice_any {H : Type} {enc : TypeId × Value → H} {P : Program} {W : World} {base : Nat} {spare : Nat → Bool} {held : Bool} {t e : TypeId} {a : Option Addr} {len cap : Nat} {d : DataW H} {ps : List MemPlace} {ts : List TypeId} {ds : List (DataW H)} {j : Nat}
    (hsz : (DataW.weightsEach P ts ds).all (· ≤ reachBytes) = true) (ht : ts[j]? = some t) (hd : ds[j]? = some d) (hu : P.underlying t = some (.slice e)) {B : Nat} (hB : P.bytesOf e = B)
    (h : DataW.Trod enc P W base spare held t (.slice a len cap) d ps) : len * B ≤ 140737488351232 := by
  obtain ⟨fuel, hf⟩ := h
  rcases open_slice hu hf with ⟨hcs, _⟩ | ⟨x, l, c, m, n, D, Pl, hcs, _, hl, _, hm, hx, _⟩
  · simp [Value.cells] at hcs
    obtain ⟨rfl, rfl, rfl⟩ := hcs
    simp
  · simp [Value.cells] at hcs
    obtain ⟨rfl, rfl, rfl⟩ := hcs
    obtain ⟨hx, _⟩ := Prod.mk.inj hx
    subst hx
    have z := sized_slice hsz ht hd hu
    rw [hB] at z
    have h1 : len ≤ ((List.range len).map D).length + ((List.range (m - len)).map fun j => D (len + j)).length := by simp
    exact Nat.le_trans (Nat.mul_le_mul_right _ h1) z
end Go.Proofs.Ytlcnckbmolefpaa.P
end
section
namespace Go.Proofs.Ytlcnckbmolefpaa.P
open Go.RowKit Go.Proofs.YtlcnckbmolefpaaW.PrintWords Go.Proofs.YtlcnckbmolefpaaW.PrintLast Go.Proofs.YtlcnckbmolefpaaW.PrintMore
set_option linter.unusedVariables false
set_option linter.unusedSimpArgs false
theorem opens_i64 {P : Program} {t : TypeId} (hu : P.underlying t = some (.int .i64)) : Opens P t (Kd.int .i64) (fun n => -9223372036854775808 ≤ n ∧ n ≤ 9223372036854775807) := (Opens.int hu).imp fun _ h => bounds_i64 h
def wfE (x : S127) : Prop := (-9223372036854775808 ≤ x.f0 ∧ x.f0 ≤ 9223372036854775807) ∧ (-9223372036854775808 ≤ x.f1 ∧ x.f1 ≤ 9223372036854775807) ∧ (-9223372036854775808 ≤ x.f2 ∧ x.f2 ≤ 9223372036854775807)
instance : Inhabited S127 := ⟨z127⟩
theorem opens_bool {P : Program} {t : TypeId} (hu : P.underlying t = some .bool) : Opens P t Kd.bool (fun _ => True) := (Opens.bool hu).imp fun _ _ => trivial
theorem opens127 : Opens Try.prog 127 k127 wfE :=
  (Opens.iso (Opens.struct (d := Kd.pair (Kd.int .i64) (Kd.pair (Kd.int .i64) (Kd.pair (Kd.int .i64) Kd.bool))) Try.underlying127 (by kernel_rfl)
    (OpensSeg.cons rfl (by kernel_rfl) (by decide) (opens_i64 Try.underlying3) (OpensSeg.cons rfl (by kernel_rfl) (by decide) (opens_i64 Try.underlying3) (OpensSeg.cons rfl (by kernel_rfl) (by decide) (opens_i64 Try.underlying3) (OpensSeg.one rfl (by kernel_rfl) (opens_bool Try.underlying4))))))
    (fun x : S127 => (x.f0, x.f1, x.f2, x.f3)) (fun y => ⟨y.1, y.2.1, y.2.2.1, y.2.2.2⟩) (fun _ => rfl)).imp fun _ h => ⟨h.1, h.2.1, h.2.2.1⟩
theorem opens32 : Opens Try.prog 32 (Kd.slice 127 k127) (fun l => l.length ≤ maxLen ∧ ∀ y ∈ l, wfE y) := Opens.slice Try.underlying32 (by kernel_rfl) opens127
end Go.Proofs.Ytlcnckbmolefpaa.P
end
section
/- ClockBefores: what the printed functions come to answers true. No condition. -/
namespace Go.Proofs.Ytlcnckbmolefpaa.Pure
open Go.RowKit Go.Proofs.Ytlcnckbmolefpaa.P Go.Proofs.Ytlcnckbmolefpaa.CK Go.Proofs.YtlcnckbmolefpaaW.PrintWords Go.Proofs.YtlcnckbmolefpaaW.PrintLast Go.Proofs.YtlcnckbmolefpaaW.PrintMore
set_option linter.unusedVariables false
set_option linter.unusedSimpArgs false
def Wf7 (l : List S127) : Prop := ∀ x ∈ l, (-9223372036854775808 ≤ x.f0 ∧ x.f0 ≤ 9223372036854775807) ∧ -9223372036854775808 ≤ x.f2 ∧ x.f2 ≤ 9223372036854775807
theorem told9 : marchlandlaw09_told.f = some true := by decide +kernel
section
variable {l : List S127}
theorem befores_l2 (hl : l.length ≤ 1000) (hw : Wf7 l) {a b : Nat} (hab : a < b) (hb' : b < l.length) (h : Ev (fun k => marchlandlaw09_ClockBefores.l1 k l (l.map c8) (AX l l.length) (a : Int) ((b + 1 : Nat) : Int)) true) : ∀ d c : Nat, c + d = 14 → b < c → Ev (fun k => marchlandlaw09_ClockBefores.l2 k l (l.map c8) (AX l l.length) (a : Int) (b : Int) (c : Int)) true := by
  have ends : ∀ c : Nat, c ≤ 14 → (∀ k, marchlandlaw09_ClockBefores.l2 (k + 1) l (l.map c8) (AX l l.length) (a : Int) (b : Int) (c : Int) = marchlandlaw09_ClockBefores.j6 k l (l.map c8) (AX l l.length) (a : Int) (b : Int) (c : Int) false) → Ev (fun k => marchlandlaw09_ClockBefores.l2 k l (l.map c8) (AX l l.length) (a : Int) (b : Int) (c : Int)) true := fun c _ e => by
    refine Ev.s e (Ev.s (fun k => ?_) h)
    rw [marchlandlaw09_ClockBefores.j6, if_neg (by simp), w64n (by omega) (by omega)]; rfl
  intro d
  induction d with
  | zero =>
    intro c hc hbc
    refine ends c (by omega) (fun k => ?_)
    rw [marchlandlaw09_ClockBefores.l2]
    by_cases cl : (c : Int) < (l.length : Int)
    · rw [if_pos cl, decide_eq_false (by omega)]
    · rw [if_neg cl]
  | succ d ih =>
    intro c hc hbc
    by_cases cl : (c : Int) < (l.length : Int)
    · have next := ih (c + 1) (by omega) (by omega)
      obtain ⟨r1, r2⟩ := ax_at (l := l) (show a < l.length by omega) hb'
      obtain ⟨r3, r4⟩ := ax_at (l := l) hb' (show c < l.length by omega)
      refine Ev.s (G := fun k => marchlandlaw09_ClockBefores.j6 k l (l.map c8) (AX l l.length) (a : Int) (b : Int) (c : Int) true) (fun k => by rw [marchlandlaw09_ClockBefores.l2, if_pos cl, decide_eq_true (by omega)]) (Ev.s (fun k => ?_) next)
      rw [marchlandlaw09_ClockBefores.j6, if_pos rfl, if_pos (by omega), ax_len, if_pos (by omega), if_pos (by omega), r1, ar_len, if_pos (by omega), r2]
      by_cases q : hbB (G l) a b = true
      · rw [if_pos q, if_pos (by omega), if_pos (by omega), r3, ar_len, if_pos (by omega), r4]
        by_cases q2 : hbB (G l) b c = true
        · have q3 : hbB (G l) a c = true := hbB_t.2 (hb_trans (hbB_t.1 q) (hbB_t.1 q2))
          rw [if_pos q2, before_eq hl hw, decide_eq_true (show (0 : Int) ≤ (a : Int) by omega), decide_eq_true (show (a : Int) < (c : Int) by omega), decide_eq_true cl, Int.toNat_natCast, Int.toNat_natCast, q3, Option.bind_some, if_pos (by rfl), w64n (by omega) (by omega)]; rfl
        · rw [if_neg q2, w64n (by omega) (by omega)]; rfl
      · rw [if_neg q, w64n (by omega) (by omega)]; rfl
    · refine ends c (by omega) (fun k => ?_)
      rw [marchlandlaw09_ClockBefores.l2, if_neg cl]
theorem befores_l1 (hl : l.length ≤ 1000) (hw : Wf7 l) {a : Nat} (h : Ev (fun k => marchlandlaw09_ClockBefores.l0 k l (l.map c8) (AX l l.length) ((a + 1 : Nat) : Int)) true) : ∀ d b : Nat, b + d = 14 → a < b → Ev (fun k => marchlandlaw09_ClockBefores.l1 k l (l.map c8) (AX l l.length) (a : Int) (b : Int)) true := by
  have ends : ∀ b : Nat, a < b → b ≤ 14 → (∀ k, marchlandlaw09_ClockBefores.l1 (k + 1) l (l.map c8) (AX l l.length) (a : Int) (b : Int) = marchlandlaw09_ClockBefores.j4 k l (l.map c8) (AX l l.length) (a : Int) (b : Int) false) → Ev (fun k => marchlandlaw09_ClockBefores.l1 k l (l.map c8) (AX l l.length) (a : Int) (b : Int)) true := fun b _ _ e => by
    refine Ev.s e (Ev.s (fun k => ?_) h)
    rw [marchlandlaw09_ClockBefores.j4, if_neg (by simp), w64n (by omega) (by omega)]; rfl
  intro d
  induction d with
  | zero =>
    intro b hb hab
    refine ends b hab (by omega) (fun k => ?_)
    rw [marchlandlaw09_ClockBefores.l1]
    by_cases cl : (b : Int) < (l.length : Int)
    · rw [if_pos cl, decide_eq_false (by omega)]
    · rw [if_neg cl]
  | succ d ih =>
    intro b hb hab
    by_cases cl : (b : Int) < (l.length : Int)
    · have l2 := befores_l2 hl hw hab (show b < l.length by omega) (ih (b + 1) (by omega) (by omega)) d (b + 1) (by omega) (by omega)
      obtain ⟨r1, r2⟩ := ax_at (l := l) (show a < l.length by omega) (show b < l.length by omega)
      refine Ev.s (G := fun k => marchlandlaw09_ClockBefores.j4 k l (l.map c8) (AX l l.length) (a : Int) (b : Int) true) (fun k => by rw [marchlandlaw09_ClockBefores.l1, if_pos cl, decide_eq_true (by omega)]) (Ev.s (fun k => ?_) l2)
      rw [marchlandlaw09_ClockBefores.j4, if_pos rfl, before_eq hl hw, decide_eq_true (show (0 : Int) ≤ (a : Int) by omega), decide_eq_true (show (a : Int) < (b : Int) by omega), decide_eq_true cl, Int.toNat_natCast, Int.toNat_natCast, Option.bind_some, if_pos (by omega), ax_len, if_pos (by omega), if_pos (by omega), r1, ar_len, if_pos (by omega), r2, if_neg (by simp), w64n (by omega) (by omega)]; rfl
    · refine ends b hab (by omega) (fun k => ?_)
      rw [marchlandlaw09_ClockBefores.l1, if_neg cl]
theorem befores_l0 (hl : l.length ≤ 1000) (hw : Wf7 l) : ∀ d a : Nat, a + d = 14 → Ev (fun k => marchlandlaw09_ClockBefores.l0 k l (l.map c8) (AX l l.length) (a : Int)) true := by
  have ends : ∀ a : Nat, (∀ k, marchlandlaw09_ClockBefores.l0 (k + 1) l (l.map c8) (AX l l.length) (a : Int) = marchlandlaw09_ClockBefores.j2 k l (l.map c8) (AX l l.length) (a : Int) false) → Ev (fun k => marchlandlaw09_ClockBefores.l0 k l (l.map c8) (AX l l.length) (a : Int)) true := fun a e => by
    refine Ev.s e (Ev.o (fun k => ?_))
    rw [marchlandlaw09_ClockBefores.j2, if_neg (by simp)]
  intro d
  induction d with
  | zero =>
    intro a ha
    refine ends a (fun k => ?_)
    rw [marchlandlaw09_ClockBefores.l0]
    by_cases cl : (a : Int) < (l.length : Int)
    · rw [if_pos cl, decide_eq_false (by omega)]
    · rw [if_neg cl]
  | succ d ih =>
    intro a ha
    by_cases cl : (a : Int) < (l.length : Int)
    · have l1 := befores_l1 hl hw (ih (a + 1) (by omega)) d (a + 1) (by omega) (by omega)
      refine Ev.s (G := fun k => marchlandlaw09_ClockBefores.j2 k l (l.map c8) (AX l l.length) (a : Int) true) (fun k => by rw [marchlandlaw09_ClockBefores.l0, if_pos cl, decide_eq_true (by omega)]) (Ev.s (fun k => ?_) l1)
      rw [marchlandlaw09_ClockBefores.j2, if_pos rfl, w64n (by omega) (by omega)]; rfl
    · refine ends a (fun k => ?_)
      rw [marchlandlaw09_ClockBefores.l0, if_neg cl]
theorem befores_j0 (hl : l.length ≤ 1000) (hw : Wf7 l) : Ev (fun k => marchlandlaw09_ClockBefores.j0 k l (l.map c8) (AX l l.length) false) true := by
  refine Ev.s (fun k => ?_) (befores_l0 hl hw 14 0 rfl)
  rw [marchlandlaw09_ClockBefores.j0, if_neg (by simp)]; rfl
end
theorem ClockBefores_ev (l0 : List S127) (hw : Wf7 l0) (a1 a2 : Int) : Ev (fun k => marchlandlaw09_ClockBefores.f k l0 a1 a2) true := by
  have hm : mn (l0.length : Int) 50 = ((min l0.length 50 : Nat) : Int) := by unfold mn; split <;> omega
  have hlen : (l0.take (min l0.length 50)).length = min l0.length 50 := by rw [List.length_take]; omega
  have hl : (l0.take (min l0.length 50)).length ≤ 1000 := by omega
  have hw2 : Wf7 (l0.take (min l0.length 50)) := fun x hx => hw x (List.mem_of_mem_take hx)
  have e0 : ∀ k, marchlandlaw09_ClockBefores.f k l0 a1 a2 = (marchlandlaw09_To.f k (l0.take (min l0.length 50))).bind fun t203 => (marchlandref09_Ahead.f k (l0.take (min l0.length 50))).bind fun t206 => if true = true then ((clock_Before.f t203 a1 a2).bind fun t210 => (if a1 ≥ 0 then (if a2 < (((l0.take (min l0.length 50)).length : Nat) : Int) then (if a1 < a2 then (if 0 ≤ a2 then (if a2 < (t206.length : Int) then (if 0 ≤ a1 then (if a1 < ((rd_L5 t206 a2).length : Int) then (marchlandlaw09_ClockBefores.j0 k (l0.take (min l0.length 50)) t203 t206 (t210 != (rdOf false (rd_L5 t206 a2) a1))) else (none)) else (none)) else (none)) else (none)) else (marchlandlaw09_ClockBefores.j0 k (l0.take (min l0.length 50)) t203 t206 (t210 != false))) else (marchlandlaw09_ClockBefores.j0 k (l0.take (min l0.length 50)) t203 t206 (t210 != false))) else (marchlandlaw09_ClockBefores.j0 k (l0.take (min l0.length 50)) t203 t206 (t210 != false)))) else (marchlandlaw09_ClockBefores.j0 k (l0.take (min l0.length 50)) t203 t206 true) := by
    intro k
    unfold marchlandlaw09_ClockBefores.f
    rw [hm, if_pos (by omega), if_pos (by omega), Int.toNat_natCast, told9]
    rfl
  refine Ev.congr e0 ?_
  generalize hL : l0.take (min l0.length 50) = l at *
  refine Ev.bind (to9_ev hl) (Ev.bind (ahead_ev hl) ?_)
  have J := befores_j0 hl hw2
  refine Ev.congr (fun k => ?_) J
  rw [if_pos rfl, before_eq hl hw2, Option.bind_some]
  by_cases h0 : 0 ≤ a1
  · rw [if_pos (show a1 ≥ 0 from h0)]
    by_cases h2 : a2 < (l.length : Int)
    · rw [if_pos h2]
      by_cases h1 : a1 < a2
      · obtain ⟨n1, rfl⟩ : ∃ n : Nat, a1 = (n : Int) := ⟨a1.toNat, by omega⟩
        obtain ⟨n2, rfl⟩ : ∃ n : Nat, a2 = (n : Int) := ⟨a2.toNat, by omega⟩
        obtain ⟨r1, r2⟩ := ax_at (l := l) (show n1 < l.length by omega) (show n2 < l.length by omega)
        rw [if_pos h1, if_pos (by omega), ax_len, if_pos h2, if_pos h0, r1, ar_len, if_pos (by omega), r2, decide_eq_true h0, decide_eq_true h1, decide_eq_true h2, Int.toNat_natCast, Int.toNat_natCast]
        simp
      · rw [if_neg h1, decide_eq_false h1]; simp
    · rw [if_neg h2, decide_eq_false h2]; simp
  · rw [if_neg (show ¬ a1 ≥ 0 from h0), decide_eq_false h0]; simp
theorem ClockBefores (l0 : List S127) (hq : ∀ y ∈ l0, wfE y) (a1 a2 : Int) : ∃ k, marchlandlaw09_ClockBefores.f k l0 a1 a2 = some true :=
  (ClockBefores_ev l0 (fun x hx => ⟨(hq x hx).1, (hq x hx).2.2⟩) a1 a2).rounds
end Go.Proofs.Ytlcnckbmolefpaa.Pure
end
