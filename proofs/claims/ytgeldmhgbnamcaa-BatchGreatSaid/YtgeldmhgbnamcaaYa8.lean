/- Walks and laws of several statements of this seat, joined into one text; no condition. -/
import Derived.Test.YtgeldmhgbnamcaaProg
import Derived.Below
import Derived.Deep.Draws
import Derived.Deep.AppendLies
import Derived.Maps.AppendAt
import Derived.OwnWalk
import Derived.Laws.BytesArg
import Derived.Laws.MakeOwn
import Derived.Laws.OwnMore
import Derived.Deep.OwnRows
import Derived.Tactics
import Derived.Lib.ConvBytes
import Derived.Laws.Slices
import Derived.WalkKit
import Derived.KernelRfl
import Derived.RowKit3
import Derived.Deep.LoopGhost
import Derived.Deep.QuietTactic
import Derived.BigQuiet
import Derived.WideLaws
import Derived.Deep.DeepCutAuto
import Derived.Deep.CutBlock
import Derived.Deep.RegionHeld3
import Derived.Laws.Rows
import Derived.Lib.AppendStr
import Derived.ArgAppend
import Derived.Laws.IdiomCopy
import Derived.OrdersHeld
import Derived.Laws.BitsLemmas
import Derived.RowKit
import Derived.Laws.StructEq
import Derived.Lib.BufferMore
import Derived.Deep.Slices
import Derived.SizedLaws
import Derived.OpenShut
import Derived.IntWalk
import Derived.Outline
import Derived.Lib.SmallJoins
import Derived.LoopTactic
import Derived.Test.YtgeldmhgbnamcaaYa0
import Derived.Test.YtgeldmhgbnamcaaYa1
import Derived.Test.YtgeldmhgbnamcaaYa2
import Derived.Test.YtgeldmhgbnamcaaYa5
import Derived.Test.YtgeldmhgbnamcaaYa7
import Derived.Test.YtgeldmhgbnamcaaYa6
section
/- Plain laws of batches, third part: what Pack and Right compute. -/
namespace Go.Proofs.Ytgeldmhgbnamcaa.Pure
open Go.RowKit Go.Proofs.Ytgeldmhgbnamcaa.P Go.Proofs.YtgeldmhgbnamcaaW.PrintWords Go.Proofs.YtgeldmhgbnamcaaW.PrintLast
set_option linter.unusedVariables false
set_option linter.unusedSimpArgs false
theorem ke_comm {a b : S50} : ke a b ↔ ke b a := by unfold ke; omega
theorem summed_j2 {X acc : List S50} {i : Int} {c : S50} {r : List S50 × Int × List S50} (ha : Short acc.length)
  (h1 : wi c.f2 → Ev (fun k => batch_summed.l0 k X (acc ++ fin [c]) i) r) (h2 : ¬ wi c.f2 → r = ([], 10, X)) : Ev (fun k => batch_summed.j2 k X acc i c.f0 c.f1 c.f2) r := by
 by_cases hc : wi c.f2
 ·obtain ⟨K, h⟩ := h1 hc
  refine ⟨K + 1, fun k hk => ?_⟩
  obtain ⟨k, rfl⟩ : ∃ m, k = m + 1 := ⟨k - 1, by omega⟩
  have h := h k (by omega); dsimp only at h
  show batch_summed.j2 (k + 1) _ _ _ _ _ _ = _
  simp only [batch_summed.j2, within_eq, Option.bind_some, hc, decide_true, if_true]
  by_cases hz : c.f2 = 0
  ·rw [if_pos hz]
   simpa [fin, hz] using h
  ·rw [if_neg hz, if_pos (by omega)]
   simpa [fin, hz] using h
 ·refine ⟨1, fun k hk => ?_⟩
  obtain ⟨k, rfl⟩ : ∃ m, k = m + 1 := ⟨k - 1, by omega⟩
  show batch_summed.j2 (k + 1) _ _ _ _ _ _ = _
  simp only [batch_summed.j2, within_eq, Option.bind_some, hc, decide_false, Bool.false_eq_true, if_false, h2 hc]
theorem good_cons {c : S50} {G : List S50} : good (c :: G) = (decide (wi c.f2) && good G) := by simp [good]
theorem fin_cons {c : S50} {G : List S50} : fin (c :: G) = fin [c] ++ fin G := by simp only [fin, List.filter_cons]; split <;> simp
theorem fin_len (G : List S50) : (fin G).length ≤ G.length := List.length_filter_le _ _
def sumo (X acc G : List S50) : List S50 × Int × List S50 := if good G = true then (acc ++ fin G, 0, X) else ([], 10, X)
theorem summed_l1 : ∀ (r pre acc : List S50) (c : S50), acc.length + r.length + 1 ≤ 5864062014634 → pre.length + r.length ≤ 8000000000000000000 →
  Ev (fun k => batch_summed.l1 k (pre ++ r) acc (pre.length : Int) c.f0 c.f1 c.f2) (sumo (pre ++ r) acc (grp c r)) := by
 intro r
 induction r with
 | nil =>
  intro pre acc c ha hp
  simp only [List.length_nil] at ha hp
  refine Ev.step (f := fun k => batch_summed.j2 k (pre ++ []) acc (pre.length : Int) c.f0 c.f1 c.f2) (fun k => ?_) (summed_j2 (by unfold Short; omega) (fun hc => ?_) (fun hc => ?_))
  ·show batch_summed.l1 (k + 1) _ _ _ _ _ _ = _
   rw [batch_summed.l1, if_neg (by simp)]
  ·refine ⟨1, fun k hk => ?_⟩
   obtain ⟨k, rfl⟩ : ∃ m, k = m + 1 := ⟨k - 1, by omega⟩
   show batch_summed.l0 (k + 1) _ _ _ = _
   rw [batch_summed.l0, if_neg (by simp)]
   simp [sumo, grp, good, hc]
  ·simp [sumo, grp, good, hc]
 | cons y r ih =>
  intro pre acc c ha hp
  simp only [List.length_cons] at ha hp
  have c1 : (pre.length : Int) < ((pre ++ y :: r).length : Int) := by simp; omega
  have c2 : (0 : Int) ≤ pre.length := by omega
  have e1 : rd_T50 (pre ++ y :: r) (pre.length : Int) = y := rd5 _ _ _ rfl
  have ew : wrap64 ((pre.length : Int) + 1) = ((pre ++ [y]).length : Int) := by rw [w64s (by omega)]; simp
  have eX : pre ++ y :: r = (pre ++ [y]) ++ r := by simp
  obtain ⟨K, o⟩ := order_at y c
  by_cases hk : ke c y
  ·obtain ⟨K1, h1⟩ := ih (pre ++ [y]) acc (plus c y) (by omega) (by simp; omega)
   refine ⟨K + K1 + 1, fun k hk' => ?_⟩
   obtain ⟨k, rfl⟩ : ∃ m, k = m + 1 := ⟨k - 1, by omega⟩
   have o := o k (by omega); dsimp only at o
   have h1 := h1 k (by omega); dsimp only at h1
   show batch_summed.l1 (k + 1) _ _ _ _ _ _ = _
   rw [batch_summed.l1, if_pos c1, if_pos c2, e1, o, Option.bind_some, if_pos (ordv_zero.2 (ke_comm.1 hk)), ew]
   simp only [grp, if_pos hk, eX]
   exact h1
  ·suffices h : Ev (fun k => batch_summed.j2 k (pre ++ y :: r) acc (pre.length : Int) c.f0 c.f1 c.f2) (sumo (pre ++ y :: r) acc (c :: grp y r)) by
    obtain ⟨K1, h1⟩ := h
    refine ⟨K + K1 + 1, fun k hk' => ?_⟩
    obtain ⟨k, rfl⟩ : ∃ m, k = m + 1 := ⟨k - 1, by omega⟩
    have o := o k (by omega); dsimp only at o
    have h1 := h1 k (by omega); dsimp only at h1
    show batch_summed.l1 (k + 1) _ _ _ _ _ _ = _
    rw [batch_summed.l1, if_pos c1, if_pos c2, e1, o, Option.bind_some, if_neg (fun h => hk (ke_comm.1 (ordv_zero.1 h)))]
    simp only [grp, if_neg hk]
    exact h1
   refine summed_j2 (by unfold Short; omega) (fun hc => ?_) (fun hc => by simp [sumo, good_cons, hc])
   obtain ⟨K1, h1⟩ := ih (pre ++ [y]) (acc ++ fin [c]) y (by have := fin_len [c]; simp at this ⊢; omega) (by simp; omega)
   refine ⟨K1 + 1, fun k hk' => ?_⟩
   obtain ⟨k, rfl⟩ : ∃ m, k = m + 1 := ⟨k - 1, by omega⟩
   have h1 := h1 k (by omega); dsimp only at h1
   show batch_summed.l0 (k + 1) _ _ _ = _
   rw [batch_summed.l0, if_pos c1, if_pos c2, e1, ew, eX, h1]
   simp only [sumo, good_cons, hc, decide_true, Bool.true_and, fin_cons (c := c) (G := grp y r), List.append_assoc]
theorem summed_l0 (X : List S50) (h : Srt X) (hl : Short X.length) : Ev (fun k => batch_summed.l0 k X [] 0) (sumo X [] (tot X)) := by
 unfold Short at hl
 cases X with
 | nil =>
  refine ⟨1, fun k hk => ?_⟩
  obtain ⟨k, rfl⟩ : ∃ m, k = m + 1 := ⟨k - 1, by omega⟩
  show batch_summed.l0 (k + 1) _ _ _ = _
  rw [batch_summed.l0, if_neg (by simp)]
  rfl
 | cons c r =>
  simp only [List.length_cons] at hl
  have := summed_l1 r [c] [] c (by simp; omega) (by simp; omega)
  rw [tot_grp h]
  refine Ev.step (fun k => ?_) this
  show batch_summed.l0 (k + 1) _ _ _ = _
  have ew : wrap64 ((0 : Int) + 1) = 1 := by unfold wrap64; omega
  rw [batch_summed.l0, if_pos (by simp), if_pos (Int.le_refl 0), ew]
  rfl
/-- A list that the program's sort sorts. -/
def Sorts (l : List S50) : Prop := ∃ l' : List S50, l'.Perm l ∧ Srt l' ∧ Ev (fun k => batch_Change_74.f k l) l'
theorem summed_ev {l : List S50} (hs : Sorts l) (hl : Short l.length) : ∃ s, Ev (fun k => batch_summed.f k l) (sumo s [] (tot l)) := by
 obtain ⟨s, p, hs, h⟩ := hs
 refine ⟨s, Ev.bind h ?_⟩
 rw [← tot_perm p]
 exact summed_l0 s hs (by rw [p.length_eq]; exact hl)
/-- the sums of a list, checked -/
def sumv (l : List S50) : List S50 × Int := if good (tot l) = true then (fin (tot l), 0) else ([], 10)
theorem sorts_short {l : List S50} (h : l.length ≤ 20) : Sorts l := sort_short l h
/-! ### Right -/
end Go.Proofs.Ytgeldmhgbnamcaa.Pure
end
section
/- Plain laws of batches, fourth part: the reference's sums, Pack, Right, Same; To and From. Lists of the law are written as 'X.map v'. -/
namespace Go.Proofs.Ytgeldmhgbnamcaa.Pure
open Go.RowKit Go.Proofs.Ytgeldmhgbnamcaa.P Go.Proofs.YtgeldmhgbnamcaaW.PrintWords Go.Proofs.YtgeldmhgbnamcaaW.PrintLast
set_option linter.unusedVariables false
set_option linter.unusedSimpArgs false
deriving instance DecidableEq for S50
theorem to_l0 (X : List S50) (hl : Short X.length) : ∀ (r pre : List S50), X = pre ++ r → Ev (fun k => marchlandlaw03_To.l0 k (X.map v) pre (pre.length : Int)) X := by
 unfold Short at hl
 intro r
 induction r with
 | nil =>
  intro pre e
  refine ⟨1, fun k hk => ?_⟩
  obtain ⟨k, rfl⟩ : ∃ m, k = m + 1 := ⟨k - 1, by omega⟩
  show marchlandlaw03_To.l0 (k + 1) _ _ _ = _
  rw [marchlandlaw03_To.l0, if_neg (by subst e; simp)]
  simp [e]
 | cons x r ih =>
  intro pre e
  obtain ⟨K1, h1⟩ := ih (pre ++ [x]) (by simp [e])
  refine ⟨K1 + 1, fun k hk => ?_⟩
  obtain ⟨k, rfl⟩ : ∃ m, k = m + 1 := ⟨k - 1, by omega⟩
  have h1 := h1 k (by omega); dsimp only at h1
  have ll : X.length = pre.length + (r.length + 1) := by rw [e]; simp
  have lm : (X.map v).length = X.length := by simp
  have e1 : rd_T40 (X.map v) (pre.length : Int) = v x := by rw [e, List.map_append]; exact rd4 _ _ _ (by simp)
  have ew : wrap64 ((pre.length : Int) + 1) = ((pre ++ [x]).length : Int) := by rw [w64s (by omega)]; simp
  show marchlandlaw03_To.l0 (k + 1) _ _ _ = _
  rw [marchlandlaw03_To.l0, if_pos (by omega), if_pos (by omega), if_pos (by omega), e1, ew]
  exact h1
theorem to_ev (X : List S50) (hl : Short X.length) : Ev (fun k => marchlandlaw03_To.f k (X.map v)) X := to_l0 X hl X [] rfl
/-! ### the reference's sums -/
/-! ### the reference's Pack and Right -/
end Go.Proofs.Ytgeldmhgbnamcaa.Pure
end
section
-- Printed by the session's own turn of the print (wip/tools/print2.sh): some callees are proved by hand.
namespace Go.Proofs.Ytgeldmhgbnamcaa.P
open Go.RowKit Go.Proofs.YtgeldmhgbnamcaaW.PrintWords Go.Proofs.YtgeldmhgbnamcaaW.PrintLast Go.Proofs.YtgeldmhgbnamcaaW.PrintMore
attribute [local go_sem] max2_int min2_int max_two min_two max_three min_three max_four min_four   -- for this text's walks alone
set_option linter.unusedVariables false
set_option linter.unusedSimpArgs false
theorem eqA50 (d : Nat) (w : World) (x0 y0 : Int) (x1 y1 : Int) (x2 y2 : Int) :
  (Op.equalIn (d + 2) 50 (.agg #[.int .i64 x0, .int .u64 x1, .int .i64 x2]) (.agg #[.int .i64 y0, .int .u64 y1, .int .i64 y2])).run Try.prog w = .ok (x0 == y0 && (x1 == y1 && (x2 == y2))) w := by
 refine eqA_of Try.underlying50 (by kernel_rfl) ?_
 refine eqf_cons (by rfl) (by go_simp; rfl) (by go_simp; rfl) (by go_simp) ?_
 refine eqf_cons (by rfl) (by go_simp; rfl) (by go_simp; rfl) (by go_simp) ?_
 exact eqf_last (by rfl) (by go_simp; rfl) (by go_simp; rfl) (by go_simp)
end Go.Proofs.Ytgeldmhgbnamcaa.P
end
section
/- Plain laws of batches, fifth part: Of, Same, Fix. -/
namespace Go.Proofs.Ytgeldmhgbnamcaa.Pure
open Go.RowKit Go.Proofs.Ytgeldmhgbnamcaa.P Go.Proofs.YtgeldmhgbnamcaaW.PrintWords Go.Proofs.YtgeldmhgbnamcaaW.PrintLast
set_option linter.unusedVariables false
set_option linter.unusedSimpArgs false
/-- what a batch holds at a key -/
def ofv (X : List S50) (q : S50) : Int := match X.find? (fun y => decide (ke y q)) with
 | some y => y.f2
 | none => 0
theorem mid {i j : Nat} (h : i < j) (hj : j ≤ 4000000000000000000) : wrap64 ((IntKind.u64.wrap (wrap64 ((i : Int) + (j : Int)))) / 2) = ((i + (j - i) / 2 : Nat) : Int) := by
 have e : wrap64 ((i : Int) + (j : Int)) = ((i + j : Nat) : Int) := by unfold wrap64; omega
 have e2 : IntKind.u64.wrap ((i + j : Nat) : Int) = ((i + j : Nat) : Int) := by simp [IntKind.wrap, IntKind.bits, IntKind.signed]; omega
 rw [e, e2]; unfold wrap64; omega
theorem find_l0 (X : List S50) (q : S50) (hs : Str X) (hl : X.length ≤ 4000000000000000000) : ∀ (n : Nat) (A M C : List S50), M.length ≤ n → X = A ++ M ++ C → (∀ a ∈ A, kl a q) → (∀ c ∈ C, ¬ kl c q) →
  ∃ A' C' : List S50, X = A' ++ C' ∧ (∀ a ∈ A', kl a q) ∧ (∀ c ∈ C', ¬ kl c q) ∧ Ev (fun k => batch_Change_55.l0 k X (X.length : Int) (A.length : Int) ((A.length + M.length : Nat) : Int) q.f0 q.f1 q.f2) ((A'.length : Int), match C' with | [] => false | c :: _ => decide (ke c q)) := by
 intro n
 induction n with
 | zero =>
  intro A M C hM e hA hC
  obtain rfl : M = [] := List.eq_nil_of_length_eq_zero (by omega)
  rw [List.append_nil] at e
  refine ⟨A, C, e, hA, hC, ?_⟩
  cases C with
  | nil =>
   refine ⟨1, fun k hk => ?_⟩
   obtain ⟨k, rfl⟩ : ∃ m, k = m + 1 := ⟨k - 1, by omega⟩
   show batch_Change_55.l0 (k + 1) _ _ _ _ _ _ _ = _
   rw [batch_Change_55.l0, if_neg (by simp), if_neg (by rw [e]; simp)]
  | cons c C =>
   obtain ⟨K, o⟩ := order_at c q
   refine ⟨K + 1, fun k hk => ?_⟩
   obtain ⟨k, rfl⟩ : ∃ m, k = m + 1 := ⟨k - 1, by omega⟩
   have o := o k (by omega); dsimp only at o
   have ll : X.length = A.length + (C.length + 1) := by rw [e]; simp
   have e1 : rd_T50 X (A.length : Int) = c := by rw [e]; exact rd5 _ _ _ rfl
   show batch_Change_55.l0 (k + 1) _ _ _ _ _ _ _ = _
   rw [batch_Change_55.l0, if_neg (by simp), if_pos (by omega), if_pos (by omega), if_pos (by omega), e1, o, Option.bind_some]
   by_cases hk : ke c q
   ·have : ordv c q = 0 := ordv_zero.2 hk
    simp [this, hk]
   ·have : ¬ ordv c q = 0 := fun h => hk (ordv_zero.1 h)
    simp [this, hk]
 | succ n ih =>
  intro A M C hM e hA hC
  by_cases hm : M.length ≤ n
  ·exact ih A M C hm e hA hC
  have hp : M.length / 2 < M.length := by omega
  have ed : M = M.take (M.length / 2) ++ M[M.length / 2] :: M.drop (M.length / 2 + 1) := by rw [List.getElem_cons_drop]; simp
  have l1 : (M.take (M.length / 2)).length = M.length / 2 := by simp; omega
  generalize M.take (M.length / 2) = M1 at *
  generalize M[M.length / 2] = m at *
  generalize M.drop (M.length / 2 + 1) = M2 at *
  have lM : M.length = M1.length + (M2.length + 1) := by rw [ed]; simp
  have ll : X.length = A.length + M.length + C.length := by rw [e]; simp only [List.length_append]
  have hmid := mid (i := A.length) (j := A.length + M.length) (by omega) (by omega)
  have ehm : A.length + (A.length + M.length - A.length) / 2 = A.length + M1.length := by omega
  rw [ehm] at hmid
  have eX : X = (A ++ M1) ++ m :: (M2 ++ C) := by rw [e, ed]; simp
  have e1 : rd_T50 X ((A.length + M1.length : Nat) : Int) = m := by rw [eX]; exact rd5 _ _ _ (by simp)
  obtain ⟨K, o⟩ := order_at m q
  have hs' : Str ((A ++ M1) ++ m :: (M2 ++ C)) := eX ▸ hs
  obtain ⟨p1, p2, p3⟩ := List.pairwise_append.1 hs'
  by_cases hk : kl m q
  ·obtain ⟨A', C', x1, x2, x3, K1, h1⟩ := ih (A ++ M1 ++ [m]) M2 C (by omega) (by rw [eX]; simp)
    (fun a ha => by
     rcases List.mem_append.1 ha with h | h
     ·exact kl_trans (p3 a h m (by simp)) hk
     ·simp at h; subst h; exact hk) hC
   refine ⟨A', C', x1, x2, x3, K + K1 + 1, fun k hk' => ?_⟩
   obtain ⟨k, rfl⟩ : ∃ m, k = m + 1 := ⟨k - 1, by omega⟩
   have o := o k (by omega); dsimp only at o
   have h1 := h1 k (by omega); dsimp only at h1
   have ea : wrap64 (((A.length + M1.length : Nat) : Int) + 1) = ((A ++ M1 ++ [m]).length : Int) := by rw [w64s (by omega)]; simp only [List.length_append, List.length_singleton]
   have eb : (((A ++ M1 ++ [m]).length + M2.length : Nat) : Int) = ((A.length + M.length : Nat) : Int) := by simp; omega
   show batch_Change_55.l0 (k + 1) _ _ _ _ _ _ _ = _
   rw [batch_Change_55.l0, if_pos (by omega), hmid, if_pos (by omega), if_pos (by omega), e1, o, Option.bind_some, if_pos (ordv_neg.2 hk), ea, ← eb]
   exact h1
  ·obtain ⟨A', C', x1, x2, x3, K1, h1⟩ := ih A M1 (m :: (M2 ++ C)) (by omega) (by rw [eX]) hA
    (fun c hc => by
     rcases List.mem_cons.1 hc with rfl | h
     ·exact hk
     ·have := (List.pairwise_cons.1 p2).1 c h; intro hk2; exact hk (kl_trans this hk2))
   refine ⟨A', C', x1, x2, x3, K + K1 + 1, fun k hk' => ?_⟩
   obtain ⟨k, rfl⟩ : ∃ m, k = m + 1 := ⟨k - 1, by omega⟩
   have o := o k (by omega); dsimp only at o
   have h1 := h1 k (by omega); dsimp only at h1
   show batch_Change_55.l0 (k + 1) _ _ _ _ _ _ _ = _
   rw [batch_Change_55.l0, if_pos (by omega), hmid, if_pos (by omega), if_pos (by omega), e1, o, Option.bind_some, if_neg (fun h => hk (ordv_neg.1 h))]
   exact h1
theorem of_ev (X : List S50) (hs : Str X) (hl : X.length ≤ 4000000000000000000) (a b : Int) : Ev (fun k => batch_Of.f k X a b) (ofv X ⟨a, b, 0⟩) := by
 obtain ⟨A, C, e, hA, hC, K, h⟩ := find_l0 X ⟨a, b, 0⟩ hs hl X.length [] X [] (Nat.le_refl _) (by simp) (fun _ h => by cases h) (fun _ h => by cases h)
 have nA : ∀ y ∈ A, ¬ ke y ⟨a, b, 0⟩ := fun y hy h => by have := hA y hy; unfold kl ke at *; omega
 have fA : A.find? (fun y => decide (ke y ⟨a, b, 0⟩)) = none := List.find?_eq_none.2 (fun y hy => by simpa using nA y hy)
 refine ⟨K, fun k hk => ?_⟩
 have h := h k hk
 simp only [List.length_nil, Nat.zero_add] at h
 have h : batch_Change_55.l0 k X (X.length : Int) 0 (X.length : Int) a b 0 = _ := h
 show batch_Of.f k X a b = _
 rw [batch_Of.f, batch_Change_55.f, h, Option.bind_some]
 cases C with
 | nil =>
  have : ofv X ⟨a, b, 0⟩ = 0 := by unfold ofv; rw [e, List.find?_append, fA]; rfl
  simp [this]
 | cons c C =>
  have ll : X.length = A.length + (C.length + 1) := by rw [e]; simp
  have e1 : rd_T50 X (A.length : Int) = c := by rw [e]; exact rd5 _ _ _ rfl
  by_cases hk : ke c ⟨a, b, 0⟩
  ·have : ofv X ⟨a, b, 0⟩ = c.f2 := by unfold ofv; rw [e, List.find?_append, fA]; simp [hk]
   dsimp only
   rw [if_pos (decide_eq_true hk), if_pos (by omega), if_pos (by omega), e1, this]
  ·have : ofv X ⟨a, b, 0⟩ = 0 := by
    have fC : (c :: C).find? (fun y => decide (ke y ⟨a, b, 0⟩)) = none := List.find?_eq_none.2 (fun y hy => by
     have hs' : Str (A ++ c :: C) := e ▸ hs
     have p2 := (List.pairwise_append.1 hs').2.1
     rcases List.mem_cons.1 hy with rfl | hy
     ·simpa using hk
     ·have a1 := (List.pairwise_cons.1 p2).1 y hy
      have a2 := hC c (by simp)
      have : ¬ ke y ⟨a, b, 0⟩ := by unfold kl ke at *; omega
      simpa using this)
    unfold ofv; rw [e, List.find?_append, fA, fC]; rfl
   dsimp only
   rw [if_neg (fun h => hk (of_decide_eq_true h)), this]
/-! ### Fix -/
end Go.Proofs.Ytgeldmhgbnamcaa.Pure
end
section
/- Plain laws of batches, sixth part: what is packed is right; the told cases. -/
namespace Go.Proofs.Ytgeldmhgbnamcaa.Pure
open Go.RowKit Go.Proofs.Ytgeldmhgbnamcaa.P Go.Proofs.YtgeldmhgbnamcaaW.PrintWords Go.Proofs.YtgeldmhgbnamcaaW.PrintLast
set_option linter.unusedVariables false
set_option linter.unusedSimpArgs false
theorem told3 : Ev (fun k => marchlandlaw03_told.f k) true := Ev.of (fun k => marchlandlaw03_told.mono k) (k := 40) (by kernel_rfl)
end Go.Proofs.Ytgeldmhgbnamcaa.Pure
end
section
namespace Go.Proofs.Ytgeldmhgbnamcaa.P
open Go.RowKit Go.Proofs.YtgeldmhgbnamcaaW.PrintWords Go.Proofs.YtgeldmhgbnamcaaW.PrintLast Go.Proofs.YtgeldmhgbnamcaaW.PrintMore
set_option linter.unusedVariables false
set_option linter.unusedSimpArgs false
/-- The first place at which p holds, or -1. -/
def idxOf {α : Type} (p : α → Bool) (l : List α) : Int := match l.findIdx? p with | some i => (i : Int) | none => -1
theorem idxOf_any {α : Type} (p : α → Bool) (l : List α) : decide (idxOf p l ≥ 0) = l.any p := by
 unfold idxOf
 cases h : l.findIdx? p with
 | none =>
  have h1 := List.findIdx?_eq_none_iff.1 h
  have : l.any p = false := by
   rw [List.any_eq_false]
   intro x hx
   simpa using h1 x hx
  rw [this]
  decide
 | some i =>
  obtain ⟨hi, h1⟩ := List.findIdx?_eq_some_iff_getElem.1 h
  have h2 : l.any p = true := List.any_eq_true.2 ⟨l[i], List.getElem_mem _, h1.1⟩
  rw [h2]
  show decide ((i : Int) ≥ 0) = true
  exact decide_eq_true (by omega)
theorem idxOf_at {α : Type} (p : α → Bool) (l : List α) (d : α) (i : Nat) (hi : i < l.length) (h : p (l.getD i d) = true) (hb : ∀ j, j < i → p (l.getD j d) = false) : idxOf p l = (i : Int) := by
 unfold idxOf
 have : l.findIdx? p = some i := by
  rw [List.findIdx?_eq_some_iff_getElem]
  refine ⟨hi, ⟨by simpa [List.getD, hi] using h, fun j hj => ?_⟩⟩
  have := hb j hj
  simp [List.getD, show j < l.length by omega] at this
  simp [this]
 rw [this]
theorem idxOf_no {α : Type} (p : α → Bool) (l : List α) (d : α) (hb : ∀ j, j < l.length → p (l.getD j d) = false) : idxOf p l = -1 := by
 unfold idxOf
 have : l.findIdx? p = none := by
  rw [List.findIdx?_eq_none_iff]
  intro x hx
  obtain ⟨j, hj, rfl⟩ := List.getElem_of_mem hx
  have := hb j hj
  simpa [List.getD, hj] using this
 rw [this]
set_option maxHeartbeats 1000000 in
set_option maxRecDepth 100000 in
theorem indexFunc_calls (g : FuncId) (lb : Array Value) (p : S50 → Bool) (he : ∀ (args : Array Value) (w : World), (callFunc g args).run Try.prog w = .ok (.enter g args) w) (A0 : Option Addr) (c0 : Nat) (l0 : List S50) (w : World) (hr0 : Kd.C k50 w A0 l0.length l0)
  (hp : ∀ W : World, Below w.heap.size w W → ∀ x : S50, x ∈ l0 → Calls Try.prog g (#[.agg #[.int .i64 x.f0, .int .u64 x.f1, .int .i64 x.f2]] ++ lb) W fun e w' => e = .returned (.bool (p x)) ∧ Below W.heap.size W w') :
  Calls Try.prog 79 #[.slice A0 l0.length c0, .func (.func g) #[] lb] w fun e w' => e = .returned (.int .i64 (idxOf p l0)) ∧ Below w.heap.size w w' := by
 have HR := Aside0.mk hr0
 have HP := Aside0.mk hp
 have hm := hr0.2.1
 clear hr0 hp
 go_enter Try.func79, Try.ntmps79
 go_wp2
 go_loopw [8] (fun v8 wr => ∃ i : Int, v8 = .int .i64 i ∧ Aside0 (0 ≤ i ∧ i ≤ l0.length ∧ ∀ j : Nat, (j : Int) < i → p (l0.getD j z50) = false) ∧ Aside0 (Below w.heap.size w wr)) (fun v8 _ => l0.length - (intOf v8).toNat)
 case atStart => exact ⟨0, rfl, ⟨by omega, by omega, fun j hj => by omega⟩, ⟨Below.refl _ _⟩⟩
 case round =>
  obtain ⟨i, rfl, HI, HB⟩ := hrel
  have h0 := HI.out.1
  have h1 := HI.out.2.1
  by_cases hlt : i < (l0.length : Int)
  ·obtain ⟨ad, rfl, hx0, hx1, hx2⟩ := at_T50 (Kd.C_below HR.out HB.out) i h0 hlt
   have hmem : (rd_T50 l0 i) ∈ l0 := by
    unfold rd_T50
    rw [List.getD_eq_getElem?_getD, List.getElem?_eq_getElem (by omega)]
    exact List.getElem_mem _
   have HC := Aside0.mk (HP.out wr HB.out (rd_T50 l0 i) hmem)
   clear hmem
   cases hpx : p (rd_T50 l0 i) with
   | true =>
    have HX := Aside0.mk hpx
    rw [hpx] at HC
    clear hpx
    go_wp2_with (first | ((with_reducible refine HC.out.mono ?_); rintro e w3 ⟨rfl, hb⟩; have HB3 := Aside0.mk (below_step HB.out hb); clear hb))
    go_ret
    have e1 : idxOf p l0 = i := by rw [idxOf_at p l0 z50 i.toNat (by omega) HX.out (fun j hj => HI.out.2.2 j (by omega))]; exact Int.toNat_of_nonneg h0
    exact ⟨by rw [e1]; rfl, HB3.out⟩
   | false =>
    have HX := Aside0.mk hpx
    rw [hpx] at HC
    clear hpx
    go_wp2_with (first | ((with_reducible refine HC.out.mono ?_); rintro e w3 ⟨rfl, hb⟩; have HB3 := Aside0.mk (below_step HB.out hb); clear hb))
    go_roundw
    case rel =>
     refine ⟨i + 1, by go_num, ⟨by omega, by omega, fun j hj => ?_⟩, ⟨HB3.out⟩⟩
     by_cases hj2 : (j : Int) < i
     ·exact HI.out.2.2 j hj2
     ·obtain rfl : j = i.toNat := by omega
      exact HX.out
    case measure => simp [intOf]; omega
  ·go_wp2
   go_ret
   exact ⟨by rw [idxOf_no p l0 z50 (fun j hj => HI.out.2.2 j (by omega))]; rfl, HB.out⟩
set_option maxHeartbeats 400000 in
theorem containsFunc_calls (g : FuncId) (lb : Array Value) (p : S50 → Bool) (he : ∀ (args : Array Value) (w : World), (callFunc g args).run Try.prog w = .ok (.enter g args) w) (A0 : Option Addr) (c0 : Nat) (l0 : List S50) (w : World) (hr0 : Kd.C k50 w A0 l0.length l0)
  (hp : ∀ W : World, Below w.heap.size w W → ∀ x : S50, x ∈ l0 → Calls Try.prog g (#[.agg #[.int .i64 x.f0, .int .u64 x.f1, .int .i64 x.f2]] ++ lb) W fun e w' => e = .returned (.bool (p x)) ∧ Below W.heap.size W w') :
  Calls Try.prog 59 #[.slice A0 l0.length c0, .func (.func g) #[] lb] w fun e w' => e = .returned (.bool (l0.any p)) ∧ Below w.heap.size w w' := by
 have HC := Aside0.mk (indexFunc_calls g lb p he A0 c0 l0 w hr0 hp)
 clear hr0 hp he
 have HA := Aside0.mk (idxOf_any p l0)
 generalize hq : idxOf p l0 = q at HC HA
 clear hq
 go_enter Try.func59, Try.ntmps59
 go_wp2_with (first | (go_at_call 79; refine HC.out.mono ?_; rintro e w3 ⟨rfl, hb⟩; have HB3 := Aside0.mk hb; clear hb))
 go_ret
 exact ⟨by rw [← HA.out]; rfl, HB3.out⟩
def slices_ContainsNone.f (l0 : List S50) : Option Bool := some (l0.any fun x => decide (x.f2 ≤ 0))
set_option maxHeartbeats 400000 in
theorem none_calls (x : S50) (W : World) : Calls Try.prog 61 (#[.agg #[.int .i64 x.f0, .int .u64 x.f1, .int .i64 x.f2]] ++ #[]) W fun e w' => e = .returned (.bool (decide (x.f2 ≤ 0))) ∧ Below W.heap.size W w' := by
 show Calls Try.prog 61 #[.agg #[.int .i64 x.f0, .int .u64 x.f1, .int .i64 x.f2]] W _
 go_enter Try.func61, Try.ntmps61
 go_wp2
 go_ret
 exact ⟨rfl, (Below.refl _ _).alloc (Nat.le_refl _) _⟩
theorem slices_ContainsNone.calls (A0 : Option Addr) (c0 : Nat) (l0 : List S50) (r : Bool) (w : World) (hr0 : Kd.C k50 w A0 l0.length l0) (hc0 : l0.length ≤ c0) (h : slices_ContainsNone.f l0 = some r) :
  Calls Try.prog 59 #[.slice A0 l0.length c0, .func (.func 61) #[] #[]] w fun e w' => e = .returned (.bool r) ∧ Below w.heap.size w w' := by
 obtain rfl := Option.some.inj h
 exact containsFunc_calls 61 #[] _ (fun args w => enters_ Try.func61 (by kernel_rfl) rfl args w) A0 c0 l0 w hr0 (fun W _ x _ => none_calls x W)
end Go.Proofs.Ytgeldmhgbnamcaa.P
end
section
namespace Go.Proofs.Ytgeldmhgbnamcaa.P
open Go.RowKit Go.Proofs.YtgeldmhgbnamcaaW.PrintWords Go.Proofs.YtgeldmhgbnamcaaW.PrintLast Go.Proofs.YtgeldmhgbnamcaaW.PrintMore
set_option linter.unusedVariables false
set_option linter.unusedSimpArgs false
theorem heap50 : Kd.Heap k50 := Kd.heap_iso _ (Kd.heap_pair (Kd.heap_int .i64) (Kd.heap_pair (Kd.heap_int .u64) (Kd.heap_int .i64)))
def bag_below (k : Nat) (l0 : List S50) (x : S50) : Option Bool := (batch_Of.f k l0 x.f0 x.f1).bind fun t => some (decide (wrap64 (t + x.f2) < 0))
theorem bag_below.mono (l0 : List S50) (x : S50) (k : Nat) : LeO (bag_below k l0 x) (bag_below (k + 1) l0 x) := by
 unfold bag_below
 exact LeO.bind (batch_Of.mono _ _ _ k) (fun _ => LeO.refl _)
theorem below_next {W w1 w' : World} {g : Nat} {u v0 v1 v2 : Value} (hgl : g < W.heap.size) (hS : w1.cell? ⟨g, 0, none⟩ = some u ∧ w1.cell? ⟨W.heap.size, 0, none⟩ = some v0 ∧ w1.cell? ⟨W.heap.size, 1, none⟩ = some v1 ∧ w1.cell? ⟨W.heap.size, 2, none⟩ = some v2 ∧ Below W.heap.size W w1 ∧ W.heap.size < w1.heap.size) (hb : Below w1.heap.size w1 w') :
  w'.cell? ⟨g, 0, none⟩ = some u ∧ w'.cell? ⟨W.heap.size, 0, none⟩ = some v0 ∧ w'.cell? ⟨W.heap.size, 1, none⟩ = some v1 ∧ w'.cell? ⟨W.heap.size, 2, none⟩ = some v2 ∧ Below W.heap.size W w' ∧ W.heap.size < w'.heap.size := by
 obtain ⟨hg, h0, h1, h2, hB, hs⟩ := hS
 exact ⟨(hb.cell (p := ⟨g, 0, none⟩) (Nat.lt_trans hgl hs)).trans hg, (hb.cell (p := ⟨W.heap.size, 0, none⟩) hs).trans h0, (hb.cell (p := ⟨W.heap.size, 1, none⟩) hs).trans h1, (hb.cell (p := ⟨W.heap.size, 2, none⟩) hs).trans h2, below_step hB hb, Nat.lt_of_lt_of_le hs hb.size⟩
theorem below_last {W w1 : World} {g : Nat} {u v0 v1 v2 : Value} (hS : w1.cell? ⟨g, 0, none⟩ = some u ∧ w1.cell? ⟨W.heap.size, 0, none⟩ = some v0 ∧ w1.cell? ⟨W.heap.size, 1, none⟩ = some v1 ∧ w1.cell? ⟨W.heap.size, 2, none⟩ = some v2 ∧ Below W.heap.size W w1 ∧ W.heap.size < w1.heap.size) : Below W.heap.size W w1 := hS.2.2.2.2.1
theorem below_reads {W w1 : World} {g : Nat} {u v0 v1 v2 : Value} {A0 : Option Addr} {n : Nat} {l0 : List S50} (hr : Kd.C k50 W A0 n l0) (hS : w1.cell? ⟨g, 0, none⟩ = some u ∧ w1.cell? ⟨W.heap.size, 0, none⟩ = some v0 ∧ w1.cell? ⟨W.heap.size, 1, none⟩ = some v1 ∧ w1.cell? ⟨W.heap.size, 2, none⟩ = some v2 ∧ Below W.heap.size W w1 ∧ W.heap.size < w1.heap.size) : Kd.C k50 w1 A0 n l0 := Kd.C_below hr hS.2.2.2.2.1
set_option maxHeartbeats 1000000 in
set_option maxRecDepth 100000 in
theorem below_calls (k : Nat) (x : S50) (g : Nat) (A0 : Option Addr) (c0 : Nat) (l0 : List S50) (t : Int) (W : World) (hg : W.cell? ⟨g, 0, none⟩ = some (.slice A0 l0.length c0)) (hr : Kd.C k50 W A0 l0.length l0) (hc : l0.length ≤ c0) (ht : batch_Of.f k l0 x.f0 x.f1 = some t) :
  Calls Try.prog 58 (#[.agg #[.int .i64 x.f0, .int .u64 x.f1, .int .i64 x.f2]] ++ #[.pointer (some ⟨g, 0, none⟩)]) W fun e w' => e = .returned (.bool (decide (wrap64 (t + x.f2) < 0))) ∧ Below W.heap.size W w' := by
 show Calls Try.prog 58 #[.agg #[.int .i64 x.f0, .int .u64 x.f1, .int .i64 x.f2], .pointer (some ⟨g, 0, none⟩)] W _
 have hgl := World.block_lt_of_cell? W _ hg
 have HR := Aside0.mk hr
 have HC := Aside0.mk hc
 have HT := Aside0.mk ht
 have HG := Aside0.mk hg
 have HL := Aside0.mk hgl
 clear hr hc ht hg hgl
 go_enter Try.func58, Try.ntmps58
 go_wp2_with fail
 have s0 : Below W.heap.size W (W.alloc (.cells #[.int .i64 x.f0, .int .u64 x.f1, .int .i64 x.f2] 50)) := (Below.refl _ _).alloc (Nat.le_refl _) _
 have s1 : (W.alloc (.cells #[.int .i64 x.f0, .int .u64 x.f1, .int .i64 x.f2] 50)).cell? ⟨W.heap.size, 0, none⟩ = some (.int .i64 x.f0) := by simp [go_sem]
 have s2 : (W.alloc (.cells #[.int .i64 x.f0, .int .u64 x.f1, .int .i64 x.f2] 50)).cell? ⟨W.heap.size, 1, none⟩ = some (.int .u64 x.f1) := by simp [go_sem]
 have s3 : (W.alloc (.cells #[.int .i64 x.f0, .int .u64 x.f1, .int .i64 x.f2] 50)).cell? ⟨W.heap.size, 2, none⟩ = some (.int .i64 x.f2) := by simp [go_sem]
 have s4 : (W.alloc (.cells #[.int .i64 x.f0, .int .u64 x.f1, .int .i64 x.f2] 50)).cell? ⟨g, 0, none⟩ = some (.slice A0 l0.length c0) := (s0.cell (p := ⟨g, 0, none⟩) HL.out).trans HG.out
 have s5 : W.heap.size < (W.alloc (.cells #[.int .i64 x.f0, .int .u64 x.f1, .int .i64 x.f2] 50)).heap.size := by simp
 generalize W.alloc (.cells #[.int .i64 x.f0, .int .u64 x.f1, .int .i64 x.f2] 50) = W1 at *
 go_region_held3 (fun w' => w'.cell? ⟨g, 0, none⟩ = some (.slice A0 l0.length c0) ∧ w'.cell? ⟨W.heap.size, 0, none⟩ = some (.int .i64 x.f0) ∧ w'.cell? ⟨W.heap.size, 1, none⟩ = some (.int .u64 x.f1) ∧ w'.cell? ⟨W.heap.size, 2, none⟩ = some (.int .i64 x.f2) ∧ Below W.heap.size W w' ∧ W.heap.size < w'.heap.size)
  (first | exact ⟨s4, s1, s2, s3, below_drew s0, s5⟩ | exact hN)
  (first | (go_at_call 23; refine (batch_Of.calls k A0 c0 l0 x.f0 x.f1 t _ ?_ HC.out HT.out).mono ?_; (exact below_reads (g := g) HR.out (by assumption)); rintro e w' ⟨rfl, hb⟩; have hN := below_next HL.out (by assumption) hb; clear hb))
 go_wp2
 go_ret
 exact ⟨by rw [← i64_w]; rfl, below_last (g := g) (by assumption)⟩
end Go.Proofs.Ytgeldmhgbnamcaa.P
end
section
namespace Go.Proofs.Ytgeldmhgbnamcaa.P
open Go.RowKit Go.Proofs.YtgeldmhgbnamcaaW.PrintWords Go.Proofs.YtgeldmhgbnamcaaW.PrintLast Go.Proofs.YtgeldmhgbnamcaaW.PrintMore
set_option linter.unusedVariables false
set_option linter.unusedSimpArgs false
def bag_Apply.f (k : Nat) (l0 l1 : List S50) : Option (List S50 × Int) :=
 if l1.all (fun x => (bag_below k l0 x).isSome) = true then (if l1.any (fun x => bag_below k l0 x == some true) = true then some ([], 11) else batch_Merge.f k l0 l1) else none
theorem bag_Apply.mono : ∀ a0 a1 k, LeO (bag_Apply.f k a0 a1) (bag_Apply.f (k + 1) a0 a1) := by
 intro l0 l1 k r h
 unfold bag_Apply.f at h ⊢
 by_cases h1 : l1.all (fun x => (bag_below k l0 x).isSome) = true
 ·rw [if_pos h1] at h
  have hb : ∀ x, x ∈ l1 → bag_below (k + 1) l0 x = bag_below k l0 x := fun x hx => by
   have h2 := List.all_eq_true.1 h1 x hx
   obtain ⟨b, hb⟩ := Option.isSome_iff_exists.1 h2
   rw [hb]; exact bag_below.mono l0 x k b hb
  have h3 : l1.all (fun x => (bag_below (k + 1) l0 x).isSome) = true := List.all_eq_true.2 fun x hx => by rw [hb x hx]; exact List.all_eq_true.1 h1 x hx
  have h4 : l1.any (fun x => bag_below (k + 1) l0 x == some true) = l1.any (fun x => bag_below k l0 x == some true) := by
   rw [Bool.eq_iff_iff, List.any_eq_true, List.any_eq_true]
   exact ⟨fun ⟨x, hx, h⟩ => ⟨x, hx, by rw [hb x hx] at h; exact h⟩, fun ⟨x, hx, h⟩ => ⟨x, hx, by rw [hb x hx]; exact h⟩⟩
  rw [if_pos h3, h4]
  by_cases h5 : l1.any (fun x => bag_below k l0 x == some true) = true
  ·rw [if_pos h5] at h ⊢; exact h
  ·rw [if_neg h5] at h ⊢; exact batch_Merge.mono _ _ _ _ h
 ·rw [if_neg h1] at h; cases h
set_option maxHeartbeats 1000000 in
set_option maxRecDepth 100000 in
theorem bag_Apply.calls (k : Nat) (A0 : Option Addr) (c0 : Nat) (l0 : List S50) (A1 : Option Addr) (c1 : Nat) (l1 : List S50) (r1 : List S50) (r2 : Int) (w : World) (hr0 : Kd.C k50 w A0 l0.length l0) (hc0 : l0.length ≤ c0) (hr1 : Kd.C k50 w A1 l1.length l1) (hc1 : l1.length ≤ c1) (h : bag_Apply.f k l0 l1 = some (r1, r2)) :
  Calls Try.prog 27 #[.slice A0 l0.length c0, .slice A1 l1.length c1] w fun e w' => ∃ v0_ : Value, e = .returned (.tuple #[v0_, .int .i64 r2]) ∧ Kd.R k50 50 w' w.heap.size (fun _ => True) v0_ r1 ∧ Below w.heap.size w w' := by
 unfold bag_Apply.f at h
 by_cases hall : l1.all (fun x => (bag_below k l0 x).isSome) = true
 ·rw [if_pos hall] at h
  have hs : ∀ x, x ∈ l1 → ∃ t, batch_Of.f k l0 x.f0 x.f1 = some t ∧ (bag_below k l0 x == some true) = decide (wrap64 (t + x.f2) < 0) := fun x hx => by
   have h2 := List.all_eq_true.1 hall x hx
   unfold bag_below at h2 ⊢
   cases ht : batch_Of.f k l0 x.f0 x.f1 with
   | none => rw [ht] at h2; simp at h2
   | some t => exact ⟨t, rfl, by simp⟩
  clear hall
  have hB0 : Below w.heap.size w (w.alloc (.cells #[.slice A0 l0.length c0] 25)) := (Below.refl _ _).alloc (Nat.le_refl _) _
  have hg0 : (w.alloc (.cells #[.slice A0 l0.length c0] 25)).cell? ⟨w.heap.size, 0, none⟩ = some (.slice A0 l0.length c0) := by simp [go_sem]
  have hlt0 : w.heap.size < (w.alloc (.cells #[.slice A0 l0.length c0] 25)).heap.size := by simp
  have hcf := containsFunc_calls 58 #[.pointer (some ⟨w.heap.size, 0, none⟩)] (fun x => bag_below k l0 x == some true) (fun args w => enters_ Try.func58 (by kernel_rfl) rfl args w) A1 c1 l1 (w.alloc (.cells #[.slice A0 l0.length c0] 25)) (Kd.C_below hr1 hB0)
   (fun W hW x hx => by
    obtain ⟨t, ht, hd⟩ := hs x hx
    refine (below_calls k x w.heap.size A0 c0 l0 t W ((hW.cell (p := ⟨w.heap.size, 0, none⟩) hlt0).trans hg0) (Kd.C_below (Kd.C_below hr0 hB0) hW) hc0 ht).mono ?_
    rintro e w' ⟨he, hb⟩
    exact ⟨by rw [he, hd], hb⟩)
  generalize hany : l1.any (fun x => bag_below k l0 x == some true) = q at h hcf
  have HCF := Aside0.mk hcf
  have HR0 := Aside0.mk hr0
  have HR1 := Aside0.mk hr1
  have HC0 := Aside0.mk hc0
  have HC1 := Aside0.mk hc1
  have HB0 := Aside0.mk hB0
  have HG0 := Aside0.mk hg0
  have HLT0 := Aside0.mk hlt0
  clear hcf hr0 hr1 hc0 hc1 hB0 hg0 hlt0 hany hs
  cases q with
  | true =>
   rw [if_pos rfl] at h
   obtain ⟨rfl, rfl⟩ := Prod.mk.inj (Option.some.inj h)
   clear h
   go_enter Try.func27, Try.ntmps27
   go_wp2_with (first | (go_at_call 59; refine HCF.out.mono ?_; rintro e w3 ⟨rfl, hb⟩; have HB3 := Aside0.mk (below_step HB0.out hb); clear hb))
   go_ret2
   exact ⟨_, rfl, Kd.R_nil _ _ _ _ _, HB3.out⟩
  | false =>
   rw [if_neg (by decide)] at h
   have HM := Aside0.mk h
   clear h
   go_enter Try.func27, Try.ntmps27
   go_wp2_with (first | (go_at_call 59; refine HCF.out.mono ?_; rintro e w3 ⟨rfl, hb⟩; have HB3 := Aside0.mk (below_step HB0.out hb); have hg3 := (hb.cell (p := ⟨w.heap.size, 0, none⟩) HLT0.out).trans HG0.out; clear hb) | (go_at_call 25; refine (batch_Merge.calls k (fun k_ => k_ < w.heap.size) A0 c0 l0 (fun k_ => k_ < w.heap.size) A1 c1 l1 r1 r2 _ ?s0 ?s1 HM.out).mono ?_; (case s0 => exact Kd.V_mk HC0.out (Kd.F_below (Kd.C_F heap50 HR0.out) HB3.out)); (case s1 => exact Kd.V_mk HC1.out (Kd.F_below (Kd.C_F heap50 HR1.out) HB3.out)); rintro e w4 ⟨v4, rfl, ho, hb⟩; have HB4 := Aside0.mk (below_step HB3.out hb); have HO4 := Aside0.mk (Kd.R_lower (Kd.R_mono ho (fun _ _ => trivial)) HB3.out.size); clear ho hb))
   go_ret2
   exact ⟨_, rfl, HO4.out, HB4.out⟩
 ·rw [if_neg hall] at h
  cases h
end Go.Proofs.Ytgeldmhgbnamcaa.P
end
section
/- Plain laws of bags, first part: Concat, Merge, Apply, Least, Right; the reference's Fix of bags. -/
namespace Go.Proofs.Ytgeldmhgbnamcaa.Pure
open Go.RowKit Go.Proofs.Ytgeldmhgbnamcaa.P Go.Proofs.YtgeldmhgbnamcaaW.PrintWords Go.Proofs.YtgeldmhgbnamcaaW.PrintLast
set_option linter.unusedVariables false
set_option linter.unusedSimpArgs false
theorem concat_ev (a b : List S50) (h : Short (a.length + b.length)) : Ev (fun k => batch_Change_57.f k [a, b]) (a ++ b) := by
 unfold Short at h
 refine ⟨8, fun k hk => ?_⟩
 obtain ⟨k, rfl⟩ : ∃ m, k = m + 8 := ⟨k - 8, by omega⟩
 have w0 : wrap64 (0 + 1) = 1 := by unfold wrap64; omega
 have w1 : wrap64 (1 + 1) = 2 := by unfold wrap64; omega
 have a0 : wrap64 (0 + (a.length : Int)) = a.length := by unfold wrap64; omega
 have a1 : wrap64 ((a.length : Int) + (b.length : Int)) = ((a.length + b.length : Nat) : Int) := by unfold wrap64; omega
 have r0 : rd_L4 [a, b] 0 = a := rfl
 have r1 : rd_L4 [a, b] 1 = b := rfl
 have n2 : (([a, b] : List (List S50)).length : Int) = 2 := rfl
 show batch_Change_57.f (k + 8) [a, b] = _
 rw [batch_Change_57.f, n2]
 rw [batch_Change_57.l0, n2, if_pos (by omega), if_pos (by omega), if_pos (by omega), r0, a0, if_neg (by omega), w0]
 rw [batch_Change_57.l0, n2, if_pos (by omega), if_pos (by omega), if_pos (by omega), r1, a1, if_neg (by omega), w1]
 rw [batch_Change_57.l0, if_neg (by omega), slices_GrowNil.f, if_pos (by omega), if_pos (by omega), Option.bind_some, n2]
 rw [batch_Change_57.l1, n2, if_pos (by omega), if_pos (by omega), if_pos (by omega), r0, if_pos (by simp; omega), w0]
 rw [batch_Change_57.l1, n2, if_pos (by omega), if_pos (by omega), if_pos (by omega), r1, if_pos (by simp; omega), w1]
 rw [batch_Change_57.l1, if_neg (by omega)]
 simp
theorem merge_ev {a b : List S50} (hs : Sorts (a ++ b)) (h : Short (a.length + b.length)) : Ev (fun k => batch_Merge.f k a b) (sumv (a ++ b)) := by
 obtain ⟨s, K1, h1⟩ := summed_ev hs (by unfold Short at *; simpa using h)
 obtain ⟨K2, h2⟩ := concat_ev a b h
 refine ⟨K1 + K2, fun k hk => ?_⟩
 have h1 := h1 k (by omega); have h2 := h2 k (by omega); dsimp only at h1 h2
 show batch_Merge.f k a b = _
 rw [batch_Merge.f, h2, Option.bind_some, h1, Option.bind_some]
 unfold sumo sumv
 split <;> simp
/-! ### Least -/
/-! ### the reference's Fix of bags -/
end Go.Proofs.Ytgeldmhgbnamcaa.Pure
end
section
/- An array of two whole numbers, opened. -/
namespace Go.Proofs.Ytgeldmhgbnamcaa.P
open Go.RowKit Go.Proofs.YtgeldmhgbnamcaaW.PrintWords Go.Proofs.YtgeldmhgbnamcaaW.PrintLast Go.Proofs.YtgeldmhgbnamcaaW.PrintMore
set_option linter.unusedVariables false
set_option linter.unusedSimpArgs false
theorem open_arr2 {H : Type} {enc : TypeId × Value → H} {P : Program} {w : World} {base : Nat} {spare : Nat → Bool} {held : Bool} {t e : TypeId} {q : IntKind} (hu : P.underlying t = some (.array 2 e)) (he : P.underlying e = some (.int q)) (hce : P.cellsOf e = 1) (hct : P.cellsOf t = 2)
  {r : Reach} {b0 : Nat} {v : Value} {d : DataW H} {p : List MemPlace} (hv : Value.okWide P w r b0 t v) (h : DataW.Trod enc P w base spare held t v d p) : ∃ x y : Int, v = .agg #[.int q x, .int q y] ∧ (Lit.int q x).wf = true ∧ (Lit.int q y).wf = true ∧ p = [] := by
 obtain ⟨cs, rfl, hs, _⟩ : ∃ cs : Array Value, v = .agg cs ∧ cs.size = P.cellsOf t ∧ True := by
  simp only [Value.okWide, hu] at hv
  obtain ⟨cs, h1, h2, _⟩ := hv
  exact ⟨cs, h1, h2, trivial⟩
 obtain ⟨c0, c1, rfl⟩ := Joins.array2 (hs.trans hct)
 obtain ⟨fuel, hf⟩ := h
 obtain ⟨xs, m, _, hx, _, hn, hd⟩ := DataW.trod_array hu hf
 obtain ⟨y0, y1, rfl⟩ : ∃ y0 y1, xs = [y0, y1] := by
  cases xs with
  | nil => simp at hn
  | cons a xs => cases xs with
   | nil => simp at hn
   | cons b xs => cases xs with
    | nil => exact ⟨a, b, rfl⟩
    | cons c xs => simp at hn
 have h0 := hd 0 (by omega)
 have h1 := hd 1 (by omega)
 simp [Value.cells, hce] at h0 h1
 obtain ⟨a, ea, e0, wa⟩ := DataW.trod_int he h0
 obtain ⟨b, eb, e1, wb⟩ := DataW.trod_int he h1
 simp at ea eb
 subst ea eb e0 e1
 exact ⟨a, b, rfl, wa, wb, by simpa using (Prod.mk.inj hx).2⟩
end Go.Proofs.Ytgeldmhgbnamcaa.P
end
section
/- The plain law of BatchGreat. -/
namespace Go.Proofs.Ytgeldmhgbnamcaa.Pure
open Go.RowKit Go.Proofs.Ytgeldmhgbnamcaa.P Go.Proofs.YtgeldmhgbnamcaaW.PrintWords Go.Proofs.YtgeldmhgbnamcaaW.PrintLast
set_option linter.unusedVariables false
set_option linter.unusedSimpArgs false
theorem great3_one {p t x y : Int} (ht : 0 ≤ t ∧ t < 18446744073709551615) (hx : -576460752303423488 ≤ x ∧ x ≤ 576460752303423488) (hy : -576460752303423488 ≤ y ∧ y ≤ 576460752303423488) : Ev (fun k => marchlandlaw03_BatchGreat.j1 k p t x y) true := by
  have hw : wrap64 (x + y) = x + y := by unfold wrap64; omega
  have hu : IntKind.u64.wrap (t + 1) = t + 1 := by simp [IntKind.wrap, IntKind.bits, IntKind.signed]; omega
  obtain ⟨K1, h1⟩ := to_ev [(⟨p, t, x⟩ : S50)] (by unfold Short; simp)
  obtain ⟨K2, h2⟩ := to_ev [(⟨p, t, y⟩ : S50)] (by unfold Short; simp)
  obtain ⟨K3, h3⟩ := merge_ev (a := [(⟨p, t, x⟩ : S50)]) (b := [(⟨p, t, y⟩ : S50)]) (sorts_short (by simp)) (by unfold Short; simp)
  obtain ⟨K4, h4⟩ := told3
  have et : tot ([(⟨p, t, x⟩ : S50)] ++ [(⟨p, t, y⟩ : S50)]) = [⟨p, t, x + y⟩] := by simp [tot, ins, ke, plus, hw]
  have e1 : [(⟨p, t, x⟩ : S40)] = [(⟨p, t, x⟩ : S50)].map v := rfl
  have e2 : [(⟨p, t, y⟩ : S40)] = [(⟨p, t, y⟩ : S50)].map v := rfl
  by_cases c : wi (x + y)
  · have hv : sumv ([(⟨p, t, x⟩ : S50)] ++ [(⟨p, t, y⟩ : S50)]) = (fin [⟨p, t, x + y⟩], 0) := by
      unfold sumv; rw [et, if_pos]; simp [good, c]
    have hS : Str (fin [(⟨p, t, x + y⟩ : S50)]) := (List.pairwise_singleton _ _).sublist List.filter_sublist
    have hL := fin_len [(⟨p, t, x + y⟩ : S50)]
    have c' : -576460752303423488 ≤ x + y ∧ x + y ≤ 576460752303423488 := by unfold wi at c; omega
    obtain ⟨K5, h5⟩ := of_ev (fin [(⟨p, t, x + y⟩ : S50)]) hS (by simp at hL; omega) p t
    obtain ⟨K6, h6⟩ := of_ev [(⟨p, t, x⟩ : S50)] (List.pairwise_singleton _ _) (by simp) p t
    obtain ⟨K7, h7⟩ := of_ev [(⟨p, t, x⟩ : S50)] (List.pairwise_singleton _ _) (by simp) p (t + 1)
    have o6 : ofv [(⟨p, t, x⟩ : S50)] ⟨p, t, 0⟩ = x := by simp [ofv, ke]
    have hne : ¬ t = t + 1 := by omega
    have o7 : ofv [(⟨p, t, x⟩ : S50)] ⟨p, t + 1, 0⟩ = 0 := by simp [ofv, ke, hne]
    have o5 : ofv (fin [(⟨p, t, x + y⟩ : S50)]) ⟨p, t, 0⟩ = x + y := by
      by_cases hz : x + y = 0
      · simp [fin, hz, ofv]
      · simp [fin, hz, ofv, ke]
    have ol : (((fin [(⟨p, t, x + y⟩ : S50)]).length : Int) == 0) = (x + y == 0) := by
      by_cases hz : x + y = 0
      · simp [fin, hz]
      · simp [fin, hz]
    refine ⟨K1 + K2 + K3 + K4 + K5 + K6 + K7 + 2, fun k hk => ?_⟩
    obtain ⟨k, rfl⟩ : ∃ m, k = m + 2 := ⟨k - 2, by omega⟩
    have h1a := h1 (k + 1) (by omega); have h2 := h2 (k + 1) (by omega); have h3 := h3 (k + 1) (by omega); have h1 := h1 k (by omega); have h4 := h4 k (by omega); have h5 := h5 k (by omega); have h6 := h6 k (by omega); have h7 := h7 k (by omega)
    dsimp only at h1 h1a h2 h3 h4 h5 h6 h7
    show marchlandlaw03_BatchGreat.j1 (k + 2) p t x y = _
    rw [marchlandlaw03_BatchGreat.j1, e1, e2, Option.bind_some, h1a, Option.bind_some, h2, Option.bind_some, h3, Option.bind_some, hv, hw, if_neg (by omega), decide_eq_false (by omega), marchlandlaw03_BatchGreat.j2, if_neg (by decide), h4, Option.bind_some, if_pos rfl, if_pos rfl, h5, Option.bind_some, o5, if_pos rfl, ol, if_pos (by simp), h1, Option.bind_some, h6, Option.bind_some, o6, if_pos rfl, Option.bind_some, hu, h7, Option.bind_some, o7]
    rfl
  · have hv : sumv ([(⟨p, t, x⟩ : S50)] ++ [(⟨p, t, y⟩ : S50)]) = ([], 10) := by
      unfold sumv; rw [et, if_neg]; simp [good, c]
    have c' : x + y > 576460752303423488 ∨ x + y < -576460752303423488 := by unfold wi at c; omega
    refine ⟨K1 + K2 + K3 + K4 + 2, fun k hk => ?_⟩
    obtain ⟨k, rfl⟩ : ∃ m, k = m + 2 := ⟨k - 2, by omega⟩
    have h1a := h1 (k + 1) (by omega); have h2 := h2 (k + 1) (by omega); have h3 := h3 (k + 1) (by omega); have h4 := h4 k (by omega)
    dsimp only at h1a h2 h3 h4
    show marchlandlaw03_BatchGreat.j1 (k + 2) p t x y = _
    rw [marchlandlaw03_BatchGreat.j1, e1, e2, Option.bind_some, h1a, Option.bind_some, h2, Option.bind_some, h3, Option.bind_some, hv, hw]
    have e3 : (if x + y > 576460752303423488 then marchlandlaw03_BatchGreat.j2 (k + 1) p t ([(⟨p, t, x⟩ : S50)].map v) [] 10 (x + y) true x y else marchlandlaw03_BatchGreat.j2 (k + 1) p t ([(⟨p, t, x⟩ : S50)].map v) [] 10 (x + y) (decide (x + y < -576460752303423488)) x y) = marchlandlaw03_BatchGreat.j2 (k + 1) p t ([(⟨p, t, x⟩ : S50)].map v) [] 10 (x + y) true x y := by
      by_cases c1 : x + y > 576460752303423488
      · rw [if_pos c1]
      · rw [if_neg c1, decide_eq_true (by omega)]
    refine Eq.trans e3 ?_
    rw [marchlandlaw03_BatchGreat.j2, if_pos rfl, h4, Option.bind_some, if_pos rfl, if_pos rfl]
    rfl
theorem fixn_wi (n : Int) : -576460752303423488 ≤ fixn n ∧ fixn n ≤ 576460752303423488 := by
  have h3 := Int.tmod_lt_of_pos n (b := 576460752303423489) (by omega)
  have h4 := Int.lt_tmod_of_pos n (b := 576460752303423489) (by omega)
  unfold fixn
  split <;> omega
theorem BatchGreat : ∀ a0 : Int, (-9223372036854775808 ≤ a0 ∧ a0 ≤ 9223372036854775807) → ∀ a1 : Int, (0 ≤ a1 ∧ a1 ≤ 18446744073709551615) → ∀ a2_0 a2_1 : Int, ∃ k, marchlandlaw03_BatchGreat.f k a0 a1 a2_0 a2_1 = some true := by
  intro a0 _ a1 q1 n0 n1
  have h1 := Int.tmod_lt_of_pos a1 (b := 18446744073709551615) (by omega)
  have h2 := Int.tmod_nonneg (b := 18446744073709551615) q1.1
  obtain ⟨K, h⟩ := great3_one (p := wrap64 (Int.tmod (IntKind.u64.wrap a0) 64)) (t := Int.tmod a1 18446744073709551615) ⟨h2, h1⟩ (fixn_wi n0) (fixn_wi n1)
  exact ⟨K, h K (by omega)⟩
end Go.Proofs.Ytgeldmhgbnamcaa.Pure
end
