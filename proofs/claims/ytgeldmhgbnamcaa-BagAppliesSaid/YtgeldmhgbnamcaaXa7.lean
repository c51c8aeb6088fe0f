/- Walks and laws of several statements of this seat, joined into one text; no condition. -/
import Derived.Test.YtgeldmhgbnamcaaProg
import Derived.Below
import Derived.Deep.Draws
import Derived.Deep.AppendLies
import Derived.Maps.AppendAt
import Derived.OwnWalk
import Derived.Laws.BytesArg
import Derived.Laws.MakeOwn
import Derived.Laws.OwnMore
import Derived.Deep.OwnRows
import Derived.Tactics
import Derived.Lib.ConvBytes
import Derived.Laws.Slices
import Derived.WalkKit
import Derived.KernelRfl
import Derived.RowKit3
import Derived.Deep.LoopGhost
import Derived.Deep.QuietTactic
import Derived.BigQuiet
import Derived.WideLaws
import Derived.Deep.DeepCutAuto
import Derived.Deep.CutBlock
import Derived.Deep.RegionHeld3
import Derived.Laws.Rows
import Derived.Lib.AppendStr
import Derived.ArgAppend
import Derived.Laws.IdiomCopy
import Derived.OrdersHeld
import Derived.Laws.BitsLemmas
import Derived.RowKit
import Derived.Laws.StructEq
import Derived.Lib.BufferMore
import Derived.Deep.Slices
import Derived.SizedLaws
import Derived.OpenShut
import Derived.IntWalk
import Derived.Outline
import Derived.Test.YtgeldmhgbnamcaaXa0
import Derived.Test.YtgeldmhgbnamcaaXa1
import Derived.Test.YtgeldmhgbnamcaaXa2
import Derived.Test.YtgeldmhgbnamcaaXa3
import Derived.Test.YtgeldmhgbnamcaaXa5
import Derived.Test.YtgeldmhgbnamcaaXa6
import Derived.Test.YtgeldmhgbnamcaaXa4
section
/- Plain laws of batches, second part: the insertion sort, and the sort of a short list. -/
namespace Go.Proofs.Ytgeldmhgbnamcaa.Pure
open Go.RowKit Go.Proofs.Ytgeldmhgbnamcaa.P Go.Proofs.YtgeldmhgbnamcaaW.PrintWords Go.Proofs.YtgeldmhgbnamcaaW.PrintLast
set_option linter.unusedVariables false
set_option linter.unusedSimpArgs false
theorem ordv_neg {a b : S50} : ordv a b < 0 ↔ kl a b := by unfold ordv; split <;> (try split) <;> simp_all
theorem ordv_zero {a b : S50} : ordv a b = 0 ↔ ke a b := by
 unfold ordv
 split
 ·rename_i h; simp; unfold kl ke at *; omega
 ·split <;> simp_all
theorem set5 (p : List S50) (x : S50) (q : List S50) (y : S50) {n : Nat} (h : n = p.length) : (p ++ x :: q).set n y = p ++ y :: q := by subst h; simp
theorem order_at (a b : S50) : Ev (fun k => batch_order.f k a.f0 a.f1 a.f2 b.f0 b.f1 b.f2) (ordv a b) := order_ev _ _ _ _ _ _
theorem l1_pos {p q : List S50} {y x : S50} {x1 x2 x8 : Int} {r : List S50} (hp : p.length ≤ 8000000000000000000) (hx : x1 ≤ p.length) {i : Int} (hi : i = p.length + 1)
  (h1 : kl x y → Ev (fun k => batch_Change_95.l1 k (p ++ x :: y :: q) x1 x2 x8 p.length) r)
  (h2 : ¬ kl x y → Ev (fun k => batch_Change_95.l0 k (p ++ y :: x :: q) x1 x2 (wrap64 (x8 + 1))) r) :
  Ev (fun k => batch_Change_95.l1 k (p ++ y :: x :: q) x1 x2 x8 i) r := by
 obtain ⟨K, h⟩ := order_at x y
 have hw : wrap64 (i - 1) = p.length := by unfold wrap64; omega
 have e1 : rd_T50 (p ++ y :: x :: q) i = x := by
  have := rd5 (p ++ [y]) x q (i := i) (by simp; omega)
  simpa using this
 have e2 : rd_T50 (p ++ y :: x :: q) (p.length : Int) = y := rd5 p y (x :: q) rfl
 have c1 : i > x1 := by omega
 have c2 : 0 ≤ i := by omega
 have c3 : i < ((p ++ y :: x :: q).length : Int) := by simp; omega
 have c4 : (0 : Int) ≤ p.length := by omega
 have c5 : (p.length : Int) < ((p ++ y :: x :: q).length : Int) := by simp; omega
 have s : ((p ++ y :: x :: q).set i.toNat ⟨y.f0, y.f1, y.f2⟩).set (p.length : Int).toNat ⟨x.f0, x.f1, x.f2⟩ = p ++ x :: y :: q := by
  have a := set5 (p ++ [y]) x q y (n := i.toNat) (by simp; omega)
  have b := set5 p y (y :: q) x (n := (p.length : Int).toNat) (by simp)
  have a' : (p ++ y :: x :: q).set i.toNat y = p ++ y :: y :: q := by simpa using a
  calc _ = ((p ++ y :: x :: q).set i.toNat y).set (p.length : Int).toNat x := rfl
   _ = _ := by rw [a', b]
 by_cases hc : kl x y
 ·obtain ⟨K', h'⟩ := h1 hc
  refine ⟨K + K' + 1, fun k hk => ?_⟩
  obtain ⟨k, rfl⟩ : ∃ m, k = m + 1 := ⟨k - 1, by omega⟩
  have o := h k (by omega)
  simp only [batch_Change_95.l1, hw, if_pos c1, if_pos c2, if_pos c3, if_pos c4, if_pos c5, e1, e2, o, Option.bind_some, if_pos (ordv_neg.2 hc), s]
  exact h' k (by omega)
 ·obtain ⟨K', h'⟩ := h2 hc
  refine ⟨K + K' + 1, fun k hk => ?_⟩
  obtain ⟨k, rfl⟩ : ∃ m, k = m + 1 := ⟨k - 1, by omega⟩
  have o := h k (by omega)
  simp only [batch_Change_95.l1, hw, if_pos c1, if_pos c2, if_pos c3, if_pos c4, if_pos c5, e1, e2, o, Option.bind_some, if_neg (mt ordv_neg.1 hc)]
  exact h' k (by omega)
theorem l1_end {X : List S50} {x1 x2 x8 i : Int} {r : List S50} (hx : i ≤ x1) (h : Ev (fun k => batch_Change_95.l0 k X x1 x2 (wrap64 (x8 + 1))) r) : Ev (fun k => batch_Change_95.l1 k X x1 x2 x8 i) r :=
 Ev.step (fun k => by show batch_Change_95.l1 (k + 1) X x1 x2 x8 i = _; rw [batch_Change_95.l1, if_neg (by omega)]) h
theorem ins95_l1 (P D : List S50) (x2 x8 : Int) : ∀ (n : Nat) (A B : List S50) (x : S50), A.length = n → Srt (A ++ B) → (∀ b ∈ B, kl x b) → P.length + n ≤ 8000000000000000000 →
  ∃ S' : List S50, S'.Perm (A ++ x :: B) ∧ Srt S' ∧ ∀ r, Ev (fun k => batch_Change_95.l0 k (P ++ (S' ++ D)) P.length x2 (wrap64 (x8 + 1))) r → Ev (fun k => batch_Change_95.l1 k (P ++ (A ++ x :: B ++ D)) P.length x2 x8 ((P.length + n : Nat) : Int)) r := by
 intro n
 induction n with
 | zero =>
  intro A B x hA hs hB hP
  obtain rfl : A = [] := List.eq_nil_of_length_eq_zero hA
  refine ⟨x :: B, List.Perm.refl _, List.pairwise_cons.2 ⟨fun b hb => ?_, hs⟩, fun r h => l1_end (by simp) h⟩
  have := hB b hb; unfold kl at *; omega
 | succ n ih =>
  intro A B x hA hs hB hP
  rcases List.eq_nil_or_concat A with rfl | ⟨A', y, rfl⟩
  ·simp at hA
  simp only [List.concat_eq_append] at hA hs ⊢
  have hA' : A'.length = n := by simpa using hA
  have e0 : P ++ (A' ++ [y] ++ x :: B ++ D) = (P ++ A') ++ y :: x :: (B ++ D) := by simp
  by_cases hc : kl x y
  ·obtain ⟨S', p, s, k⟩ := ih A' (y :: B) x hA' (by simpa using hs) (fun b hb => (List.mem_cons.1 hb).elim (fun e => e ▸ hc) (fun hb => hB b hb)) (by omega)
   refine ⟨S', p.trans (by simpa using (List.Perm.append_left A' (List.Perm.swap y x B))), s, fun r h => ?_⟩
   rw [e0]
   refine l1_pos (by simp; omega) (by simp only [List.length_append]; omega) (by simp only [List.length_append]; omega) (fun _ => ?_) (fun h => absurd hc h)
   have := k r h
   have e1 : (P ++ A') ++ x :: y :: (B ++ D) = P ++ (A' ++ x :: (y :: B) ++ D) := by simp
   have e2 : ((P ++ A').length : Int) = ((P.length + n : Nat) : Int) := by simp; omega
   rw [e1, e2]
   exact this
  ·refine ⟨A' ++ [y] ++ x :: B, List.Perm.refl _, ?_, fun r h => ?_⟩
   ·have hs1 := List.pairwise_append.1 hs
    refine List.pairwise_append.2 ⟨hs1.1, List.pairwise_cons.2 ⟨fun b hb => ?_, hs1.2.1⟩, fun a ha b hb => ?_⟩
    ·have := hB b hb; unfold kl at *; omega
    ·rcases List.mem_cons.1 hb with rfl | hb
     ·rcases List.mem_append.1 ha with ha | ha
      ·have := (List.pairwise_append.1 hs1.1).2.2 a ha y (by simp); unfold kl at *; omega
      ·simp at ha; subst ha; exact hc
     ·exact hs1.2.2 a ha b hb
   ·rw [e0]
    refine l1_pos (by simp; omega) (by simp only [List.length_append]; omega) (by simp only [List.length_append]; omega) (fun h => absurd h hc) (fun _ => ?_)
    have e1 : (P ++ A') ++ y :: x :: (B ++ D) = P ++ (A' ++ [y] ++ x :: B ++ D) := by simp
    rw [e1]
    exact h
theorem ins95_l0 (P D : List S50) : ∀ (R S : List S50), Srt S → P.length + S.length + R.length ≤ 8000000000000000000 →
  ∃ S' : List S50, S'.Perm (S ++ R) ∧ Srt S' ∧ Ev (fun k => batch_Change_95.l0 k (P ++ (S ++ R ++ D)) P.length ((P.length + S.length + R.length : Nat) : Int) ((P.length + S.length : Nat) : Int)) (P ++ (S' ++ D)) := by
 intro R
 induction R with
 | nil =>
  intro S hs hl
  refine ⟨S, by simp, hs, 1, fun k hk => ?_⟩
  obtain ⟨k, rfl⟩ : ∃ m, k = m + 1 := ⟨k - 1, by omega⟩
  show batch_Change_95.l0 (k + 1) _ _ _ _ = _
  rw [batch_Change_95.l0, if_neg (by simp)]
  simp
 | cons x R ih =>
  intro S hs hl
  simp only [List.length_cons] at hl
  obtain ⟨S1, p1, s1, k1⟩ := ins95_l1 P (R ++ D) ((P.length + S.length + (x :: R).length : Nat) : Int) ((P.length + S.length : Nat) : Int) S.length S [] x rfl (by simpa using hs) (fun _ h => by cases h) (by omega)
  have len : S1.length = S.length + 1 := by have := p1.length_eq; simpa using this
  obtain ⟨S2, p2, s2, k2⟩ := ih S1 s1 (by omega)
  refine ⟨S2, p2.trans ?_, s2, ?_⟩
  ·have := p1.append_right R
   simpa using this
  ·have e : ((P.length + S1.length + R.length : Nat) : Int) = ((P.length + S.length + (x :: R).length : Nat) : Int) := by simp only [List.length_cons]; omega
   have e2 : ((P.length + S1.length : Nat) : Int) = wrap64 (((P.length + S.length : Nat) : Int) + 1) := by rw [w64s (by omega), len]; rfl
   rw [e, e2] at k2
   have := k1 _ (by simpa using k2)
   refine Ev.step (fun k => ?_) this
   show batch_Change_95.l0 (k + 1) _ _ _ _ = _
   rw [batch_Change_95.l0, if_pos (by simp only [List.length_cons]; omega)]
   simp
/-- Insertion sort of a stretch. -/
theorem ins95 (P D S : List S50) (hl : P.length + S.length ≤ 8000000000000000000) {a b : Int} (ha : a = P.length) (hb : b = P.length + S.length) :
  ∃ S' : List S50, S'.Perm S ∧ Srt S' ∧ Ev (fun k => batch_Change_95.f k (P ++ (S ++ D)) a b) (P ++ (S' ++ D)) := by
 subst ha hb
 cases S with
 | nil =>
  refine ⟨[], List.Perm.refl _, List.Pairwise.nil, 1, fun k hk => ?_⟩
  obtain ⟨k, rfl⟩ : ∃ m, k = m + 1 := ⟨k - 1, by omega⟩
  show batch_Change_95.f (k + 1) _ _ _ = _
  rw [batch_Change_95.f, batch_Change_95.l0, if_neg]
  have : wrap64 ((P.length : Int) + 1) = P.length + 1 := by unfold wrap64; simp at hl; omega
  rw [this]; simp; omega
 | cons x S =>
  simp only [List.length_cons] at hl
  obtain ⟨S', p, s, h⟩ := ins95_l0 P D S [x] (by simp) (by simp; omega)
  refine ⟨S', p, s, Ev.congr (fun k => ?_) h⟩
  show batch_Change_95.f k _ _ _ = _
  rw [batch_Change_95.f, w64s (by omega)]
  have : ((P.length + [x].length + S.length : Nat) : Int) = (P.length : Int) + ((x :: S).length : Nat) := by simp; omega
  rw [this]; rfl
end Go.Proofs.Ytgeldmhgbnamcaa.Pure
end
section
/- Plain laws of batches, third part: what Pack and Right compute. -/
namespace Go.Proofs.Ytgeldmhgbnamcaa.Pure
open Go.RowKit Go.Proofs.Ytgeldmhgbnamcaa.P Go.Proofs.YtgeldmhgbnamcaaW.PrintWords Go.Proofs.YtgeldmhgbnamcaaW.PrintLast
set_option linter.unusedVariables false
set_option linter.unusedSimpArgs false
theorem ke_comm {a b : S50} : ke a b ↔ ke b a := by unfold ke; omega
theorem summed_j2 {X acc : List S50} {i : Int} {c : S50} {r : List S50 × Int × List S50} (ha : Short acc.length)
  (h1 : wi c.f2 → Ev (fun k => batch_summed.l0 k X (acc ++ fin [c]) i) r) (h2 : ¬ wi c.f2 → r = ([], 10, X)) : Ev (fun k => batch_summed.j2 k X acc i c.f0 c.f1 c.f2) r := by
 by_cases hc : wi c.f2
 ·obtain ⟨K, h⟩ := h1 hc
  refine ⟨K + 1, fun k hk => ?_⟩
  obtain ⟨k, rfl⟩ : ∃ m, k = m + 1 := ⟨k - 1, by omega⟩
  have h := h k (by omega); dsimp only at h
  show batch_summed.j2 (k + 1) _ _ _ _ _ _ = _
  simp only [batch_summed.j2, within_eq, Option.bind_some, hc, decide_true, if_true]
  by_cases hz : c.f2 = 0
  ·rw [if_pos hz]
   simpa [fin, hz] using h
  ·rw [if_neg hz, if_pos (by omega)]
   simpa [fin, hz] using h
 ·refine ⟨1, fun k hk => ?_⟩
  obtain ⟨k, rfl⟩ : ∃ m, k = m + 1 := ⟨k - 1, by omega⟩
  show batch_summed.j2 (k + 1) _ _ _ _ _ _ = _
  simp only [batch_summed.j2, within_eq, Option.bind_some, hc, decide_false, Bool.false_eq_true, if_false, h2 hc]
theorem good_cons {c : S50} {G : List S50} : good (c :: G) = (decide (wi c.f2) && good G) := by simp [good]
theorem fin_cons {c : S50} {G : List S50} : fin (c :: G) = fin [c] ++ fin G := by simp only [fin, List.filter_cons]; split <;> simp
theorem fin_len (G : List S50) : (fin G).length ≤ G.length := List.length_filter_le _ _
def sumo (X acc G : List S50) : List S50 × Int × List S50 := if good G = true then (acc ++ fin G, 0, X) else ([], 10, X)
theorem summed_l1 : ∀ (r pre acc : List S50) (c : S50), acc.length + r.length + 1 ≤ 5864062014634 → pre.length + r.length ≤ 8000000000000000000 →
  Ev (fun k => batch_summed.l1 k (pre ++ r) acc (pre.length : Int) c.f0 c.f1 c.f2) (sumo (pre ++ r) acc (grp c r)) := by
 intro r
 induction r with
 | nil =>
  intro pre acc c ha hp
  simp only [List.length_nil] at ha hp
  refine Ev.step (f := fun k => batch_summed.j2 k (pre ++ []) acc (pre.length : Int) c.f0 c.f1 c.f2) (fun k => ?_) (summed_j2 (by unfold Short; omega) (fun hc => ?_) (fun hc => ?_))
  ·show batch_summed.l1 (k + 1) _ _ _ _ _ _ = _
   rw [batch_summed.l1, if_neg (by simp)]
  ·refine ⟨1, fun k hk => ?_⟩
   obtain ⟨k, rfl⟩ : ∃ m, k = m + 1 := ⟨k - 1, by omega⟩
   show batch_summed.l0 (k + 1) _ _ _ = _
   rw [batch_summed.l0, if_neg (by simp)]
   simp [sumo, grp, good, hc]
  ·simp [sumo, grp, good, hc]
 | cons y r ih =>
  intro pre acc c ha hp
  simp only [List.length_cons] at ha hp
  have c1 : (pre.length : Int) < ((pre ++ y :: r).length : Int) := by simp; omega
  have c2 : (0 : Int) ≤ pre.length := by omega
  have e1 : rd_T50 (pre ++ y :: r) (pre.length : Int) = y := rd5 _ _ _ rfl
  have ew : wrap64 ((pre.length : Int) + 1) = ((pre ++ [y]).length : Int) := by rw [w64s (by omega)]; simp
  have eX : pre ++ y :: r = (pre ++ [y]) ++ r := by simp
  obtain ⟨K, o⟩ := order_at y c
  by_cases hk : ke c y
  ·obtain ⟨K1, h1⟩ := ih (pre ++ [y]) acc (plus c y) (by omega) (by simp; omega)
   refine ⟨K + K1 + 1, fun k hk' => ?_⟩
   obtain ⟨k, rfl⟩ : ∃ m, k = m + 1 := ⟨k - 1, by omega⟩
   have o := o k (by omega); dsimp only at o
   have h1 := h1 k (by omega); dsimp only at h1
   show batch_summed.l1 (k + 1) _ _ _ _ _ _ = _
   rw [batch_summed.l1, if_pos c1, if_pos c2, e1, o, Option.bind_some, if_pos (ordv_zero.2 (ke_comm.1 hk)), ew]
   simp only [grp, if_pos hk, eX]
   exact h1
  ·suffices h : Ev (fun k => batch_summed.j2 k (pre ++ y :: r) acc (pre.length : Int) c.f0 c.f1 c.f2) (sumo (pre ++ y :: r) acc (c :: grp y r)) by
    obtain ⟨K1, h1⟩ := h
    refine ⟨K + K1 + 1, fun k hk' => ?_⟩
    obtain ⟨k, rfl⟩ : ∃ m, k = m + 1 := ⟨k - 1, by omega⟩
    have o := o k (by omega); dsimp only at o
    have h1 := h1 k (by omega); dsimp only at h1
    show batch_summed.l1 (k + 1) _ _ _ _ _ _ = _
    rw [batch_summed.l1, if_pos c1, if_pos c2, e1, o, Option.bind_some, if_neg (fun h => hk (ke_comm.1 (ordv_zero.1 h)))]
    simp only [grp, if_neg hk]
    exact h1
   refine summed_j2 (by unfold Short; omega) (fun hc => ?_) (fun hc => by simp [sumo, good_cons, hc])
   obtain ⟨K1, h1⟩ := ih (pre ++ [y]) (acc ++ fin [c]) y (by have := fin_len [c]; simp at this ⊢; omega) (by simp; omega)
   refine ⟨K1 + 1, fun k hk' => ?_⟩
   obtain ⟨k, rfl⟩ : ∃ m, k = m + 1 := ⟨k - 1, by omega⟩
   have h1 := h1 k (by omega); dsimp only at h1
   show batch_summed.l0 (k + 1) _ _ _ = _
   rw [batch_summed.l0, if_pos c1, if_pos c2, e1, ew, eX, h1]
   simp only [sumo, good_cons, hc, decide_true, Bool.true_and, fin_cons (c := c) (G := grp y r), List.append_assoc]
theorem summed_l0 (X : List S50) (h : Srt X) (hl : Short X.length) : Ev (fun k => batch_summed.l0 k X [] 0) (sumo X [] (tot X)) := by
 unfold Short at hl
 cases X with
 | nil =>
  refine ⟨1, fun k hk => ?_⟩
  obtain ⟨k, rfl⟩ : ∃ m, k = m + 1 := ⟨k - 1, by omega⟩
  show batch_summed.l0 (k + 1) _ _ _ = _
  rw [batch_summed.l0, if_neg (by simp)]
  rfl
 | cons c r =>
  simp only [List.length_cons] at hl
  have := summed_l1 r [c] [] c (by simp; omega) (by simp; omega)
  rw [tot_grp h]
  refine Ev.step (fun k => ?_) this
  show batch_summed.l0 (k + 1) _ _ _ = _
  have ew : wrap64 ((0 : Int) + 1) = 1 := by unfold wrap64; omega
  rw [batch_summed.l0, if_pos (by simp), if_pos (Int.le_refl 0), ew]
  rfl
/-- A list that the program's sort sorts. -/
def Sorts (l : List S50) : Prop := ∃ l' : List S50, l'.Perm l ∧ Srt l' ∧ Ev (fun k => batch_Change_74.f k l) l'
theorem summed_ev {l : List S50} (hs : Sorts l) (hl : Short l.length) : ∃ s, Ev (fun k => batch_summed.f k l) (sumo s [] (tot l)) := by
 obtain ⟨s, p, hs, h⟩ := hs
 refine ⟨s, Ev.bind h ?_⟩
 rw [← tot_perm p]
 exact summed_l0 s hs (by rw [p.length_eq]; exact hl)
/-- the sums of a list, checked -/
def sumv (l : List S50) : List S50 × Int := if good (tot l) = true then (fin (tot l), 0) else ([], 10)
/-! ### Right -/
end Go.Proofs.Ytgeldmhgbnamcaa.Pure
end
section
/- Plain laws of batches, fourth part: the reference's sums, Pack, Right, Same; To and From. Lists of the law are written as 'X.map v'. -/
namespace Go.Proofs.Ytgeldmhgbnamcaa.Pure
open Go.RowKit Go.Proofs.Ytgeldmhgbnamcaa.P Go.Proofs.YtgeldmhgbnamcaaW.PrintWords Go.Proofs.YtgeldmhgbnamcaaW.PrintLast
set_option linter.unusedVariables false
set_option linter.unusedSimpArgs false
deriving instance DecidableEq for S50
theorem to_l0 (X : List S50) (hl : Short X.length) : ∀ (r pre : List S50), X = pre ++ r → Ev (fun k => marchlandlaw03_To.l0 k (X.map v) pre (pre.length : Int)) X := by
 unfold Short at hl
 intro r
 induction r with
 | nil =>
  intro pre e
  refine ⟨1, fun k hk => ?_⟩
  obtain ⟨k, rfl⟩ : ∃ m, k = m + 1 := ⟨k - 1, by omega⟩
  show marchlandlaw03_To.l0 (k + 1) _ _ _ = _
  rw [marchlandlaw03_To.l0, if_neg (by subst e; simp)]
  simp [e]
 | cons x r ih =>
  intro pre e
  obtain ⟨K1, h1⟩ := ih (pre ++ [x]) (by simp [e])
  refine ⟨K1 + 1, fun k hk => ?_⟩
  obtain ⟨k, rfl⟩ : ∃ m, k = m + 1 := ⟨k - 1, by omega⟩
  have h1 := h1 k (by omega); dsimp only at h1
  have ll : X.length = pre.length + (r.length + 1) := by rw [e]; simp
  have lm : (X.map v).length = X.length := by simp
  have e1 : rd_T40 (X.map v) (pre.length : Int) = v x := by rw [e, List.map_append]; exact rd4 _ _ _ (by simp)
  have ew : wrap64 ((pre.length : Int) + 1) = ((pre ++ [x]).length : Int) := by rw [w64s (by omega)]; simp
  show marchlandlaw03_To.l0 (k + 1) _ _ _ = _
  rw [marchlandlaw03_To.l0, if_pos (by omega), if_pos (by omega), if_pos (by omega), e1, ew]
  exact h1
theorem to_ev (X : List S50) (hl : Short X.length) : Ev (fun k => marchlandlaw03_To.f k (X.map v)) X := to_l0 X hl X [] rfl
/-! ### the reference's sums -/
theorem rd4m (p : List S50) (x : S50) (q : List S50) {i : Int} (h : i = p.length) : rd_T40 ((p ++ x :: q).map v) i = v x := by rw [List.map_append]; exact rd4 _ _ _ (by simp [h])
theorem set4m (p : List S50) (x : S50) (q : List S50) (y : S50) {n : Nat} (h : n = p.length) : ((p ++ x :: q).map v).set n (v y) = (p ++ y :: q).map v := by subst h; simp [List.map_append, List.set_append]
/-- the third loop: check and drop -/
theorem sums_l3 (G : List S50) (hl : Short G.length) : ∀ (r pre acc : List S50), G = pre ++ r → acc.length ≤ pre.length →
  Ev (fun k => marchlandref03_sums.l3 k (G.map v) (acc.map v) (pre.length : Int)) (if good r = true then ((acc ++ fin r).map v, true) else ([], false)) := by
 unfold Short at hl
 intro r
 induction r with
 | nil =>
  intro pre acc e ha
  refine ⟨1, fun k hk => ?_⟩
  obtain ⟨k, rfl⟩ : ∃ m, k = m + 1 := ⟨k - 1, by omega⟩
  show marchlandref03_sums.l3 (k + 1) _ _ _ = _
  rw [marchlandref03_sums.l3, if_neg (by subst e; simp)]
  simp [good, fin]
 | cons x r ih =>
  intro pre acc e ha
  obtain ⟨K1, h1⟩ := ih (pre ++ [x]) (acc ++ fin [x]) (by simp [e]) (by have := fin_len [x]; simp at this ⊢; omega)
  refine ⟨K1 + 1, fun k hk => ?_⟩
  obtain ⟨k, rfl⟩ : ∃ m, k = m + 1 := ⟨k - 1, by omega⟩
  have h1 := h1 k (by omega); dsimp only at h1
  have ll : G.length = pre.length + (r.length + 1) := by rw [e]; simp
  have lm : (G.map v).length = G.length := by simp
  have lc : (acc.map v).length = acc.length := by simp
  have e1 : rd_T40 (G.map v) (pre.length : Int) = v x := by rw [e]; exact rd4m _ _ _ rfl
  have ew : wrap64 ((pre.length : Int) + 1) = ((pre ++ [x]).length : Int) := by rw [w64s (by omega)]; simp
  show marchlandref03_sums.l3 (k + 1) _ _ _ = _
  rw [marchlandref03_sums.l3, if_pos (by omega), if_pos (by omega), e1, within3_eq, Option.bind_some, good_cons, fin_cons, ew]
  by_cases hc : wi x.f2
  ·rw [if_pos (show decide (wi (v x).f2) = true from decide_eq_true hc)]
   simp only [hc, decide_true, Bool.true_and, ← List.append_assoc]
   by_cases hz : x.f2 = 0
   ·rw [if_pos (show (v x).f2 = 0 from hz)]
    have : fin [x] = [] := by simp [fin, hz]
    rw [this, List.append_nil] at h1 ⊢
    exact h1
   ·rw [if_neg (show ¬ (v x).f2 = 0 from hz), if_pos (by omega)]
    have : fin [x] = [x] := by simp [fin, hz]
    rw [this] at h1 ⊢
    have em : acc.map v ++ [(⟨(v x).f0, (v x).f1, (v x).f2⟩ : S40)] = (acc ++ [x]).map v := by simp [v]
    rw [em]; exact h1
  ·rw [if_neg (show ¬ decide (wi (v x).f2) = true from fun h => hc (of_decide_eq_true h))]
   simp [hc]
theorem ins_head {x : S50} {B : List S50} (h : ∀ b ∈ B, kl x b) : ins x B = x :: B := by
 cases B with
 | nil => rfl
 | cons b B =>
  have h := h b (by simp)
  have : ¬ ke b x := by unfold kl ke at *; omega
  simp [ins, this, h]
/-- the bubbling down -/
theorem sums_l2 (X' : List S40) (i : Int) {r : List S40 × Bool} : ∀ (n : Nat) (A : List S50) (x : S50) (B : List S50), A.length = n → n ≤ 8000000000000000000 → Str (A ++ B) → (∀ b ∈ B, kl x b) → (∀ a ∈ A, ¬ ke a x) →
  Ev (fun k => marchlandref03_sums.l0 k X' ((ins x (A ++ B)).map v) (wrap64 (i + 1))) r → Ev (fun k => marchlandref03_sums.l2 k X' ((A ++ x :: B).map v) i (n : Int)) r := by
 intro n
 induction n with
 | zero =>
  intro A x B hA hn hs hB hk h
  obtain rfl : A = [] := List.eq_nil_of_length_eq_zero hA
  refine Ev.step (fun k => ?_) h
  show marchlandref03_sums.l2 (k + 1) _ _ _ _ = _
  rw [marchlandref03_sums.l2, if_neg (by simp)]
  simp only [List.nil_append, ins_head hB]
 | succ n ih =>
  intro A x B hA hn hs hB hk h
  rcases List.eq_nil_or_concat A with rfl | ⟨A', y, rfl⟩
  ·simp at hA
  simp only [List.concat_eq_append] at hA hs hk h ⊢
  have hA' : A'.length = n := by simpa using hA
  have eL : A' ++ [y] ++ x :: B = A' ++ y :: x :: B := by simp
  have lL : ((A' ++ y :: x :: B).map v).length = n + 2 + B.length := by simp; omega
  have ew : wrap64 (((n + 1 : Nat) : Int) - 1) = (n : Int) := w64p (by omega)
  have e1 : rd_T40 ((A' ++ y :: x :: B).map v) ((n + 1 : Nat) : Int) = v x := by
   have := rd4m (A' ++ [y]) x B (i := ((n + 1 : Nat) : Int)) (by simp; omega)
   simpa using this
  have e2 : rd_T40 ((A' ++ y :: x :: B).map v) (n : Int) = v y := rd4m A' y (x :: B) (by omega)
  by_cases hc : kl x y
  ·obtain ⟨K, h1⟩ := ih A' x (y :: B) hA' (by omega) (by simpa using hs) (fun b hb => (List.mem_cons.1 hb).elim (fun e => e ▸ hc) (fun hb => hB b hb)) (fun a ha => hk a (by simp [ha])) (by simpa using h)
   refine ⟨K + 1, fun k hk => ?_⟩
   obtain ⟨k, rfl⟩ : ∃ m, k = m + 1 := ⟨k - 1, by omega⟩
   have h1 := h1 k (by omega); dsimp only at h1
   have s1 : ((A' ++ y :: x :: B).map v).set (n : Int).toNat (v x) = (A' ++ x :: x :: B).map v := set4m A' y (x :: B) x (by simp; omega)
   have s2 : ((A' ++ x :: x :: B).map v).set ((n + 1 : Nat) : Int).toNat (v y) = (A' ++ x :: y :: B).map v := by
    have := set4m (A' ++ [x]) x B y (n := ((n + 1 : Nat) : Int).toNat) (by simp; omega)
    simpa using this
   show marchlandref03_sums.l2 (k + 1) _ _ _ _ = _
   rw [marchlandref03_sums.l2, eL, ew, if_pos (by omega), if_pos (by omega), if_pos (by omega), if_pos (by omega), if_pos (by omega), e1, e2]
   rw [show marchlandref03_before.f (v x).f0 (v x).f1 (v x).f2 (v y).f0 (v y).f1 (v y).f2 = some (decide (kl x y)) from before_eq x y, Option.bind_some, if_pos (decide_eq_true hc)]
   rw [show (⟨(v x).f0, (v x).f1, (v x).f2⟩ : S40) = v x from rfl, show (⟨(v y).f0, (v y).f1, (v y).f2⟩ : S40) = v y from rfl, s1, s2]
   exact h1
  ·have hyx : kl y x := (kl_tri x y).elim (fun h => absurd h hc) (fun h => h.elim (fun h => absurd (ke_comm.1 h) (hk y (by simp))) id)
   have hall : ∀ a ∈ A' ++ [y], kl a x := fun a ha => by
    rcases List.mem_append.1 ha with ha | ha
    ·exact kl_trans ((List.pairwise_append.1 (List.pairwise_append.1 hs).1).2.2 a ha y (by simp)) hyx
    ·simp at ha; subst ha; exact hyx
   rw [ins_app B hall, ins_head hB] at h
   refine Ev.step (fun k => ?_) h
   show marchlandref03_sums.l2 (k + 1) _ _ _ _ = _
   rw [marchlandref03_sums.l2, eL, ew, if_pos (by omega), if_pos (by omega), if_pos (by omega), if_pos (by omega), if_pos (by omega), e1, e2]
   rw [show marchlandref03_before.f (v x).f0 (v x).f1 (v x).f2 (v y).f0 (v y).f1 (v y).f2 = some (decide (kl x y)) from before_eq x y, Option.bind_some, if_neg (fun h => hc (of_decide_eq_true h))]
theorem sums_skip {X' : List S40} {i : Int} {x : S50} (hi : 0 ≤ i) (hi' : i < X'.length) (hx : rd_T40 X' i = v x) {c : Int} {r : List S40 × Bool} (C : List S50) : ∀ (B A : List S50), (∀ y ∈ B, ¬ ke y x) → A.length + B.length ≤ 8000000000000000000 →
  Ev (fun k => marchlandref03_sums.l1 k X' ((A ++ B ++ C).map v) i c ((A.length + B.length : Nat) : Int)) r → Ev (fun k => marchlandref03_sums.l1 k X' ((A ++ B ++ C).map v) i c (A.length : Int)) r := by
 intro B
 induction B with
 | nil => intro A _ _ h; simpa using h
 | cons y B ih =>
  intro A hB hl h
  simp only [List.length_cons] at hl
  have hy := hB y (by simp)
  obtain ⟨K, h1⟩ := ih (A ++ [y]) (fun z hz => hB z (by simp [hz])) (by simp; omega) (by
   have e : (A ++ [y]).length + B.length = A.length + (y :: B).length := by simp; omega
   rw [e]; simpa using h)
  refine ⟨K + 1, fun k hk => ?_⟩
  obtain ⟨k, rfl⟩ : ∃ m, k = m + 1 := ⟨k - 1, by omega⟩
  have h1 := h1 k (by omega); dsimp only at h1
  have eL : A ++ [y] ++ B ++ C = A ++ y :: B ++ C := by simp
  have lL : ((A ++ y :: B ++ C).map v).length = A.length + (B.length + 1) + C.length := by simp; omega
  have e1 : rd_T40 ((A ++ y :: B ++ C).map v) (A.length : Int) = v y := by
   have := rd4m A y (B ++ C) (i := (A.length : Int)) rfl
   simpa using this
  have ew : wrap64 ((A.length : Int) + 1) = ((A ++ [y]).length : Int) := by rw [w64s (by omega)]; simp
  rw [eL] at h1
  show marchlandref03_sums.l1 (k + 1) _ _ _ _ _ = _
  rw [marchlandref03_sums.l1, if_pos (by omega), if_pos (by omega), if_pos hi, if_pos hi', e1, hx, ew, h1]
  by_cases q0 : (v y).f0 = (v x).f0
  ·have q1 : ¬ (v y).f1 = (v x).f1 := fun q1 => hy ⟨q0, q1⟩
   rw [if_pos q0, if_neg q1]
  ·rw [if_neg q0]
theorem mem_split_ke {x : S50} : ∀ {G : List S50}, (∃ y ∈ G, ke y x) → Str G → ∃ A y B, G = A ++ y :: B ∧ ke y x ∧ (∀ a ∈ A, ¬ ke a x) ∧ (∀ b ∈ B, ¬ ke b x) ∧ (∀ a ∈ A, kl a x) := by
 intro G ⟨y, hy, k⟩ hs
 obtain ⟨A, B, rfl⟩ := List.append_of_mem hy
 obtain ⟨h1, h2, h3⟩ := List.pairwise_append.1 hs
 refine ⟨A, y, B, rfl, k, fun a ha => ?_, fun b hb => ?_, fun a ha => ?_⟩
 ·have := h3 a ha y (by simp); unfold kl ke at *; omega
 ·have := (List.pairwise_cons.1 h2).1 b hb; unfold kl ke at *; omega
 ·have := h3 a ha y (by simp); unfold kl ke at *; omega
/-- one element summed in -/
theorem sums_step {X' : List S40} {i : Int} {x : S50} (hi : 0 ≤ i) (hi' : i < X'.length) (hx : rd_T40 X' i = v x) {r : List S40 × Bool} {G : List S50} (hs : Str G) (hl : Short G.length)
  (h : Ev (fun k => marchlandref03_sums.l0 k X' ((ins x G).map v) (wrap64 (i + 1))) r) : Ev (fun k => marchlandref03_sums.l1 k X' (G.map v) i (-1) 0) r := by
 unfold Short at hl
 by_cases hk : ∃ y ∈ G, ke y x
 ·obtain ⟨A, y, B, rfl, ky, hA, hB, hAl⟩ := mem_split_ke hk hs
  have hl' : A.length + (B.length + 1) ≤ 5864062014634 := by simpa using hl
  have ei : ins x (A ++ y :: B) = A ++ plus y x :: B := by rw [ins_app _ hAl]; simp [ins, ky]
  rw [ei] at h
  have lL : ((A ++ y :: B).map v).length = A.length + (B.length + 1) := by simp
  have e1 : rd_T40 ((A ++ y :: B).map v) (A.length : Int) = v y := rd4m A y B rfl
  have ew : wrap64 ((A.length : Int) + 1) = ((A ++ [y]).length : Int) := by rw [w64s (by omega)]; simp
  have h1 := sums_skip hi hi' hx (c := -1) (r := r) (y :: B) A [] hA (by simp; omega)
  simp only [List.nil_append, List.length_nil, Nat.zero_add] at h1
  refine h1 ?_
  have h2 := sums_skip hi hi' hx (c := (A.length : Int)) (r := r) [] B (A ++ [y]) hB (by simp; omega)
  simp only [List.append_nil, List.append_assoc, List.singleton_append] at h2
  suffices h3 : Ev (fun k => marchlandref03_sums.l1 k X' ((A ++ y :: B).map v) i (A.length : Int) (((A ++ [y]).length + B.length : Nat) : Int)) r by
   obtain ⟨K, h2⟩ := h2 h3
   refine ⟨K + 1, fun k hk => ?_⟩
   obtain ⟨k, rfl⟩ : ∃ m, k = m + 1 := ⟨k - 1, by omega⟩
   have h2 := h2 k (by omega); dsimp only at h2
   show marchlandref03_sums.l1 (k + 1) _ _ _ _ _ = _
   rw [marchlandref03_sums.l1, if_pos (by omega), if_pos (by omega), if_pos hi, if_pos hi', e1, hx, ew, if_pos (show (v y).f0 = (v x).f0 from ky.1), if_pos (show (v y).f1 = (v x).f1 from ky.2)]
   exact h2
  have s1 : ((A ++ y :: B).map v).set (A.length : Int).toNat ⟨(v y).f0, (v y).f1, wrap64 ((v y).f2 + (v x).f2)⟩ = (A ++ plus y x :: B).map v := set4m A y B (plus y x) (by simp)
  refine Ev.step (fun k => ?_) h
  show marchlandref03_sums.l1 (k + 1) _ _ _ _ _ = _
  rw [marchlandref03_sums.l1, if_neg (by simp; omega), if_pos (by omega), if_pos (by omega), if_pos (by omega), if_pos hi, if_pos hi', e1, hx, s1]
 ·have hk' : ∀ y ∈ G, ¬ ke y x := fun y hy h => hk ⟨y, hy, h⟩
  have h1 := sums_skip hi hi' hx (c := -1) (r := r) [] G [] hk' (by simp; omega)
  simp only [List.nil_append, List.length_nil, Nat.zero_add, List.append_nil] at h1
  refine h1 ?_
  have h2 := sums_l2 X' i (r := r) G.length G x [] rfl (by omega) (by simpa using hs) (fun _ h => by cases h) hk' (by simpa using h)
  have e2 : (G.map v) ++ [(⟨(v x).f0, (v x).f1, (v x).f2⟩ : S40)] = (G ++ [x]).map v := by simp [v]
  refine Ev.step (fun k => ?_) h2
  show marchlandref03_sums.l1 (k + 1) _ _ _ _ _ = _
  have ew : wrap64 ((((G ++ [x]).map v).length : Int) - 1) = (G.length : Int) := by rw [show ((G ++ [x]).map v).length = G.length + 1 by simp]; exact w64p (by omega)
  rw [marchlandref03_sums.l1, if_neg (by simp), if_neg (by omega), if_pos hi, if_pos hi', if_pos (by simp; omega), hx, e2, Option.bind_some, ew]
theorem sums_l0 (X : List S50) (hl : Short X.length) : ∀ (r pre G : List S50), X = pre ++ r → Str G → G.length ≤ pre.length →
  Ev (fun k => marchlandref03_sums.l0 k (X.map v) (G.map v) (pre.length : Int)) (let T := r.foldl (fun a x => ins x a) G; if good T = true then ((fin T).map v, true) else ([], false)) := by
 unfold Short at hl
 intro r
 induction r with
 | nil =>
  intro pre G e hs hg
  have ll : X.length = pre.length := by rw [e]; simp
  refine Ev.step (f := fun k => marchlandref03_sums.l3 k (G.map v) [] 0) (fun k => ?_) (sums_l3 G (by unfold Short; omega) G [] [] rfl (by simp))
  show marchlandref03_sums.l0 (k + 1) _ _ _ = _
  rw [marchlandref03_sums.l0, if_neg (by simp; omega)]
 | cons x r ih =>
  intro pre G e hs hg
  have ll : X.length = pre.length + (r.length + 1) := by rw [e]; simp
  have lm : (X.map v).length = X.length := by simp
  have h := ih (pre ++ [x]) (ins x G) (by simp [e]) (ins_str hs) (by have := ins_len (x := x) (l := G); simp; omega)
  have ew : wrap64 ((pre.length : Int) + 1) = ((pre ++ [x]).length : Int) := by rw [w64s (by omega)]; simp
  rw [← ew] at h
  refine Ev.step (fun k => ?_) (sums_step (X' := X.map v) (i := (pre.length : Int)) (x := x) (by omega) (by omega) (by rw [e]; exact rd4m _ _ _ rfl) hs (by unfold Short; omega) h)
  show marchlandref03_sums.l0 (k + 1) _ _ _ = _
  rw [marchlandref03_sums.l0, if_pos (by omega)]
theorem sums_ev (X : List S50) (hl : Short X.length) : Ev (fun k => marchlandref03_sums.f k (X.map v)) (if good (tot X) = true then ((fin (tot X)).map v, true) else ([], false)) :=
 sums_l0 X hl X [] [] rfl List.Pairwise.nil (by simp)
/-! ### the reference's Pack and Right -/
end Go.Proofs.Ytgeldmhgbnamcaa.Pure
end
section
/- Plain laws of batches, fifth part: Of, Same, Fix. -/
namespace Go.Proofs.Ytgeldmhgbnamcaa.Pure
open Go.RowKit Go.Proofs.Ytgeldmhgbnamcaa.P Go.Proofs.YtgeldmhgbnamcaaW.PrintWords Go.Proofs.YtgeldmhgbnamcaaW.PrintLast
set_option linter.unusedVariables false
set_option linter.unusedSimpArgs false
/-- what a batch holds at a key -/
def ofv (X : List S50) (q : S50) : Int := match X.find? (fun y => decide (ke y q)) with
 | some y => y.f2
 | none => 0
theorem mid {i j : Nat} (h : i < j) (hj : j ≤ 4000000000000000000) : wrap64 ((IntKind.u64.wrap (wrap64 ((i : Int) + (j : Int)))) / 2) = ((i + (j - i) / 2 : Nat) : Int) := by
 have e : wrap64 ((i : Int) + (j : Int)) = ((i + j : Nat) : Int) := by unfold wrap64; omega
 have e2 : IntKind.u64.wrap ((i + j : Nat) : Int) = ((i + j : Nat) : Int) := by simp [IntKind.wrap, IntKind.bits, IntKind.signed]; omega
 rw [e, e2]; unfold wrap64; omega
theorem ofv_mem {X : List S50} {q : S50} (h : ofv X q ≠ 0) : ∃ y ∈ X, ke y q ∧ y.f2 = ofv X q := by
 unfold ofv at *
 split at h
 ·rename_i y hy
  exact ⟨y, List.mem_of_find?_eq_some hy, by simpa using List.find?_some hy, by simp⟩
 ·simp at h
theorem ofv_of_mem {X : List S50} (hs : Str X) {y : S50} (hy : y ∈ X) (b : Int) : ofv X ⟨y.f0, y.f1, b⟩ = y.f2 := by
 unfold ofv
 cases h : X.find? (fun z => decide (ke z ⟨y.f0, y.f1, b⟩)) with
 | none => have := List.find?_eq_none.1 h y hy; simp [ke] at this
 | some z =>
  have hz := List.mem_of_find?_eq_some h
  have kz : ke z ⟨y.f0, y.f1, b⟩ := by simpa using List.find?_some h
  have : z = y := by
   obtain ⟨A, B, rfl⟩ := List.append_of_mem hy
   obtain ⟨_, p2, p3⟩ := List.pairwise_append.1 hs
   rcases List.mem_append.1 hz with hz | hz
   ·have := p3 z hz y (by simp); unfold kl ke at *; simp at kz; omega
   ·rcases List.mem_cons.1 hz with rfl | hz
    ·rfl
    ·have := (List.pairwise_cons.1 p2).1 z hz; unfold kl ke at *; simp at kz; omega
  simp [this]
/-! ### Fix -/
def fix1 (x : S40) : S50 := ⟨wrap64 (Int.tmod (IntKind.u64.wrap x.f0) 64), Int.tmod x.f1 18446744073709551615, Int.tmod x.f2 1000⟩
def sumk (l : List S50) : List S50 := if good (tot l) = true then fin (tot l) else []
theorem fix_l0 (X : List S40) : ∀ (r pre : List S40), X = pre ++ r → pre.length ≤ 12 → Ev (fun k => marchlandref03_Fix.l0 k X ((pre.map fix1).map v) (pre.length : Int)) ((sumk ((X.take 12).map fix1)).map v) := by
 have fin_ : ∀ pre : List S40, pre.length ≤ 12 → Ev (fun k => (marchlandref03_sums.f k ((pre.map fix1).map v)).bind fun b => some b.1) ((sumk (pre.map fix1)).map v) := by
  intro pre h
  have := Ev.bind (sums_ev (pre.map fix1) (by unfold Short; simp; omega)) (Ev.now _) (f := fun _ b => some b.1)
  unfold sumk
  split
  ·rename_i g; rw [if_pos g] at this; exact this
  ·rename_i g; rw [if_neg g] at this; exact this
 intro r
 induction r with
 | nil =>
  intro pre e hp
  obtain ⟨K, h⟩ := fin_ pre hp
  refine ⟨K + 1, fun k hk => ?_⟩
  obtain ⟨k, rfl⟩ : ∃ m, k = m + 1 := ⟨k - 1, by omega⟩
  have h := h k (by omega); dsimp only at h
  have e' : X.take 12 = pre := by rw [e, List.append_nil]; exact List.take_of_length_le hp
  show marchlandref03_Fix.l0 (k + 1) _ _ _ = _
  rw [marchlandref03_Fix.l0, if_neg (by subst e; simp), e']
  exact h
 | cons x r ih =>
  intro pre e hp
  have ll : X.length = pre.length + (r.length + 1) := by rw [e]; simp
  by_cases h12 : pre.length = 12
  ·obtain ⟨K, h⟩ := fin_ pre hp
   refine ⟨K + 1, fun k hk => ?_⟩
   obtain ⟨k, rfl⟩ : ∃ m, k = m + 1 := ⟨k - 1, by omega⟩
   have h := h k (by omega); dsimp only at h
   have e' : X.take 12 = pre := by rw [e, ← h12]; simp
   show marchlandref03_Fix.l0 (k + 1) _ _ _ = _
   rw [marchlandref03_Fix.l0, if_pos (by omega), if_neg (by omega), e']
   exact h
  ·obtain ⟨K, h⟩ := ih (pre ++ [x]) (by simp [e]) (by simp; omega)
   refine ⟨K + 1, fun k hk => ?_⟩
   obtain ⟨k, rfl⟩ : ∃ m, k = m + 1 := ⟨k - 1, by omega⟩
   have h := h k (by omega); dsimp only at h
   have e1 : rd_T40 X (pre.length : Int) = x := by rw [e]; exact rd4 _ _ _ rfl
   have ew : wrap64 ((pre.length : Int) + 1) = ((pre ++ [x]).length : Int) := by rw [w64s (by omega)]; simp
   have em : (pre.map fix1).map v ++ [(⟨wrap64 (Int.tmod (IntKind.u64.wrap x.f0) 64), Int.tmod x.f1 18446744073709551615, Int.tmod x.f2 1000⟩ : S40)] = ((pre ++ [x]).map fix1).map v := by simp [v, fix1]
   show marchlandref03_Fix.l0 (k + 1) _ _ _ = _
   rw [marchlandref03_Fix.l0, if_pos (by omega), if_pos (by omega), if_pos (by omega), if_pos (by simp; omega), e1, em, ew]
   exact h
theorem fix_ev (X : List S40) : Ev (fun k => marchlandref03_Fix.f k X) ((sumk ((X.take 12).map fix1)).map v) := fix_l0 X X [] rfl (by simp)
theorem sumk_str (l : List S50) : Str (sumk l) := by unfold sumk; split; exact (tot_str l).sublist List.filter_sublist; exact List.Pairwise.nil
theorem sumk_len (l : List S50) : (sumk l).length ≤ l.length := by
 unfold sumk; split
 ·have t1 := fin_len (tot l); have t2 := tot_len l; omega
 ·simp
theorem sumk_nz {l : List S50} {x : S50} (h : x ∈ sumk l) : x.f2 ≠ 0 := by
 unfold sumk at h; split at h
 ·exact of_decide_eq_true (List.mem_filter.1 h).2
 ·cases h
theorem wrongv_key {x : S50} (h0 : 0 ≤ x.f0 ∧ x.f0 < 64) (h1 : x.f1 ≠ 18446744073709551615) (h2 : wi x.f2) : wrongv x = 0 := by unfold wrongv; rw [if_neg (by omega), if_neg h1, if_pos h2]
theorem fix1_key (x : S40) (h : wfC x) : (0 ≤ (fix1 x).f0 ∧ (fix1 x).f0 < 64) ∧ (fix1 x).f1 ≠ 18446744073709551615 := by
 obtain ⟨_, ⟨a, b⟩, _⟩ := h
 have hp : 0 ≤ IntKind.u64.wrap x.f0 := by simp [IntKind.wrap, IntKind.bits, IntKind.signed]; omega
 have h1 := Int.tmod_lt_of_pos (IntKind.u64.wrap x.f0) (b := 64) (by omega)
 have h2 := Int.tmod_nonneg (b := 64) hp (a := IntKind.u64.wrap x.f0)
 have h3 := Int.tmod_lt_of_pos x.f1 (b := 18446744073709551615) (by omega)
 simp only [fix1]
 generalize Int.tmod (IntKind.u64.wrap x.f0) 64 = z at *
 have : wrap64 z = z := by unfold wrap64; omega
 rw [this]
 exact ⟨⟨h2, h1⟩, by omega⟩
theorem sumk_right {l : List S50} (h : ∀ x ∈ l, (0 ≤ x.f0 ∧ x.f0 < 64) ∧ x.f1 ≠ 18446744073709551615) : ∀ x ∈ sumk l, wrongv x = 0 := by
 intro x hx
 unfold sumk at hx; split at hx
 ·rename_i g
  obtain ⟨hm, hz⟩ := List.mem_filter.1 hx
  obtain ⟨y, hy, ek⟩ := tot_mem hm
  have hy := h y hy
  exact wrongv_key (by rw [ek.1]; exact hy.1) (by rw [ek.2]; exact hy.2) (of_decide_eq_true (List.all_eq_true.1 g x hm))
 ·cases hx
/-- a batch that is right -/
def Rt (X : List S50) : Prop := Str X ∧ (∀ x ∈ X, wrongv x = 0 ∧ x.f2 ≠ 0)
theorem sumk_rt {l : List S50} (h : ∀ x ∈ l, (0 ≤ x.f0 ∧ x.f0 < 64) ∧ x.f1 ≠ 18446744073709551615) : Rt (sumk l) := ⟨sumk_str l, fun x hx => ⟨sumk_right h x hx, sumk_nz hx⟩⟩
theorem fix_rt {X : List S40} (h : ∀ y ∈ X, wfC y) : Rt (sumk ((X.take 12).map fix1)) := sumk_rt (fun x hx => by
 obtain ⟨y, hy, rfl⟩ := List.mem_map.1 hx
 exact fix1_key y (h y (List.mem_of_mem_take hy)))
end Go.Proofs.Ytgeldmhgbnamcaa.Pure
end
section
/- Plain laws of the program's stable sort, second part: exchanging and turning stretches, the symmetric merge, lists of fewer than forty entries. -/
namespace Go.Proofs.Ytgeldmhgbnamcaa.Pure
open Go.RowKit Go.Proofs.Ytgeldmhgbnamcaa.P Go.Proofs.YtgeldmhgbnamcaaW.PrintWords Go.Proofs.YtgeldmhgbnamcaaW.PrintLast
set_option linter.unusedVariables false
set_option linter.unusedSimpArgs false
/-- small enough for every sum of two indexes -/
abbrev Fits (n : Nat) : Prop := n ≤ 1000000000000000000
theorem swap2 (p q r : List S50) (x y : S50) {i j : Nat} (hi : i = p.length) (hj : j = p.length + 1 + q.length) : ((p ++ x :: (q ++ y :: r)).set i y).set j x = p ++ y :: (q ++ x :: r) := by
 rw [set5 p x (q ++ y :: r) y hi]
 have := set5 (p ++ y :: q) y r x (n := j) (by simp; omega)
 simpa using this
/-! ### swapRange -/
theorem swap_l0 (P M D : List S50) {a b n : Int} (N : Nat) (hn : n = N) (ha : a = P.length) (hb : b = P.length + N + M.length) (hf : Fits (P.length + N + M.length + N)) : ∀ (A2 B2 A1 B1 : List S50), A1.length = B1.length → A2.length = B2.length → A1.length + A2.length = N →
  Ev (fun k => batch_Change_99.l0 k (P ++ (B1 ++ A2 ++ (M ++ (A1 ++ B2 ++ D)))) a b n (A1.length : Int)) (P ++ (B1 ++ B2 ++ (M ++ (A1 ++ A2 ++ D)))) := by
 unfold Fits at hf
 intro A2
 induction A2 with
 | nil =>
  intro B2 A1 B1 h1 h2 h3
  obtain rfl : B2 = [] := List.eq_nil_of_length_eq_zero h2.symm
  refine ⟨1, fun k hk => ?_⟩
  obtain ⟨k, rfl⟩ : ∃ m, k = m + 1 := ⟨k - 1, by omega⟩
  show batch_Change_99.l0 (k + 1) _ _ _ _ _ = _
  simp only [List.length_nil] at h3
  rw [batch_Change_99.l0, if_neg (by omega)]
 | cons x A2 ih =>
  intro B2 A1 B1 h1 h2 h3
  cases B2 with
  | nil => simp at h2
  | cons y B2 =>
   simp only [List.length_cons] at h2 h3
   obtain ⟨K, h⟩ := ih B2 (A1 ++ [x]) (B1 ++ [y]) (by simp; omega) (by omega) (by simp; omega)
   refine ⟨K + 1, fun k hk => ?_⟩
   obtain ⟨k, rfl⟩ : ∃ m, k = m + 1 := ⟨k - 1, by omega⟩
   have h := h k (by omega); dsimp only at h
   have eL : P ++ (B1 ++ x :: A2 ++ (M ++ (A1 ++ y :: B2 ++ D))) = (P ++ B1) ++ x :: ((A2 ++ M ++ A1) ++ y :: (B2 ++ D)) := by simp
   have eL2 : P ++ (B1 ++ [y] ++ A2 ++ (M ++ (A1 ++ [x] ++ B2 ++ D))) = (P ++ B1) ++ y :: ((A2 ++ M ++ A1) ++ x :: (B2 ++ D)) := by simp
   have ll : ((P ++ B1) ++ x :: ((A2 ++ M ++ A1) ++ y :: (B2 ++ D))).length = P.length + B1.length + 1 + A2.length + M.length + A1.length + 1 + B2.length + D.length := by simp; omega
   have wb : wrap64 (b + (A1.length : Int)) = ((P.length + N + M.length + A1.length : Nat) : Int) := by unfold wrap64; omega
   have wa : wrap64 (a + (A1.length : Int)) = ((P.length + A1.length : Nat) : Int) := by unfold wrap64; omega
   have e1 : rd_T50 ((P ++ B1) ++ x :: ((A2 ++ M ++ A1) ++ y :: (B2 ++ D))) ((P.length + A1.length : Nat) : Int) = x := rd5 _ _ _ (by simp; omega)
   have e2 : rd_T50 ((P ++ B1) ++ x :: ((A2 ++ M ++ A1) ++ y :: (B2 ++ D))) ((P.length + N + M.length + A1.length : Nat) : Int) = y := by
    have := rd5 (P ++ B1 ++ x :: (A2 ++ M ++ A1)) y (B2 ++ D) (i := ((P.length + N + M.length + A1.length : Nat) : Int)) (by simp; omega)
    simpa using this
   have s := swap2 (P ++ B1) (A2 ++ M ++ A1) (B2 ++ D) x y (i := ((P.length + A1.length : Nat) : Int).toNat) (j := ((P.length + N + M.length + A1.length : Nat) : Int).toNat) (by simp; omega) (by simp; omega)
   have ew : wrap64 ((A1.length : Int) + 1) = ((A1 ++ [x]).length : Int) := by rw [w64s (by omega)]; simp
   show batch_Change_99.l0 (k + 1) _ _ _ _ _ = _
   rw [eL, batch_Change_99.l0, if_pos (by omega), wb, wa, if_pos (by omega), if_pos (by omega), if_pos (by omega), if_pos (by omega), e1, e2, ew]
   rw [show (⟨x.f0, x.f1, x.f2⟩ : S50) = x from rfl, show (⟨y.f0, y.f1, y.f2⟩ : S50) = y from rfl, s, ← eL2, h]
   simp
theorem swap_ev (P A M B D : List S50) (h : A.length = B.length) (hf : Fits (P.length + A.length + M.length + A.length)) {a b n : Int} (ha : a = P.length) (hb : b = P.length + A.length + M.length) (hn : n = A.length) :
  Ev (fun k => batch_Change_99.f k (P ++ (A ++ (M ++ (B ++ D)))) a b n) (P ++ (B ++ (M ++ (A ++ D)))) := by
 have t := swap_l0 P M D A.length hn ha hb hf A B [] [] rfl h (by simp)
 simp only [List.nil_append, List.append_assoc, List.length_nil] at t
 exact t
/-! ### rotate -/
theorem rot_l0 (m : Int) : ∀ (n : Nat) (P U V D : List S50), U.length + V.length ≤ n → U ≠ [] → V ≠ [] → Fits (P.length + U.length + V.length) → m = P.length + U.length →
  Ev (fun k => batch_Change_98.l0 k (P ++ (U ++ (V ++ D))) m (U.length : Int) (V.length : Int)) (P ++ (V ++ (U ++ D))) := by
 intro n
 induction n with
 | zero => intro P U V D h hU hV; exact absurd (List.eq_nil_of_length_eq_zero (by omega)) hU
 | succ n ih =>
  intro P U V D h hU hV hf hm
  have u0 := List.length_pos_iff.2 hU
  have v0 := List.length_pos_iff.2 hV
  have hf' := hf
  unfold Fits at hf'
  have w1 : wrap64 (m - (U.length : Int)) = (P.length : Int) := by unfold wrap64; omega
  rcases Nat.lt_trichotomy U.length V.length with hc | hc | hc
  ·-- U shorter
   have eV : V = V.take (V.length - U.length) ++ V.drop (V.length - U.length) := by simp
   have l1 : (V.take (V.length - U.length)).length = V.length - U.length := by simp
   have l2 : (V.drop (V.length - U.length)).length = U.length := by simp; omega
   generalize V.take (V.length - U.length) = V1 at *
   generalize V.drop (V.length - U.length) = V2 at *
   obtain ⟨K, hs⟩ := swap_ev P U V1 V2 D l2.symm (by unfold Fits; omega) (a := (P.length : Int)) (b := ((P.length + U.length + V1.length : Nat) : Int)) (n := (U.length : Int)) rfl (by omega) rfl
   obtain ⟨K1, h1⟩ := ih P V2 V1 (U ++ D) (by omega) (by intro e; rw [e] at l2; simp at l2; omega) (by intro e; rw [e] at l1; simp at l1; omega) (by unfold Fits; omega) (by omega)
   refine ⟨K + K1 + 1, fun k hk => ?_⟩
   obtain ⟨k, rfl⟩ : ∃ m, k = m + 1 := ⟨k - 1, by omega⟩
   have hs := hs k (by omega); have h1 := h1 k (by omega); dsimp only at hs h1
   have lV : V.length = V1.length + V2.length := by rw [eV]; simp
   have w2 : wrap64 (wrap64 (m + (V.length : Int)) - (U.length : Int)) = ((P.length + U.length + V1.length : Nat) : Int) := by unfold wrap64; omega
   have w3 : wrap64 ((V.length : Int) - (U.length : Int)) = (V1.length : Int) := by unfold wrap64; omega
   show batch_Change_98.l0 (k + 1) _ _ _ _ = _
   rw [batch_Change_98.l0, if_neg (by omega), if_neg (by omega), w1, w2, w3]
   have e1 : P ++ (U ++ (V ++ D)) = P ++ (U ++ (V1 ++ (V2 ++ D))) := by rw [eV]; simp
   rw [e1, hs, Option.bind_some, show (U.length : Int) = (V2.length : Int) by omega, h1, eV]
   simp
  ·obtain ⟨K, hs⟩ := swap_ev P U [] V D hc (by unfold Fits; simp; omega) (a := (P.length : Int)) (b := m) (n := (U.length : Int)) rfl (by simp; omega) rfl
   refine ⟨K + 1, fun k hk => ?_⟩
   obtain ⟨k, rfl⟩ : ∃ m, k = m + 1 := ⟨k - 1, by omega⟩
   have hs := hs k (by omega); dsimp only at hs
   show batch_Change_98.l0 (k + 1) _ _ _ _ = _
   rw [batch_Change_98.l0, if_pos (by omega), w1]
   simp only [List.nil_append] at hs
   rw [hs]; rfl
  ·have eU : U = U.take V.length ++ U.drop V.length := by simp
   have l1 : (U.take V.length).length = V.length := by simp; omega
   have l2 : (U.drop V.length).length = U.length - V.length := by simp
   generalize U.take V.length = U1 at *
   generalize U.drop V.length = U2 at *
   obtain ⟨K, hs⟩ := swap_ev P U1 U2 V D l1 (by unfold Fits; omega) (a := (P.length : Int)) (b := m) (n := (V.length : Int)) rfl (by omega) (by omega)
   obtain ⟨K1, h1⟩ := ih (P ++ V) U2 U1 D (by omega) (by intro e; rw [e] at l2; simp at l2; omega) (by intro e; rw [e] at l1; simp at l1; omega) (by unfold Fits; simp; omega) (by simp; omega)
   refine ⟨K + K1 + 1, fun k hk => ?_⟩
   obtain ⟨k, rfl⟩ : ∃ m, k = m + 1 := ⟨k - 1, by omega⟩
   have hs := hs k (by omega); have h1 := h1 k (by omega); dsimp only at hs h1
   have w3 : wrap64 ((U.length : Int) - (V.length : Int)) = (U2.length : Int) := by unfold wrap64; omega
   show batch_Change_98.l0 (k + 1) _ _ _ _ = _
   rw [batch_Change_98.l0, if_neg (by omega), if_pos (by omega), w1, w3]
   have e1 : P ++ (U ++ (V ++ D)) = P ++ (U1 ++ (U2 ++ (V ++ D))) := by rw [eU]; simp
   have e2 : P ++ (V ++ (U2 ++ (U1 ++ D))) = (P ++ V) ++ (U2 ++ (U1 ++ D)) := by simp
   rw [e1, hs, Option.bind_some, e2, show (V.length : Int) = (U1.length : Int) by omega, h1, eU]
   simp
theorem rot_ev (P U V D : List S50) (hU : U ≠ []) (hV : V ≠ []) (hf : Fits (P.length + U.length + V.length)) {a m b : Int} (ha : a = P.length) (hm : m = P.length + U.length) (hb : b = P.length + U.length + V.length) :
  Ev (fun k => batch_Change_98.f k (P ++ (U ++ (V ++ D))) a m b) (P ++ (V ++ (U ++ D))) := by
 refine Ev.congr (fun k => ?_) (rot_l0 m (U.length + V.length) P U V D (Nat.le_refl _) hU hV hf hm)
 show batch_Change_98.f k _ _ _ _ = _
 unfold Fits at hf
 rw [batch_Change_98.f, show wrap64 (m - a) = (U.length : Int) by unfold wrap64; omega, show wrap64 (b - m) = (V.length : Int) by unfold wrap64; omega]
end Go.Proofs.Ytgeldmhgbnamcaa.Pure
end
section
/- Plain laws of the program's stable sort, third part: the symmetric merge. -/
namespace Go.Proofs.Ytgeldmhgbnamcaa.Pure
open Go.RowKit Go.Proofs.Ytgeldmhgbnamcaa.P Go.Proofs.YtgeldmhgbnamcaaW.PrintWords Go.Proofs.YtgeldmhgbnamcaaW.PrintLast
set_option linter.unusedVariables false
set_option linter.unusedSimpArgs false
/-- A search by halves, whatever it asks. -/
theorem bsearch {α : Type} (F : Nat → Int → Int → Option α) (q : Nat → Prop) (lo hi : Nat)
  (hstep : ∀ i j h : Nat, lo ≤ i → i ≤ h → h < j → j ≤ hi → h = i + (j - i) / 2 → ∀ res, (q h → Ev (fun k => F k i h) res) → (¬ q h → Ev (fun k => F k ((h + 1 : Nat) : Int) j) res) → Ev (fun k => F k i j) res) :
  ∀ n i j : Nat, j - i ≤ n → lo ≤ i → i ≤ j → j ≤ hi → ∃ t : Nat, i ≤ t ∧ t ≤ j ∧ (t = i ∨ ¬ q (t - 1)) ∧ (t = j ∨ q t) ∧ ∀ res, Ev (fun k => F k t t) res → Ev (fun k => F k i j) res := by
 intro n
 induction n with
 | zero =>
  intro i j h1 h2 h3 h4
  obtain rfl : i = j := by omega
  exact ⟨i, by omega, by omega, .inl rfl, .inl rfl, fun _ h => h⟩
 | succ n ih =>
  intro i j h1 h2 h3 h4
  by_cases hij : i = j
  ·subst hij; exact ⟨i, by omega, by omega, .inl rfl, .inl rfl, fun _ h => h⟩
  have hh : i + (j - i) / 2 < j := by omega
  generalize eh : i + (j - i) / 2 = h at hh
  have hi' : i ≤ h := by omega
  by_cases hq : q h
  ·obtain ⟨t, a1, a2, a3, a4, a5⟩ := ih i h (by omega) h2 hi' (by omega)
   refine ⟨t, a1, by omega, a3, ?_, fun res hr => hstep i j h h2 hi' hh h4 eh.symm res (fun _ => a5 res hr) (fun k => absurd hq k)⟩
   rcases a4 with rfl | a4
   ·exact .inr hq
   ·exact .inr a4
  ·obtain ⟨t, a1, a2, a3, a4, a5⟩ := ih (h + 1) j (by omega) (by omega) (by omega) h4
   refine ⟨t, by omega, a2, ?_, a4, fun res hr => hstep i j h h2 hi' hh h4 eh.symm res (fun k => absurd k hq) (fun _ => a5 res hr)⟩
   rcases a3 with rfl | a3
   ·exact .inr hq
   ·exact .inr a3
/-- reading at a natural index -/
def g (X : List S50) (i : Nat) : S50 := rd_T50 X (i : Int)
theorem g_at (p : List S50) (x : S50) (q : List S50) {i : Nat} (h : i = p.length) : g (p ++ x :: q) i = x := rd5 p x q (by omega)
theorem mid2 {i j h : Nat} (hh : h = i + (j - i) / 2) (h2 : i < j) (hj : j ≤ 4000000000000000000) : wrap64 ((IntKind.u64.wrap (wrap64 ((i : Int) + (j : Int)))) / 2) = (h : Int) := by rw [mid h2 hj, hh]
theorem s0_step (X : List S50) (a : Nat) (ha : a < X.length) (hX : Fits X.length) (i j h : Nat) (h1 : i ≤ h) (h2 : h < j) (h3 : j ≤ X.length) (hh : h = i + (j - i) / 2) (res : List S50)
  (y1 : ¬ kl (g X h) (g X a) → Ev (fun k => batch_Change_96.l0 k X a i h) res) (y2 : ¬ ¬ kl (g X h) (g X a) → Ev (fun k => batch_Change_96.l0 k X a ((h + 1 : Nat) : Int) j) res) : Ev (fun k => batch_Change_96.l0 k X a i j) res := by
 unfold Fits at hX
 obtain ⟨K, o⟩ := order_at (g X h) (g X a)
 have hm := mid2 hh (by omega) (by omega)
 by_cases hk : kl (g X h) (g X a)
 ·obtain ⟨K1, h1'⟩ := y2 (fun c => c hk)
  refine ⟨K + K1 + 1, fun k hk' => ?_⟩
  obtain ⟨k, rfl⟩ : ∃ m, k = m + 1 := ⟨k - 1, by omega⟩
  have o := o k (by omega); have h1' := h1' k (by omega); dsimp only [g] at o h1' hk
  show batch_Change_96.l0 (k + 1) _ _ _ _ = _
  rw [batch_Change_96.l0, if_pos (by omega), hm, if_pos (by omega), if_pos (by omega), if_pos (by omega), if_pos (by omega), o, Option.bind_some, if_pos (ordv_neg.2 hk), w64s (by omega)]
  exact h1'
 ·obtain ⟨K1, h1'⟩ := y1 hk
  refine ⟨K + K1 + 1, fun k hk' => ?_⟩
  obtain ⟨k, rfl⟩ : ∃ m, k = m + 1 := ⟨k - 1, by omega⟩
  have o := o k (by omega); have h1' := h1' k (by omega); dsimp only [g] at o h1' hk
  show batch_Change_96.l0 (k + 1) _ _ _ _ = _
  rw [batch_Change_96.l0, if_pos (by omega), hm, if_pos (by omega), if_pos (by omega), if_pos (by omega), if_pos (by omega), o, Option.bind_some, if_neg (fun c => hk (ordv_neg.1 c))]
  exact h1'
theorem s2_step (X : List S50) (m : Nat) (hm' : m < X.length) (hX : Fits X.length) (i j h : Nat) (h1 : i ≤ h) (h2 : h < j) (h3 : j ≤ X.length) (hh : h = i + (j - i) / 2) (res : List S50)
  (y1 : kl (g X m) (g X h) → Ev (fun k => batch_Change_96.l2 k X m i h) res) (y2 : ¬ kl (g X m) (g X h) → Ev (fun k => batch_Change_96.l2 k X m ((h + 1 : Nat) : Int) j) res) : Ev (fun k => batch_Change_96.l2 k X m i j) res := by
 unfold Fits at hX
 obtain ⟨K, o⟩ := order_at (g X m) (g X h)
 have hm := mid2 hh (by omega) (by omega)
 by_cases hk : kl (g X m) (g X h)
 ·obtain ⟨K1, h1'⟩ := y1 hk
  refine ⟨K + K1 + 1, fun k hk' => ?_⟩
  obtain ⟨k, rfl⟩ : ∃ m, k = m + 1 := ⟨k - 1, by omega⟩
  have o := o k (by omega); have h1' := h1' k (by omega); dsimp only [g] at o h1' hk
  show batch_Change_96.l2 (k + 1) _ _ _ _ = _
  rw [batch_Change_96.l2, if_pos (by omega), hm, if_pos (by omega), if_pos (by omega), if_pos (by omega), if_pos (by omega), o, Option.bind_some, if_pos (ordv_neg.2 hk)]
  exact h1'
 ·obtain ⟨K1, h1'⟩ := y2 hk
  refine ⟨K + K1 + 1, fun k hk' => ?_⟩
  obtain ⟨k, rfl⟩ : ∃ m, k = m + 1 := ⟨k - 1, by omega⟩
  have o := o k (by omega); have h1' := h1' k (by omega); dsimp only [g] at o h1' hk
  show batch_Change_96.l2 (k + 1) _ _ _ _ = _
  rw [batch_Change_96.l2, if_pos (by omega), hm, if_pos (by omega), if_pos (by omega), if_pos (by omega), if_pos (by omega), o, Option.bind_some, if_neg (fun c => hk (ordv_neg.1 c)), w64s (by omega)]
  exact h1'
theorem s4_step (X : List S50) (p : Nat) (hX : Fits X.length) {x1 x2 x3 x18 x19 : Int} (i j h : Nat) (h1 : i ≤ h) (h2 : h < j) (h3 : j ≤ X.length) (hp : h ≤ p ∧ p - h < X.length) (hh : h = i + (j - i) / 2) (res : List S50)
  (y1 : kl (g X (p - h)) (g X h) → Ev (fun k => batch_Change_96.l4 k X x1 x2 x3 x18 x19 i h p) res) (y2 : ¬ kl (g X (p - h)) (g X h) → Ev (fun k => batch_Change_96.l4 k X x1 x2 x3 x18 x19 ((h + 1 : Nat) : Int) j p) res) : Ev (fun k => batch_Change_96.l4 k X x1 x2 x3 x18 x19 i j p) res := by
 unfold Fits at hX
 obtain ⟨K, o⟩ := order_at (g X (p - h)) (g X h)
 have hm := mid2 hh (by omega) (by omega)
 have hd : wrap64 ((p : Int) - (h : Int)) = ((p - h : Nat) : Int) := by unfold wrap64; omega
 by_cases hk : kl (g X (p - h)) (g X h)
 ·obtain ⟨K1, h1'⟩ := y1 hk
  refine ⟨K + K1 + 1, fun k hk' => ?_⟩
  obtain ⟨k, rfl⟩ : ∃ m, k = m + 1 := ⟨k - 1, by omega⟩
  have o := o k (by omega); have h1' := h1' k (by omega); dsimp only [g] at o h1' hk
  show batch_Change_96.l4 (k + 1) _ _ _ _ _ _ _ _ _ = _
  rw [batch_Change_96.l4, if_pos (by omega), hm, hd, if_pos (by omega), if_pos (by omega), if_pos (by omega), if_pos (by omega), o, Option.bind_some, if_pos (ordv_neg.2 hk)]
  exact h1'
 ·obtain ⟨K1, h1'⟩ := y2 hk
  refine ⟨K + K1 + 1, fun k hk' => ?_⟩
  obtain ⟨k, rfl⟩ : ∃ m, k = m + 1 := ⟨k - 1, by omega⟩
  have o := o k (by omega); have h1' := h1' k (by omega); dsimp only [g] at o h1' hk
  show batch_Change_96.l4 (k + 1) _ _ _ _ _ _ _ _ _ = _
  rw [batch_Change_96.l4, if_pos (by omega), hm, hd, if_pos (by omega), if_pos (by omega), if_pos (by omega), if_pos (by omega), o, Option.bind_some, if_neg (fun c => hk (ordv_neg.1 c)), w64s (by omega)]
  exact h1'
/-! ### one entry moved -/
theorem move_right (i : Int) (x : S50) : ∀ (R P D : List S50), Fits (P.length + R.length + 2) → i = P.length + R.length + 1 → Ev (fun k => batch_Change_96.l1 k (P ++ x :: (R ++ D)) i (P.length : Int)) (P ++ (R ++ x :: D)) := by
 intro R
 induction R with
 | nil =>
  intro P D hf hi
  unfold Fits at hf
  refine ⟨1, fun k hk => ?_⟩
  obtain ⟨k, rfl⟩ : ∃ m, k = m + 1 := ⟨k - 1, by omega⟩
  show batch_Change_96.l1 (k + 1) _ _ _ = _
  simp only [List.length_nil] at hi hf
  rw [batch_Change_96.l1, if_neg]
  ·simp
  ·have : wrap64 (i - 1) = P.length := by unfold wrap64; omega
   omega
 | cons y R ih =>
  intro P D hf hi
  unfold Fits at hf
  simp only [List.length_cons] at hf hi
  obtain ⟨K, h⟩ := ih (P ++ [y]) D (by unfold Fits; simp; omega) (by simp; omega)
  refine ⟨K + 1, fun k hk => ?_⟩
  obtain ⟨k, rfl⟩ : ∃ m, k = m + 1 := ⟨k - 1, by omega⟩
  have h := h k (by omega); dsimp only at h
  have w0 : wrap64 (i - 1) = i - 1 := by unfold wrap64; omega
  have w1 : wrap64 ((P.length : Int) + 1) = ((P.length + 1 : Nat) : Int) := w64s (by omega)
  have ll : (P ++ x :: y :: (R ++ D)).length = P.length + 2 + R.length + D.length := by simp; omega
  have e1 : rd_T50 (P ++ x :: y :: (R ++ D)) (P.length : Int) = x := rd5 _ _ _ rfl
  have e2 : rd_T50 (P ++ x :: y :: (R ++ D)) ((P.length + 1 : Nat) : Int) = y := by
   have := rd5 (P ++ [x]) y (R ++ D) (i := ((P.length + 1 : Nat) : Int)) (by simp)
   simpa using this
  have s := swap2 P [] (R ++ D) x y (i := (P.length : Int).toNat) (j := ((P.length + 1 : Nat) : Int).toNat) (by simp) (by simp)
  simp only [List.nil_append] at s
  show batch_Change_96.l1 (k + 1) _ _ _ = _
  rw [List.cons_append, batch_Change_96.l1, w0, w1, if_pos (by omega), if_pos (by omega), if_pos (by omega), if_pos (by omega), if_pos (by omega), e1, e2]
  rw [show (⟨x.f0, x.f1, x.f2⟩ : S50) = x from rfl, show (⟨y.f0, y.f1, y.f2⟩ : S50) = y from rfl, s]
  have e3 : P ++ y :: x :: (R ++ D) = (P ++ [y]) ++ x :: (R ++ D) := by simp
  have e4 : ((P.length + 1 : Nat) : Int) = ((P ++ [y]).length : Int) := by simp
  rw [e3, e4, h]; simp
theorem move_left (i : Int) (y : S50) : ∀ (n : Nat) (L P D : List S50), L.length = n → Fits (P.length + n + 2) → i = P.length → Ev (fun k => batch_Change_96.l3 k (P ++ (L ++ y :: D)) i ((P.length + n : Nat) : Int)) (P ++ y :: (L ++ D)) := by
 intro n
 induction n with
 | zero =>
  intro L P D hL hf hi
  obtain rfl : L = [] := List.eq_nil_of_length_eq_zero hL
  refine ⟨1, fun k hk => ?_⟩
  obtain ⟨k, rfl⟩ : ∃ m, k = m + 1 := ⟨k - 1, by omega⟩
  show batch_Change_96.l3 (k + 1) _ _ _ = _
  rw [batch_Change_96.l3, if_neg (by omega)]
  simp
 | succ n ih =>
  intro L P D hL hf hi
  unfold Fits at hf
  rcases List.eq_nil_or_concat L with rfl | ⟨L', x, rfl⟩
  ·simp at hL
  simp only [List.concat_eq_append] at hL ⊢
  have hL' : L'.length = n := by simpa using hL
  obtain ⟨K, h⟩ := ih L' P (x :: D) hL' (by unfold Fits; omega) hi
  refine ⟨K + 1, fun k hk => ?_⟩
  obtain ⟨k, rfl⟩ : ∃ m, k = m + 1 := ⟨k - 1, by omega⟩
  have h := h k (by omega); dsimp only at h
  have eL : P ++ (L' ++ [x] ++ y :: D) = (P ++ L') ++ x :: (y :: D) := by simp
  have ll : ((P ++ L') ++ x :: (y :: D)).length = P.length + n + 2 + D.length := by simp; omega
  have w1 : wrap64 (((P.length + (n + 1) : Nat) : Int) - 1) = ((P.length + n : Nat) : Int) := by unfold wrap64; omega
  have e1 : rd_T50 ((P ++ L') ++ x :: (y :: D)) ((P.length + n : Nat) : Int) = x := rd5 _ _ _ (by simp; omega)
  have e2 : rd_T50 ((P ++ L') ++ x :: (y :: D)) ((P.length + (n + 1) : Nat) : Int) = y := by
   have := rd5 (P ++ L' ++ [x]) y D (i := ((P.length + (n + 1) : Nat) : Int)) (by simp; omega)
   simpa using this
  have s : (((P ++ L') ++ x :: (y :: D)).set ((P.length + (n + 1) : Nat) : Int).toNat x).set ((P.length + n : Nat) : Int).toNat y = (P ++ L') ++ y :: (x :: D) := by
   have a := set5 (P ++ L' ++ [x]) y D x (n := ((P.length + (n + 1) : Nat) : Int).toNat) (by simp; omega)
   have b := set5 (P ++ L') x (x :: D) y (n := ((P.length + n : Nat) : Int).toNat) (by simp; omega)
   have a' : ((P ++ L') ++ x :: (y :: D)).set ((P.length + (n + 1) : Nat) : Int).toNat x = (P ++ L') ++ x :: (x :: D) := by simpa using a
   rw [a', b]
  show batch_Change_96.l3 (k + 1) _ _ _ = _
  rw [eL, batch_Change_96.l3, w1, if_pos (by omega), if_pos (by omega), if_pos (by omega), if_pos (by omega), if_pos (by omega), e1, e2]
  rw [show (⟨x.f0, x.f1, x.f2⟩ : S50) = x from rfl, show (⟨y.f0, y.f1, y.f2⟩ : S50) = y from rfl, s]
  have e3 : (P ++ L') ++ y :: (x :: D) = P ++ (L' ++ y :: (x :: D)) := by simp
  rw [e3, h]; simp
/-! ### order of parts -/
theorem srt_last {A : List S50} {z : S50} (h : Srt (A ++ [z])) : ∀ a ∈ A ++ [z], ¬ kl z a := by
 intro a ha
 rcases List.mem_append.1 ha with ha | ha
 ·exact (List.pairwise_append.1 h).2.2 a ha z (by simp)
 ·simp at ha; subst ha; exact kl_irrefl
theorem srt_head {B : List S50} {y : S50} (h : Srt (y :: B)) : ∀ b ∈ y :: B, ¬ kl b y := by
 intro b hb
 rcases List.mem_cons.1 hb with rfl | hb
 ·exact kl_irrefl
 ·exact (List.pairwise_cons.1 h).1 b hb
end Go.Proofs.Ytgeldmhgbnamcaa.Pure
end
section
/- Plain laws of the program's stable sort, fourth part: the symmetric merge as a whole; lists of fewer than forty entries are sorted. -/
namespace Go.Proofs.Ytgeldmhgbnamcaa.Pure
open Go.RowKit Go.Proofs.Ytgeldmhgbnamcaa.P Go.Proofs.YtgeldmhgbnamcaaW.PrintWords Go.Proofs.YtgeldmhgbnamcaaW.PrintLast
set_option linter.unusedVariables false
set_option linter.unusedSimpArgs false
theorem srt_split {A B : List S50} (h : Srt (A ++ B)) : Srt A ∧ Srt B := ⟨(List.pairwise_append.1 h).1, (List.pairwise_append.1 h).2.1⟩
theorem srt_one {A B : List S50} (hA : Srt A) (hB : Srt B) (h : A = [] ∨ B = []) : Srt (A ++ B) := by
 rcases h with rfl | rfl
 ·simpa using hB
 ·simpa using hA
/-- all of A come before, or with, all of B -/
abbrev Le (A B : List S50) : Prop := ∀ a ∈ A, ∀ b ∈ B, ¬ kl b a
theorem le_join {A B : List S50} (hA : Srt A) (hB : Srt B) (h : ∀ A' z y B', A = A' ++ [z] → B = y :: B' → ¬ kl y z) : Le A B := by
 intro a ha b hb
 rcases List.eq_nil_or_concat A with rfl | ⟨A', z, rfl⟩
 ·cases ha
 simp only [List.concat_eq_append] at *
 cases B with
 | nil => cases hb
 | cons y B' =>
  have h1 := h A' z y B' rfl rfl
  have h2 := srt_last hA a ha
  have h3 := srt_head hB b hb
  unfold kl at *; omega
theorem sym1 (P : List S50) (x : S50) (R D : List S50) (hR : Srt R) (hf : Fits (P.length + R.length + D.length + 2)) :
  ∃ S : List S50, S.Perm (x :: R) ∧ Srt S ∧ Ev (fun k => batch_Change_96.l0 k (P ++ x :: (R ++ D)) (P.length : Int) ((P.length + 1 : Nat) : Int) ((P.length + 1 + R.length : Nat) : Int)) (P ++ (S ++ D)) := by
 unfold Fits at hf
 have lX : (P ++ x :: (R ++ D)).length = P.length + 1 + R.length + D.length := by simp; omega
 have ga : g (P ++ x :: (R ++ D)) P.length = x := g_at _ _ _ rfl
 obtain ⟨t, t1, t2, t3, t4, t5⟩ := bsearch (fun k i j => batch_Change_96.l0 k (P ++ x :: (R ++ D)) (P.length : Int) i j) (fun h => ¬ kl (g (P ++ x :: (R ++ D)) h) (g (P ++ x :: (R ++ D)) P.length)) (P.length + 1) (P.length + 1 + R.length)
  (fun i j h a1 a2 a3 a4 a5 res y1 y2 => s0_step _ P.length (by omega) (by unfold Fits; omega) i j h a2 a3 (by omega) a5 res y1 y2) R.length (P.length + 1) (P.length + 1 + R.length) (by omega) (by omega) (by omega) (by omega)
 rw [ga] at t3 t4
 have eR : R = R.take (t - (P.length + 1)) ++ R.drop (t - (P.length + 1)) := by simp
 have l1 : (R.take (t - (P.length + 1))).length = t - (P.length + 1) := by simp; omega
 generalize R.take (t - (P.length + 1)) = R1 at *
 generalize R.drop (t - (P.length + 1)) = R2 at *
 subst eR
 obtain ⟨s1, s2⟩ := srt_split hR
 have hA : ∀ a ∈ R1, kl a x := by
  intro a ha
  rcases List.eq_nil_or_concat R1 with rfl | ⟨R', z, rfl⟩
  ·cases ha
  simp only [List.concat_eq_append] at *
  have gz : g (P ++ x :: (R' ++ [z] ++ R2 ++ D)) (t - 1) = z := by
   have := g_at (P ++ x :: R') z (R2 ++ D) (i := t - 1) (by simp at l1 ⊢; omega)
   simpa using this
  rw [gz] at t3
  rcases t3 with t3 | t3
  ·simp at l1; omega
  ·have t3 := Classical.not_not.1 t3
   have := srt_last s1 a ha
   unfold kl at *; omega
 have hB : ∀ b ∈ R2, ¬ kl b x := by
  intro b hb
  cases R2 with
  | nil => cases hb
  | cons y R' =>
   have gy : g (P ++ x :: (R1 ++ y :: R' ++ D)) t = y := by
    have := g_at (P ++ x :: R1) y (R' ++ D) (i := t) (by simp at l1 ⊢; omega)
    simpa using this
   rw [gy] at t4
   rcases t4 with t4 | t4
   ·simp at t4; omega
   ·have := srt_head s2 b hb
    unfold kl at *; omega
 refine ⟨R1 ++ x :: R2, List.perm_middle, List.pairwise_append.2 ⟨s1, List.pairwise_cons.2 ⟨hB, s2⟩, fun a ha b hb => ?_⟩, t5 _ ?_⟩
 ·have h1 := hA a ha
  rcases List.mem_cons.1 hb with rfl | hb
  ·unfold kl at *; omega
  ·have h2 := hB b hb; unfold kl at *; omega
 ·have mv := move_right (t : Int) x R1 P (R2 ++ D) (by unfold Fits; simp at hf; omega) (by omega)
  refine Ev.step (fun k => ?_) (by simpa using mv)
  show batch_Change_96.l0 (k + 1) _ _ _ _ = _
  rw [batch_Change_96.l0, if_neg (by omega)]
  simp
theorem sym2 (P L : List S50) (y : S50) (D : List S50) (hL : Srt L) (hf : Fits (P.length + L.length + D.length + 2)) :
  ∃ S : List S50, S.Perm (L ++ [y]) ∧ Srt S ∧ Ev (fun k => batch_Change_96.l2 k (P ++ (L ++ y :: D)) ((P.length + L.length : Nat) : Int) (P.length : Int) ((P.length + L.length : Nat) : Int)) (P ++ (S ++ D)) := by
 unfold Fits at hf
 have lX : (P ++ (L ++ y :: D)).length = P.length + L.length + 1 + D.length := by simp; omega
 have gm : g (P ++ (L ++ y :: D)) (P.length + L.length) = y := by
  have := g_at (P ++ L) y D (i := P.length + L.length) (by simp)
  simpa using this
 obtain ⟨t, t1, t2, t3, t4, t5⟩ := bsearch (fun k i j => batch_Change_96.l2 k (P ++ (L ++ y :: D)) ((P.length + L.length : Nat) : Int) i j) (fun h => kl (g (P ++ (L ++ y :: D)) (P.length + L.length)) (g (P ++ (L ++ y :: D)) h)) P.length (P.length + L.length)
  (fun i j h a1 a2 a3 a4 a5 res y1 y2 => s2_step _ (P.length + L.length) (by omega) (by unfold Fits; omega) i j h a2 a3 (by omega) a5 res y1 y2) L.length P.length (P.length + L.length) (by omega) (by omega) (by omega) (by omega)
 rw [gm] at t3 t4
 have eL : L = L.take (t - P.length) ++ L.drop (t - P.length) := by simp
 have l1 : (L.take (t - P.length)).length = t - P.length := by simp; omega
 generalize L.take (t - P.length) = L1 at *
 generalize L.drop (t - P.length) = L2 at *
 subst eL
 obtain ⟨s1, s2⟩ := srt_split hL
 have hA : ∀ a ∈ L1, ¬ kl y a := by
  intro a ha
  rcases List.eq_nil_or_concat L1 with rfl | ⟨L', z, rfl⟩
  ·cases ha
  simp only [List.concat_eq_append] at *
  have gz : g (P ++ (L' ++ [z] ++ L2 ++ y :: D)) (t - 1) = z := by
   have := g_at (P ++ L') z (L2 ++ y :: D) (i := t - 1) (by simp at l1 ⊢; omega)
   simpa using this
  rw [gz] at t3
  rcases t3 with t3 | t3
  ·simp at l1; omega
  ·have := srt_last s1 a ha
   unfold kl at *; omega
 have hB : ∀ b ∈ L2, kl y b := by
  intro b hb
  cases L2 with
  | nil => cases hb
  | cons w L' =>
   have gy : g (P ++ (L1 ++ w :: L' ++ y :: D)) t = w := by
    have := g_at (P ++ L1) w (L' ++ y :: D) (i := t) (by simp; omega)
    simpa using this
   rw [gy] at t4
   rcases t4 with t4 | t4
   ·simp at t4; omega
   ·have := srt_head s2 b hb
    unfold kl at *; omega
 refine ⟨L1 ++ y :: L2, ?_, List.pairwise_append.2 ⟨s1, List.pairwise_cons.2 ⟨fun b hb => ?_, s2⟩, fun a ha b hb => ?_⟩, t5 _ ?_⟩
 ·have : (L1 ++ y :: L2).Perm (y :: (L1 ++ L2)) := List.perm_middle
  exact this.trans (List.perm_append_singleton y (L1 ++ L2)).symm
 ·have := hB b hb; unfold kl at *; omega
 ·have h1 := hA a ha
  rcases List.mem_cons.1 hb with rfl | hb
  ·exact h1
  ·have h2 := hB b hb; unfold kl at *; omega
 ·have mv := move_left (t : Int) y L2.length L2 (P ++ L1) D rfl (by unfold Fits; simp at hf ⊢; omega) (by simp; omega)
  have e2 : (((P ++ L1).length + L2.length : Nat) : Int) = ((P.length + (L1 ++ L2).length : Nat) : Int) := by simp; omega
  rw [e2] at mv
  refine Ev.step (fun k => ?_) (by simpa using mv)
  show batch_Change_96.l2 (k + 1) _ _ _ _ = _
  rw [batch_Change_96.l2, if_neg (by omega)]
  simp
end Go.Proofs.Ytgeldmhgbnamcaa.Pure
end
section
/- Plain laws of the program's stable sort, fifth part: the symmetric merge by halves. -/
namespace Go.Proofs.Ytgeldmhgbnamcaa.Pure
open Go.RowKit Go.Proofs.Ytgeldmhgbnamcaa.P Go.Proofs.YtgeldmhgbnamcaaW.PrintWords Go.Proofs.YtgeldmhgbnamcaaW.PrintLast
set_option linter.unusedVariables false
set_option linter.unusedSimpArgs false
theorem wadd {i j : Nat} (h : i + j ≤ 9000000000000000000) : wrap64 ((i : Int) + (j : Int)) = ((i + j : Nat) : Int) := by unfold wrap64; omega
theorem wsub {i j : Nat} (h : j ≤ i) (h2 : i ≤ 9000000000000000000) : wrap64 ((i : Int) - (j : Int)) = ((i - j : Nat) : Int) := by unfold wrap64; omega
theorem wsub1 {i : Nat} (h : 1 ≤ i) (h2 : i ≤ 9000000000000000000) : wrap64 ((i : Int) - 1) = ((i - 1 : Nat) : Int) := by unfold wrap64; omega
/-! ### the code behind the search, a step each -/
theorem j8_ev {X X1 X2 : List S50} {a b mid t e : Int} {c : Bool} (h1 : Ev (fun k => if c = true then batch_Change_96.f k X a t mid else some X) X1) (h2 : Ev (fun k => if mid < e ∧ e < b then batch_Change_96.f k X1 mid e b else some X1) X2) : Ev (fun k => batch_Change_96.j8 k X a b mid t e c) X2 := by
 obtain ⟨K1, h1⟩ := h1
 obtain ⟨K2, h2⟩ := h2
 refine ⟨K1 + K2 + 1, fun k hk => ?_⟩
 obtain ⟨k, rfl⟩ : ∃ m, k = m + 1 := ⟨k - 1, by omega⟩
 have h1 := h1 k (by omega); have h2 := h2 k (by omega); dsimp only at h1 h2
 have tail : (if mid < e then (if e < b then (batch_Change_96.f k X1 mid e b).bind fun t155 => some t155 else some X1) else some X1) = some X2 := by
  by_cases q : mid < e ∧ e < b
  ·rw [if_pos q] at h2; rw [if_pos q.1, if_pos q.2, h2]; rfl
  ·rw [if_neg q] at h2
   by_cases q1 : mid < e
   ·rw [if_pos q1, if_neg (fun q2 => q ⟨q1, q2⟩), h2]
   ·rw [if_neg q1, h2]
 show batch_Change_96.j8 (k + 1) _ _ _ _ _ _ _ = _
 rw [batch_Change_96.j8]
 by_cases q : c = true
 ·rw [if_pos q] at h1 ⊢; rw [h1, Option.bind_some]; exact tail
 ·rw [if_neg q] at h1 ⊢; rw [Option.some.inj h1]; exact tail
theorem j7_ev {X R : List S50} {a b mid t e : Int} (h : Ev (fun k => batch_Change_96.j8 k X a b mid t e (decide (a < t ∧ t < mid))) R) : Ev (fun k => batch_Change_96.j7 k X a b mid t e) R := by
 refine Ev.step (fun k => ?_) h
 show batch_Change_96.j7 (k + 1) _ _ _ _ _ _ = _
 rw [batch_Change_96.j7]
 by_cases q : a < t
 ·rw [if_pos q]; congr 1; apply decide_eq_decide.2; exact ⟨fun x => ⟨q, x⟩, fun x => x.2⟩
 ·rw [if_neg q, decide_eq_false (fun x => q x.1)]
theorem j6_ev {X X1 R : List S50} {a m b mid t e : Int} {c : Bool} (h1 : Ev (fun k => if c = true then batch_Change_98.f k X t m e else some X) X1) (h2 : Ev (fun k => batch_Change_96.j7 k X1 a b mid t e) R) : Ev (fun k => batch_Change_96.j6 k X a m b mid t e c) R := by
 obtain ⟨K1, h1⟩ := h1
 obtain ⟨K2, h2⟩ := h2
 refine ⟨K1 + K2 + 1, fun k hk => ?_⟩
 obtain ⟨k, rfl⟩ : ∃ m, k = m + 1 := ⟨k - 1, by omega⟩
 have h1 := h1 k (by omega); have h2 := h2 k (by omega); dsimp only at h1 h2
 show batch_Change_96.j6 (k + 1) _ _ _ _ _ _ _ _ = _
 rw [batch_Change_96.j6]
 by_cases q : c = true
 ·rw [if_pos q] at h1 ⊢; rw [h1, Option.bind_some]; exact h2
 ·rw [if_neg q] at h1 ⊢; rw [Option.some.inj h1]; exact h2
theorem l4_ev {X R : List S50} {a m b mid nn t e p : Int} (he : wrap64 (nn - t) = e) (h : Ev (fun k => batch_Change_96.j6 k X a m b mid t e (decide (t < m ∧ m < e))) R) : Ev (fun k => batch_Change_96.l4 k X a m b mid nn t t p) R := by
 refine Ev.step (fun k => ?_) h
 show batch_Change_96.l4 (k + 1) _ _ _ _ _ _ _ _ _ = _
 rw [batch_Change_96.l4, if_neg (Int.lt_irrefl t), he]
 by_cases q : t < m
 ·rw [if_pos q]; congr 1; apply decide_eq_decide.2; exact ⟨fun x => ⟨q, x⟩, fun x => x.2⟩
 ·rw [if_neg q, decide_eq_false (fun x => q x.1)]
/-! ### halves -/
/-- what the merge of two stretches is to be -/
def Merges (n : Nat) : Prop := ∀ (P L R D : List S50), L.length + R.length ≤ n → L ≠ [] → R ≠ [] → Srt L → Srt R → Fits (P.length + L.length + R.length + D.length + 4) →
  ∃ S : List S50, S.Perm (L ++ R) ∧ Srt S ∧ Ev (fun k => batch_Change_96.f k (P ++ (L ++ (R ++ D))) (P.length : Int) ((P.length + L.length : Nat) : Int) ((P.length + L.length + R.length : Nat) : Int)) (P ++ (S ++ D))
theorem ne_nil {A : List S50} : A ≠ [] ↔ 0 < A.length := List.length_pos_iff.symm
/-- a half: merged where both parts have something, else as it is -/
theorem half {n : Nat} (ih : Merges n) (P L R D : List S50) (hn : L.length + R.length ≤ n) (hL : Srt L) (hR : Srt R) (hf : Fits (P.length + L.length + R.length + D.length + 4)) {a m b : Nat} (ha : P.length = a) (hm : a + L.length = m) (hb : m + R.length = b) :
  ∃ S : List S50, S.Perm (L ++ R) ∧ Srt S ∧ Ev (fun k => if (a : Int) < m ∧ (m : Int) < b then batch_Change_96.f k (P ++ (L ++ (R ++ D))) a m b else some (P ++ (L ++ (R ++ D)))) (P ++ (S ++ D)) := by
 subst ha hm hb
 by_cases h : L ≠ [] ∧ R ≠ []
 ·obtain ⟨S, p, s, K, e⟩ := ih P L R D hn h.1 h.2 hL hR hf
  have h1 := ne_nil.1 h.1
  have h2 := ne_nil.1 h.2
  exact ⟨S, p, s, K, fun k hk => by
   show (if _ then _ else _) = _
   rw [if_pos (by omega)]; exact e k hk⟩
 ·have h' : L = [] ∨ R = [] := by
   by_cases h1 : L = []
   ·exact .inl h1
   ·exact .inr (Classical.byContradiction fun h2 => h ⟨h1, h2⟩)
  refine ⟨L ++ R, List.Perm.refl _, srt_one hL hR h', 0, fun k _ => ?_⟩
  show (if _ then _ else _) = _
  have : ¬ (((P.length : Nat) : Int) < ((P.length + L.length : Nat) : Int) ∧ ((P.length + L.length : Nat) : Int) < ((P.length + L.length + R.length : Nat) : Int)) := by
   rcases h' with rfl | rfl
   ·simp
   ·simp
  rw [if_neg this]
  simp
theorem turn (P L R D : List S50) {a m b : Nat} (ha : P.length = a) (hm : a + L.length = m) (hb : m + R.length = b) (hf : Fits (b + D.length)) :
  Ev (fun k => if decide ((a : Int) < m ∧ (m : Int) < b) = true then batch_Change_98.f k (P ++ (L ++ (R ++ D))) a m b else some (P ++ (L ++ (R ++ D)))) (P ++ (R ++ (L ++ D))) := by
 subst ha hm hb
 by_cases h : L ≠ [] ∧ R ≠ []
 ·have h1 := ne_nil.1 h.1
  have h2 := ne_nil.1 h.2
  obtain ⟨K, e⟩ := rot_ev P L R D h.1 h.2 (by unfold Fits at *; omega) (a := (P.length : Int)) (m := ((P.length + L.length : Nat) : Int)) (b := ((P.length + L.length + R.length : Nat) : Int)) rfl (by omega) (by omega)
  exact ⟨K, fun k hk => by
   show (if _ then _ else _) = _
   rw [if_pos (decide_eq_true (by omega))]; exact e k hk⟩
 ·have h' : L = [] ∨ R = [] := by
   by_cases h1 : L = []
   ·exact .inl h1
   ·exact .inr (Classical.byContradiction fun h2 => h ⟨h1, h2⟩)
  refine ⟨0, fun k _ => ?_⟩
  show (if _ then _ else _) = _
  have : ¬ (((P.length : Nat) : Int) < ((P.length + L.length : Nat) : Int) ∧ ((P.length + L.length : Nat) : Int) < ((P.length + L.length + R.length : Nat) : Int)) := by
   rcases h' with rfl | rfl
   ·simp
   ·simp
  rw [if_neg (fun x => this (of_decide_eq_true x))]
  rcases h' with rfl | rfl <;> simp
/-- what follows the search -/
theorem run_tail {n : Nat} (ih : Merges n) (P L1 L2 R1 R2 D : List S50) {a m b mid t e : Nat} {nn p : Int} (ea : P.length = a) (et : a + L1.length = t) (em : t + L2.length = m) (ei : t + R1.length = mid) (ee : m + R1.length = e) (eb : e + R2.length = b) (hb : b + D.length + 4 ≤ 1000000000000000000)
  (n1 : L1.length + R1.length ≤ n) (n2 : L2.length + R2.length ≤ n) (sl1 : Srt L1) (sl2 : Srt L2) (sr1 : Srt R1) (sr2 : Srt R2) (hn : wrap64 (nn - t) = e) :
  ∃ S1 S2 : List S50, S1.Perm (L1 ++ R1) ∧ Srt S1 ∧ S2.Perm (L2 ++ R2) ∧ Srt S2 ∧ Ev (fun k => batch_Change_96.l4 k (P ++ (L1 ++ (L2 ++ (R1 ++ (R2 ++ D))))) a m b mid nn t t p) (P ++ (S1 ++ (S2 ++ D))) := by
 obtain ⟨S1, p1, s1, h1⟩ := half ih P L1 R1 (L2 ++ (R2 ++ D)) n1 sl1 sr1 (by unfold Fits; simp only [List.length_append]; omega) ea et ei
 have z1 : S1.length = L1.length + R1.length := by rw [p1.length_eq]; simp
 obtain ⟨S2, p2, s2, h2⟩ := half ih (P ++ S1) L2 R2 D n2 sl2 sr2 (by unfold Fits; simp only [List.length_append]; omega) (a := mid) (m := e) (b := b) (by simp only [List.length_append]; omega) (by omega) eb
 refine ⟨S1, S2, p1, s1, p2, s2, l4_ev hn ?_⟩
 have h0 := turn (P ++ L1) L2 R1 (R2 ++ D) (a := t) (m := m) (b := e) (by simp only [List.length_append]; omega) em ee (by unfold Fits; simp only [List.length_append]; omega)
 refine j6_ev (X1 := P ++ (L1 ++ (R1 ++ (L2 ++ (R2 ++ D))))) ?_ (j7_ev (j8_ev (X1 := P ++ (S1 ++ (L2 ++ (R2 ++ D)))) ?_ ?_))
 ·simpa only [List.append_assoc] using h0
 ·obtain ⟨K, h1⟩ := h1
  exact ⟨K, fun k hk => by
   have h1 := h1 k hk; dsimp only at h1 ⊢
   by_cases q : (a : Int) < t ∧ (t : Int) < mid
   ·rw [if_pos q] at h1; rw [if_pos (decide_eq_true q)]; exact h1
   ·rw [if_neg q] at h1; rw [if_neg (fun x => q (of_decide_eq_true x))]; exact h1⟩
 ·simpa only [List.append_assoc] using h2
/-! ### the whole -/
/-- the places that the merge computes -/
theorem places (a m b : Nat) (h1 : a + 2 ≤ m) (h2 : m + 2 ≤ b) (h3 : b ≤ 1000000000000000000) : ∃ mi s0 r0 : Nat, a < mi ∧ mi < b ∧
  wrap64 ((IntKind.u64.wrap (wrap64 ((a : Int) + (b : Int)))) / 2) = (mi : Int) ∧ wrap64 ((mi : Int) + (m : Int)) = ((mi + m : Nat) : Int) ∧ wrap64 (((mi + m : Nat) : Int) - 1) = ((mi + m - 1 : Nat) : Int) ∧
  (s0 ≤ r0 ∧ a ≤ s0 ∧ r0 ≤ m ∧ r0 ≤ mi ∧ mi + m ≤ s0 + b) ∧ ((m > mi ∧ s0 = mi + m - b ∧ s0 + b = mi + m ∧ r0 = mi) ∨ (¬ m > mi ∧ s0 = a ∧ r0 = m)) := by
 have hm := mid (i := a) (j := b) (by omega) (by omega)
 generalize e : a + (b - a) / 2 = c at hm
 have c1 : a < c ∧ c < b ∧ 2 * c ≤ a + b ∧ a + b ≤ 2 * c + 1 := by omega
 clear e
 have w1 := wadd (i := c) (j := m) (by omega)
 have w2 := wsub1 (i := c + m) (by omega) (by omega)
 by_cases h : m > c
 ·exact ⟨c, c + m - b, c, c1.1, c1.2.1, hm, w1, w2, by omega, .inl ⟨h, rfl, by omega, rfl⟩⟩
 ·exact ⟨c, a, m, c1.1, c1.2.1, hm, w1, w2, by omega, .inr ⟨h, rfl, rfl⟩⟩
theorem cut (A : List S50) (i : Nat) (h : i ≤ A.length) : ∃ B C : List S50, A = B ++ C ∧ B.length = i ∧ C.length = A.length - i := ⟨A.take i, A.drop i, by simp, by simp; omega, by simp⟩
/-- the four parts are in order across -/
theorem across (P L1 L2 R1 R2 D : List S50) {t e n1 : Nat} (et : P.length + L1.length = t) (ee : t + L2.length + R1.length = e) (hp : n1 + 1 = t + e) (sL : Srt (L1 ++ L2)) (sR : Srt (R1 ++ R2))
  (t3 : L1 = [] ∨ R2 = [] ∨ ¬ kl (g (P ++ (L1 ++ (L2 ++ (R1 ++ (R2 ++ D))))) (n1 - (t - 1))) (g (P ++ (L1 ++ (L2 ++ (R1 ++ (R2 ++ D))))) (t - 1))) (t4 : L2 = [] ∨ R1 = [] ∨ kl (g (P ++ (L1 ++ (L2 ++ (R1 ++ (R2 ++ D))))) (n1 - t)) (g (P ++ (L1 ++ (L2 ++ (R1 ++ (R2 ++ D))))) t)) :
  Le L1 R2 ∧ Le R1 L2 := by
 obtain ⟨sl1, sl2⟩ := srt_split sL
 obtain ⟨sr1, sr2⟩ := srt_split sR
 constructor
 ·refine le_join sl1 sr2 (fun A' z y B' f1 f2 => ?_)
  subst f1 f2
  simp only [List.length_append, List.length_cons, List.length_nil] at et ee
  have gz : g (P ++ (A' ++ [z] ++ (L2 ++ (R1 ++ (y :: B' ++ D))))) (t - 1) = z := by
   have := g_at (P ++ A') z (L2 ++ (R1 ++ (y :: B' ++ D))) (i := t - 1) (by simp only [List.length_append]; omega)
   simpa only [List.append_assoc, List.cons_append, List.nil_append] using this
  have gy : g (P ++ (A' ++ [z] ++ (L2 ++ (R1 ++ (y :: B' ++ D))))) (n1 - (t - 1)) = y := by
   have := g_at (P ++ (A' ++ ([z] ++ (L2 ++ R1)))) y (B' ++ D) (i := n1 - (t - 1)) (by simp only [List.length_append, List.length_cons, List.length_nil]; omega)
   simpa only [List.append_assoc, List.cons_append, List.nil_append] using this
  rcases t3 with t3 | t3 | t3
  ·simp at t3
  ·cases t3
  ·rw [gz, gy] at t3; exact t3
 ·refine le_join sr1 sl2 (fun A' z w B' f1 f2 => ?_)
  subst f1 f2
  simp only [List.length_append, List.length_cons, List.length_nil] at et ee
  have gz : g (P ++ (L1 ++ (w :: B' ++ (A' ++ [z] ++ (R2 ++ D))))) (n1 - t) = z := by
   have := g_at (P ++ (L1 ++ (w :: (B' ++ A')))) z (R2 ++ D) (i := n1 - t) (by simp only [List.length_append, List.length_cons]; omega)
   simpa only [List.append_assoc, List.cons_append, List.nil_append] using this
  have gw : g (P ++ (L1 ++ (w :: B' ++ (A' ++ [z] ++ (R2 ++ D))))) t = w := by
   have := g_at (P ++ L1) w (B' ++ (A' ++ [z] ++ (R2 ++ D))) (i := t) (by simp only [List.length_append]; omega)
   simpa only [List.append_assoc, List.cons_append, List.nil_append] using this
  rcases t4 with t4 | t4 | t4
  ·simp at t4
  ·simp at t4
  ·rw [gz, gw] at t4; unfold kl at *; omega
theorem search4 (X : List S50) {x1 x2 x3 x18 x19 : Int} (s0 r0 n1 : Nat) (hX : Fits X.length) (h1 : s0 ≤ r0) (h2 : r0 ≤ X.length) (h3 : r0 ≤ n1 + 1) (h4 : n1 < X.length + s0) :
  ∃ t : Nat, s0 ≤ t ∧ t ≤ r0 ∧ (t = s0 ∨ ¬ kl (g X (n1 - (t - 1))) (g X (t - 1))) ∧ (t = r0 ∨ kl (g X (n1 - t)) (g X t)) ∧
   ∀ res, Ev (fun k => batch_Change_96.l4 k X x1 x2 x3 x18 x19 (t : Int) (t : Int) (n1 : Int)) res → Ev (fun k => batch_Change_96.l4 k X x1 x2 x3 x18 x19 (s0 : Int) (r0 : Int) (n1 : Int)) res :=
 bsearch (fun k i j => batch_Change_96.l4 k X x1 x2 x3 x18 x19 i j (n1 : Int)) (fun h => kl (g X (n1 - h)) (g X h)) s0 r0
  (fun i j h a1 a2 a3 a4 a5 res y1 y2 => by
   have c1 : j ≤ X.length := Nat.le_trans a4 h2
   have c2 : h ≤ n1 ∧ n1 - h < X.length := by omega
   exact s4_step X n1 hX i j h a2 a3 c1 c2 a5 res y1 y2) (r0 - s0) s0 r0 (Nat.le_refl _) (Nat.le_refl _) h1 (Nat.le_refl _)
set_option maxHeartbeats 4000000 in
theorem merges : ∀ n, Merges n := by
 intro n
 induction n with
 | zero => intro P L R D h hL; exact absurd (List.eq_nil_of_length_eq_zero (by omega)) hL
 | succ n ih =>
  intro P L R D hn hL hR sL sR hf
  unfold Fits at hf
  have L0 := ne_nil.1 hL
  have R0 := ne_nil.1 hR
  by_cases c1 : L.length = 1
  ·obtain ⟨x, rfl⟩ := List.length_eq_one_iff.1 c1
   obtain ⟨S, p, s, K, h⟩ := sym1 P x R D sR (by unfold Fits; simp at hf; omega)
   refine ⟨S, by simpa using p, s, K + 1, fun k hk => ?_⟩
   obtain ⟨k, rfl⟩ : ∃ m, k = m + 1 := ⟨k - 1, by omega⟩
   have h := h k (by omega); dsimp only at h
   show batch_Change_96.f (k + 1) _ _ _ _ = _
   rw [batch_Change_96.f, if_pos (by unfold wrap64; omega)]
   exact h
  by_cases c2 : R.length = 1
  ·obtain ⟨y, rfl⟩ := List.length_eq_one_iff.1 c2
   obtain ⟨S, p, s, K, h⟩ := sym2 P L y D sL (by unfold Fits; simp at hf; omega)
   refine ⟨S, p, s, K + 1, fun k hk => ?_⟩
   obtain ⟨k, rfl⟩ : ∃ m, k = m + 1 := ⟨k - 1, by omega⟩
   have h := h k (by omega); dsimp only at h
   show batch_Change_96.f (k + 1) _ _ _ _ = _
   rw [batch_Change_96.f, if_neg (by unfold wrap64; omega), if_pos (by unfold wrap64; omega)]
   exact h
  obtain ⟨a, ea⟩ : ∃ a, P.length = a := ⟨_, rfl⟩
  obtain ⟨m, em⟩ : ∃ m, a + L.length = m := ⟨_, rfl⟩
  obtain ⟨b, eb⟩ : ∃ b, m + R.length = b := ⟨_, rfl⟩
  rw [ea, em, eb]
  have lX : (P ++ (L ++ (R ++ D))).length = b + D.length := by simp only [List.length_append]; omega
  obtain ⟨mi, s0, r0, hma, hmb, hmid, hnn, hp, hord, hs0⟩ := places a m b (by omega) (by omega) (by omega)
  have HMI := Aside0.mk hmid
  have HNN := Aside0.mk hnn
  have HP := Aside0.mk hp
  have HF := Aside0.mk hf
  have hb18 : b ≤ 1000000000000000000 := by omega
  have hbD : b + D.length + 4 ≤ 1000000000000000000 := by omega
  clear hmid hnn hp hf
  obtain ⟨t, t1, t2, t3, t4, t5⟩ := search4 (P ++ (L ++ (R ++ D))) (x1 := (a : Int)) (x2 := (m : Int)) (x3 := (b : Int)) (x18 := (mi : Int)) (x19 := ((mi + m : Nat) : Int)) s0 r0 (mi + m - 1) (by unfold Fits; omega) (by omega) (by omega) (by omega) (by omega)
  have hta : a ≤ t ∧ t ≤ m ∧ m + t ≤ mi + m ∧ mi + m ≤ t + b := by omega
  obtain ⟨L1, L2, eL, l1, l2⟩ := cut L (t - a) (by omega)
  obtain ⟨R1, R2, eR, r1, r2⟩ := cut R (mi - t) (by omega)
  have q : Le L1 R2 ∧ Le R1 L2 := by
   subst eL eR
   simp only [List.append_assoc] at t3 t4
   refine across P L1 L2 R1 R2 D (t := t) (e := mi + m - t) (n1 := mi + m - 1) (by omega) (by omega) (by omega) sL sR ?_ ?_
   ·rcases t3 with t3 | t3
    ·rcases hs0 with ⟨_, h2, h2', _⟩ | ⟨_, h2, _⟩
     ·exact .inr (.inl (List.eq_nil_of_length_eq_zero (by omega)))
     ·exact .inl (List.eq_nil_of_length_eq_zero (by omega))
    ·exact .inr (.inr t3)
   ·rcases t4 with t4 | t4
    ·rcases hs0 with ⟨_, _, _, h3⟩ | ⟨_, _, h3⟩
     ·exact .inr (.inl (List.eq_nil_of_length_eq_zero (by omega)))
     ·exact .inl (List.eq_nil_of_length_eq_zero (by omega))
    ·exact .inr (.inr t4)
  have s12 := srt_split (A := L1) (B := L2) (by rw [← eL]; exact sL)
  have r12 := srt_split (A := R1) (B := R2) (by rw [← eR]; exact sR)
  have lL : L.length = L1.length + L2.length := by rw [eL]; simp
  have lR : R.length = R1.length + R2.length := by rw [eR]; simp
  obtain ⟨S1, S2, p1, s1, p2, s2, h4⟩ := run_tail ih P L1 L2 R1 R2 D (a := a) (m := m) (b := b) (mid := mi) (t := t) (e := mi + m - t) (nn := ((mi + m : Nat) : Int)) (p := ((mi + m - 1 : Nat) : Int)) ea (by omega) (by omega) (by omega) (by omega) (by omega) (by omega) (by omega) (by omega) s12.1 s12.2 r12.1 r12.2 (wsub (by omega) (by omega))
  have eX : P ++ (L1 ++ (L2 ++ (R1 ++ (R2 ++ D)))) = P ++ (L ++ (R ++ D)) := by rw [eL, eR]; simp
  rw [eX] at h4
  refine ⟨S1 ++ S2, ?_, List.pairwise_append.2 ⟨s1, s2, fun x hx y hy => ?_⟩, ?_⟩
  ·rw [eL, eR]
   refine (p1.append p2).trans ?_
   simp only [List.append_assoc]
   refine List.Perm.append_left L1 ?_
   rw [← List.append_assoc, ← List.append_assoc]
   exact List.Perm.append_right R2 List.perm_append_comm
  ·rw [eL] at sL
   rw [eR] at sR
   rcases List.mem_append.1 (p1.mem_iff.1 hx) with h | h <;> rcases List.mem_append.1 (p2.mem_iff.1 hy) with h' | h'
   ·exact (List.pairwise_append.1 sL).2.2 x h y h'
   ·exact q.1 x h y h'
   ·exact q.2 x h y h'
   ·exact (List.pairwise_append.1 sR).2.2 x h y h'
  ·obtain ⟨K, h4⟩ := t5 _ h4
   refine ⟨K + 2, fun k hk => ?_⟩
   obtain ⟨k, rfl⟩ : ∃ m, k = m + 2 := ⟨k - 2, by omega⟩
   have h4 := h4 k (by omega); dsimp only at h4
   show batch_Change_96.f (k + 2) _ _ _ _ = _
   have n1 : ¬ wrap64 ((m : Int) - (a : Int)) = 1 := by rw [wsub (by omega) (by omega)]; omega
   have n2 : ¬ wrap64 ((b : Int) - (m : Int)) = 1 := by rw [wsub (by omega) (by omega)]; omega
   rw [List.append_assoc, batch_Change_96.f, if_neg n1, if_neg n2, HMI.out, HNN.out]
   rcases hs0 with ⟨h1, h2, h2', h3⟩ | ⟨h1, h2, h3⟩
   ·have ws : wrap64 (((mi + m : Nat) : Int) - (b : Int)) = (s0 : Int) := by rw [wsub (by omega) (by omega), h2]
    rw [if_pos (by omega), ws, batch_Change_96.j4, HP.out, ← h3]
    rw [h3] at h4 ⊢
    exact h4
   ·rw [if_neg (by omega), batch_Change_96.j4, HP.out]
    rw [h2, h3] at h4
    exact h4
end Go.Proofs.Ytgeldmhgbnamcaa.Pure
end
section
/- Plain laws of the program's stable sort, last part: blocks, and the sort of any list. -/
namespace Go.Proofs.Ytgeldmhgbnamcaa.Pure
open Go.RowKit Go.Proofs.Ytgeldmhgbnamcaa.P Go.Proofs.YtgeldmhgbnamcaaW.PrintWords Go.Proofs.YtgeldmhgbnamcaaW.PrintLast
set_option linter.unusedVariables false
set_option linter.unusedSimpArgs false
/-- stretches of n entries, each in order; the last one may be shorter -/
inductive Bl (n : Nat) : List S50 → Prop
 | last (X : List S50) : X.length ≤ n → Srt X → Bl n X
 | more (A X : List S50) : A.length = n → Srt A → Bl n X → Bl n (A ++ X)
theorem bl_srt {n : Nat} {X : List S50} (h : Bl n X) (hl : X.length ≤ n) : Srt X := by
 cases h with
 | last _ _ s => exact s
 | more A Y ha sa _ =>
  have : Y = [] := List.eq_nil_of_length_eq_zero (by simp only [List.length_append] at hl; omega)
  subst this; simpa using sa
theorem l0_ev (len : Int) : ∀ (n : Nat) (X P : List S50), X.length ≤ n → len = P.length + X.length → Fits (P.length + X.length + 40) →
  ∃ X' : List S50, X'.Perm X ∧ Bl 20 X' ∧ ∀ res, Ev (fun k => batch_Change_88.l1 k (P ++ X') len 20) res → Ev (fun k => batch_Change_88.l0 k (P ++ X) len 20 (P.length : Int) ((P.length + 20 : Nat) : Int)) res := by
 intro n
 induction n with
 | zero =>
  intro X P hX hlen hf
  obtain rfl : X = [] := List.eq_nil_of_length_eq_zero (by omega)
  unfold Fits at hf
  simp only [List.length_nil] at hlen hf
  refine ⟨[], List.Perm.refl _, .last _ (by simp) List.Pairwise.nil, fun res ⟨K, h⟩ => ?_⟩
  obtain ⟨S, p, s, K1, h1⟩ := ins95 P [] [] (by simp; omega) (a := (P.length : Int)) (b := len) rfl (by simp; omega)
  obtain rfl : S = [] := List.eq_nil_of_length_eq_zero (by rw [p.length_eq]; rfl)
  refine ⟨K + K1 + 1, fun k hk => ?_⟩
  obtain ⟨k, rfl⟩ : ∃ m, k = m + 1 := ⟨k - 1, by omega⟩
  have h := h k (by omega); have h1 := h1 k (by omega); dsimp only at h h1
  show batch_Change_88.l0 (k + 1) _ _ _ _ _ = _
  simp only [List.append_nil, List.nil_append] at h h1 ⊢
  rw [batch_Change_88.l0, if_neg (by omega), h1, Option.bind_some]
  exact h
 | succ n ih =>
  intro X P hX hlen hf
  have hf0 := hf
  unfold Fits at hf
  by_cases c : 20 ≤ X.length
  ·obtain ⟨A, Y, rfl, ha, hy⟩ := cut X 20 c
   obtain ⟨S, p, s, K1, h1⟩ := ins95 P Y A (by simp only [List.length_append] at hf; omega) (a := (P.length : Int)) (b := ((P.length + 20 : Nat) : Int)) rfl (by omega)
   have ls : S.length = 20 := by rw [p.length_eq, ha]
   simp only [List.length_append] at hX hlen hf
   obtain ⟨Y', p2, b2, g2⟩ := ih Y (P ++ S) (by omega) (by simp only [List.length_append]; omega) (by unfold Fits; simp only [List.length_append]; omega)
   refine ⟨S ++ Y', p.append p2, .more S Y' ls s b2, fun res hr => ?_⟩
   obtain ⟨K2, h2⟩ := g2 res (by simpa only [List.append_assoc] using hr)
   refine ⟨K1 + K2 + 1, fun k hk => ?_⟩
   obtain ⟨k, rfl⟩ : ∃ m, k = m + 1 := ⟨k - 1, by omega⟩
   have h1 := h1 k (by omega); have h2 := h2 k (by omega); dsimp only at h1 h2
   show batch_Change_88.l0 (k + 1) _ _ _ _ _ = _
   rw [batch_Change_88.l0, if_pos (by omega), h1, Option.bind_some]
   rw [show wrap64 (((P.length + 20 : Nat) : Int) + 20) = (((P ++ S).length + 20 : Nat) : Int) by simp only [List.length_append]; unfold wrap64; omega]
   have e : ((P ++ S).length : Int) = ((P.length + 20 : Nat) : Int) := by simp only [List.length_append]; omega
   rw [e, List.append_assoc] at h2
   exact h2
  ·obtain ⟨S, p, s, K1, h1⟩ := ins95 P [] X (by omega) (a := (P.length : Int)) (b := len) rfl (by omega)
   refine ⟨S, p, .last S (by rw [p.length_eq]; omega) s, fun res ⟨K, h⟩ => ?_⟩
   refine ⟨K + K1 + 1, fun k hk => ?_⟩
   obtain ⟨k, rfl⟩ : ∃ m, k = m + 1 := ⟨k - 1, by omega⟩
   have h := h k (by omega); have h1 := h1 k (by omega); dsimp only at h h1
   simp only [List.append_nil] at h1
   show batch_Change_88.l0 (k + 1) _ _ _ _ _ = _
   rw [batch_Change_88.l0, if_neg (by omega), h1, Option.bind_some]
   exact h
theorem l2_ev (len : Int) (n : Nat) (n0 : 1 ≤ n) (n1 : n ≤ 1000000000000000000) : ∀ (d : Nat) (X P : List S50), X.length ≤ d → len = P.length + X.length → Fits (P.length + X.length + 40) → Bl n X →
  ∃ X' : List S50, X'.Perm X ∧ Bl (2 * n) X' ∧ ∀ res, Ev (fun k => batch_Change_88.l1 k (P ++ X') len ((2 * n : Nat) : Int)) res → Ev (fun k => batch_Change_88.l2 k (P ++ X) len (n : Int) (P.length : Int) ((P.length + 2 * n : Nat) : Int)) res := by
 have w2 : wrap64 ((n : Int) * 2) = ((2 * n : Nat) : Int) := by unfold wrap64; omega
 have w2' : wrap64 (2 * (n : Int)) = ((2 * n : Nat) : Int) := by unfold wrap64; omega
 intro d
 induction d with
 | zero =>
  intro X P hX hlen hf hb
  obtain rfl : X = [] := List.eq_nil_of_length_eq_zero (by omega)
  unfold Fits at hf
  simp only [List.length_nil] at hlen hf
  refine ⟨[], List.Perm.refl _, .last _ (by simp) List.Pairwise.nil, fun res ⟨K, h⟩ => ⟨K + 1, fun k hk => ?_⟩⟩
  obtain ⟨k, rfl⟩ : ∃ m, k = m + 1 := ⟨k - 1, by omega⟩
  have h := h k (by omega); dsimp only at h
  show batch_Change_88.l2 (k + 1) _ _ _ _ _ = _
  rw [batch_Change_88.l2, if_neg (by omega), show wrap64 ((P.length : Int) + (n : Int)) = ((P.length + n : Nat) : Int) by unfold wrap64; omega, if_neg (by omega), w2]
  exact h
 | succ d ih =>
  intro X P hX hlen hf hb
  have hf0 := hf
  unfold Fits at hf
  have wp : wrap64 ((P.length : Int) + (n : Int)) = ((P.length + n : Nat) : Int) := by unfold wrap64; omega
  by_cases c : 2 * n ≤ X.length
  ·obtain ⟨A, B, Y, rfl, ha, hb', sa, sb, hy⟩ : ∃ A B Y : List S50, X = A ++ (B ++ Y) ∧ A.length = n ∧ B.length = n ∧ Srt A ∧ Srt B ∧ Bl n Y := by
    cases hb with
    | last _ h _ => omega
    | more A X1 ha sa h1 =>
     simp only [List.length_append] at c
     cases h1 with
     | last _ h s => exact ⟨A, X1, [], by simp, ha, by omega, sa, s, .last _ (by simp) List.Pairwise.nil⟩
     | more B Y hb sb h2 => exact ⟨A, B, Y, rfl, ha, hb, sa, sb, h2⟩
   simp only [List.length_append] at hX hlen hf
   obtain ⟨S, p, s, K1, h1⟩ := merges (A.length + B.length) P A B Y (Nat.le_refl _) (ne_nil.2 (by omega)) (ne_nil.2 (by omega)) sa sb (by unfold Fits; omega)
   have ls : S.length = 2 * n := by rw [p.length_eq]; simp only [List.length_append]; omega
   obtain ⟨Y', p2, b2, g2⟩ := ih Y (P ++ S) (by omega) (by simp only [List.length_append]; omega) (by unfold Fits; simp only [List.length_append]; omega) hy
   refine ⟨S ++ Y', ?_, .more S Y' ls s b2, fun res hr => ?_⟩
   ·rw [← List.append_assoc]; exact p.append p2
   obtain ⟨K2, h2⟩ := g2 res (by simpa only [List.append_assoc] using hr)
   refine ⟨K1 + K2 + 1, fun k hk => ?_⟩
   obtain ⟨k, rfl⟩ : ∃ m, k = m + 1 := ⟨k - 1, by omega⟩
   have h1 := h1 k (by omega); have h2 := h2 k (by omega); dsimp only at h1 h2
   have e1 : ((P.length + A.length : Nat) : Int) = ((P.length + n : Nat) : Int) := by omega
   have e2 : ((P.length + A.length + B.length : Nat) : Int) = ((P.length + 2 * n : Nat) : Int) := by omega
   rw [e1, e2] at h1
   show batch_Change_88.l2 (k + 1) _ _ _ _ _ = _
   rw [batch_Change_88.l2, if_pos (by omega), wp, h1, Option.bind_some, w2']
   rw [show wrap64 (((P.length + 2 * n : Nat) : Int) + ((2 * n : Nat) : Int)) = (((P ++ S).length + 2 * n : Nat) : Int) by simp only [List.length_append]; unfold wrap64; omega]
   have e : ((P ++ S).length : Int) = ((P.length + 2 * n : Nat) : Int) := by simp only [List.length_append]; omega
   rw [e, List.append_assoc] at h2
   exact h2
  ·by_cases c2 : n < X.length
   ·obtain ⟨A, B, rfl, ha, sa, sb⟩ : ∃ A B : List S50, X = A ++ B ∧ A.length = n ∧ Srt A ∧ Srt B := by
     cases hb with
     | last _ h _ => omega
     | more A X1 ha sa h1 =>
      simp only [List.length_append] at c
      exact ⟨A, X1, rfl, ha, sa, bl_srt h1 (by omega)⟩
    simp only [List.length_append] at hX hlen hf c c2
    obtain ⟨S, p, s, K1, h1⟩ := merges (A.length + B.length) P A B [] (Nat.le_refl _) (ne_nil.2 (by omega)) (ne_nil.2 (by omega)) sa sb (by unfold Fits; simp only [List.length_nil]; omega)
    have ls : S.length = A.length + B.length := by rw [p.length_eq]; simp only [List.length_append]
    refine ⟨S, p, .last S (by omega) s, fun res ⟨K, h⟩ => ⟨K + K1 + 1, fun k hk => ?_⟩⟩
    obtain ⟨k, rfl⟩ : ∃ m, k = m + 1 := ⟨k - 1, by omega⟩
    have h := h k (by omega); have h1 := h1 k (by omega); dsimp only at h h1
    simp only [List.append_nil] at h1
    have e1 : ((P.length + A.length : Nat) : Int) = ((P.length + n : Nat) : Int) := by omega
    have e2 : ((P.length + A.length + B.length : Nat) : Int) = len := by omega
    rw [e1, e2] at h1
    show batch_Change_88.l2 (k + 1) _ _ _ _ _ = _
    rw [batch_Change_88.l2, if_neg (by omega), wp, if_pos (by omega), h1, Option.bind_some, w2]
    exact h
   ·refine ⟨X, List.Perm.refl _, .last X (by omega) (bl_srt hb (by omega)), fun res ⟨K, h⟩ => ⟨K + 1, fun k hk => ?_⟩⟩
    obtain ⟨k, rfl⟩ : ∃ m, k = m + 1 := ⟨k - 1, by omega⟩
    have h := h k (by omega); dsimp only at h
    show batch_Change_88.l2 (k + 1) _ _ _ _ _ = _
    rw [batch_Change_88.l2, if_neg (by omega), wp, if_neg (by omega), w2]
    exact h
theorem l1_ev (X0 : List S50) (len : Int) : ∀ (d n : Nat) (X : List S50), X.length - n ≤ d → 1 ≤ n → len = X.length → Fits (X.length + 40) → X.Perm X0 → Bl n X → ∃ S : List S50, S.Perm X0 ∧ Srt S ∧ Ev (fun k => batch_Change_88.l1 k X len (n : Int)) S := by
 intro d
 induction d with
 | zero =>
  intro n X hd n0 hlen hf hp hb
  refine ⟨X, hp, bl_srt hb (by omega), 1, fun k hk => ?_⟩
  obtain ⟨k, rfl⟩ : ∃ m, k = m + 1 := ⟨k - 1, by omega⟩
  show batch_Change_88.l1 (k + 1) _ _ _ = _
  rw [batch_Change_88.l1, if_neg (by omega)]
 | succ d ih =>
  intro n X hd n0 hlen hf hp hb
  have hf0 := hf
  unfold Fits at hf
  by_cases c : n < X.length
  ·obtain ⟨X', p, b, g⟩ := l2_ev len n n0 (by omega) X.length X [] (Nat.le_refl _) (by simp; omega) (by unfold Fits; simp; omega) hb
   have lx := p.length_eq
   obtain ⟨S, p2, s2, h2⟩ := ih (2 * n) X' (by omega) (by omega) (by omega) (by unfold Fits; omega) (p.trans hp) b
   obtain ⟨K, h⟩ := g S (by simpa using h2)
   refine ⟨S, p2, s2, K + 1, fun k hk => ?_⟩
   obtain ⟨k, rfl⟩ : ∃ m, k = m + 1 := ⟨k - 1, by omega⟩
   have h := h k (by omega); dsimp only at h
   simp only [List.nil_append, List.length_nil, Nat.zero_add] at h
   show batch_Change_88.l1 (k + 1) _ _ _ = _
   rw [batch_Change_88.l1, if_pos (by omega), show wrap64 (2 * (n : Int)) = ((2 * n : Nat) : Int) by unfold wrap64; omega]
   exact h
  ·refine ⟨X, hp, bl_srt hb (by omega), 1, fun k hk => ?_⟩
   obtain ⟨k, rfl⟩ : ∃ m, k = m + 1 := ⟨k - 1, by omega⟩
   show batch_Change_88.l1 (k + 1) _ _ _ = _
   rw [batch_Change_88.l1, if_neg (by omega)]
/-- The program's stable sort sorts. -/
theorem sorts_all (l : List S50) (hl : l.length ≤ 900000000000000000) : Sorts l := by
 obtain ⟨X', p, b, g⟩ := l0_ev (l.length : Int) l.length l [] (Nat.le_refl _) (by simp) (by unfold Fits; simp; omega)
 have lx := p.length_eq
 obtain ⟨S, p2, s2, h2⟩ := l1_ev l (l.length : Int) X'.length 20 X' (by omega) (by omega) (by omega) (by unfold Fits; omega) p b
 obtain ⟨K, h⟩ := g S (by simpa using h2)
 refine ⟨S, p2, s2, K, fun k hk => ?_⟩
 have h := h k hk; dsimp only at h
 simp only [List.nil_append, List.length_nil, Nat.zero_add] at h
 show batch_Change_74.f k l = _
 rw [batch_Change_74.f, batch_Change_88.f]
 have h' : batch_Change_88.l0 k l (l.length : Int) 20 0 20 = some S := h
 rw [h']; rfl
end Go.Proofs.Ytgeldmhgbnamcaa.Pure
end
section
namespace Go.Proofs.Ytgeldmhgbnamcaa.P
open Go.RowKit Go.Proofs.YtgeldmhgbnamcaaW.PrintWords Go.Proofs.YtgeldmhgbnamcaaW.PrintLast Go.Proofs.YtgeldmhgbnamcaaW.PrintMore
set_option linter.unusedVariables false
set_option linter.unusedSimpArgs false
/-- The first place at which p holds, or -1. -/
def idxOf {α : Type} (p : α → Bool) (l : List α) : Int := match l.findIdx? p with | some i => (i : Int) | none => -1
theorem idxOf_any {α : Type} (p : α → Bool) (l : List α) : decide (idxOf p l ≥ 0) = l.any p := by
 unfold idxOf
 cases h : l.findIdx? p with
 | none =>
  have h1 := List.findIdx?_eq_none_iff.1 h
  have : l.any p = false := by
   rw [List.any_eq_false]
   intro x hx
   simpa using h1 x hx
  rw [this]
  decide
 | some i =>
  obtain ⟨hi, h1⟩ := List.findIdx?_eq_some_iff_getElem.1 h
  have h2 : l.any p = true := List.any_eq_true.2 ⟨l[i], List.getElem_mem _, h1.1⟩
  rw [h2]
  show decide ((i : Int) ≥ 0) = true
  exact decide_eq_true (by omega)
theorem idxOf_at {α : Type} (p : α → Bool) (l : List α) (d : α) (i : Nat) (hi : i < l.length) (h : p (l.getD i d) = true) (hb : ∀ j, j < i → p (l.getD j d) = false) : idxOf p l = (i : Int) := by
 unfold idxOf
 have : l.findIdx? p = some i := by
  rw [List.findIdx?_eq_some_iff_getElem]
  refine ⟨hi, ⟨by simpa [List.getD, hi] using h, fun j hj => ?_⟩⟩
  have := hb j hj
  simp [List.getD, show j < l.length by omega] at this
  simp [this]
 rw [this]
theorem idxOf_no {α : Type} (p : α → Bool) (l : List α) (d : α) (hb : ∀ j, j < l.length → p (l.getD j d) = false) : idxOf p l = -1 := by
 unfold idxOf
 have : l.findIdx? p = none := by
  rw [List.findIdx?_eq_none_iff]
  intro x hx
  obtain ⟨j, hj, rfl⟩ := List.getElem_of_mem hx
  have := hb j hj
  simpa [List.getD, hj] using this
 rw [this]
set_option maxHeartbeats 1000000 in
set_option maxRecDepth 100000 in
theorem indexFunc_calls (g : FuncId) (lb : Array Value) (p : S50 → Bool) (he : ∀ (args : Array Value) (w : World), (callFunc g args).run Try.prog w = .ok (.enter g args) w) (A0 : Option Addr) (c0 : Nat) (l0 : List S50) (w : World) (hr0 : Kd.C k50 w A0 l0.length l0)
  (hp : ∀ W : World, Below w.heap.size w W → ∀ x : S50, x ∈ l0 → Calls Try.prog g (#[.agg #[.int .i64 x.f0, .int .u64 x.f1, .int .i64 x.f2]] ++ lb) W fun e w' => e = .returned (.bool (p x)) ∧ Below W.heap.size W w') :
  Calls Try.prog 79 #[.slice A0 l0.length c0, .func (.func g) #[] lb] w fun e w' => e = .returned (.int .i64 (idxOf p l0)) ∧ Below w.heap.size w w' := by
 have HR := Aside0.mk hr0
 have HP := Aside0.mk hp
 have hm := hr0.2.1
 clear hr0 hp
 go_enter Try.func79, Try.ntmps79
 go_wp2
 go_loopw [8] (fun v8 wr => ∃ i : Int, v8 = .int .i64 i ∧ Aside0 (0 ≤ i ∧ i ≤ l0.length ∧ ∀ j : Nat, (j : Int) < i → p (l0.getD j z50) = false) ∧ Aside0 (Below w.heap.size w wr)) (fun v8 _ => l0.length - (intOf v8).toNat)
 case atStart => exact ⟨0, rfl, ⟨by omega, by omega, fun j hj => by omega⟩, ⟨Below.refl _ _⟩⟩
 case round =>
  obtain ⟨i, rfl, HI, HB⟩ := hrel
  have h0 := HI.out.1
  have h1 := HI.out.2.1
  by_cases hlt : i < (l0.length : Int)
  ·obtain ⟨ad, rfl, hx0, hx1, hx2⟩ := at_T50 (Kd.C_below HR.out HB.out) i h0 hlt
   have hmem : (rd_T50 l0 i) ∈ l0 := by
    unfold rd_T50
    rw [List.getD_eq_getElem?_getD, List.getElem?_eq_getElem (by omega)]
    exact List.getElem_mem _
   have HC := Aside0.mk (HP.out wr HB.out (rd_T50 l0 i) hmem)
   clear hmem
   cases hpx : p (rd_T50 l0 i) with
   | true =>
    have HX := Aside0.mk hpx
    rw [hpx] at HC
    clear hpx
    go_wp2_with (first | ((with_reducible refine HC.out.mono ?_); rintro e w3 ⟨rfl, hb⟩; have HB3 := Aside0.mk (below_step HB.out hb); clear hb))
    go_ret
    have e1 : idxOf p l0 = i := by rw [idxOf_at p l0 z50 i.toNat (by omega) HX.out (fun j hj => HI.out.2.2 j (by omega))]; exact Int.toNat_of_nonneg h0
    exact ⟨by rw [e1]; rfl, HB3.out⟩
   | false =>
    have HX := Aside0.mk hpx
    rw [hpx] at HC
    clear hpx
    go_wp2_with (first | ((with_reducible refine HC.out.mono ?_); rintro e w3 ⟨rfl, hb⟩; have HB3 := Aside0.mk (below_step HB.out hb); clear hb))
    go_roundw
    case rel =>
     refine ⟨i + 1, by go_num, ⟨by omega, by omega, fun j hj => ?_⟩, ⟨HB3.out⟩⟩
     by_cases hj2 : (j : Int) < i
     ·exact HI.out.2.2 j hj2
     ·obtain rfl : j = i.toNat := by omega
      exact HX.out
    case measure => simp [intOf]; omega
  ·go_wp2
   go_ret
   exact ⟨by rw [idxOf_no p l0 z50 (fun j hj => HI.out.2.2 j (by omega))]; rfl, HB.out⟩
set_option maxHeartbeats 400000 in
theorem containsFunc_calls (g : FuncId) (lb : Array Value) (p : S50 → Bool) (he : ∀ (args : Array Value) (w : World), (callFunc g args).run Try.prog w = .ok (.enter g args) w) (A0 : Option Addr) (c0 : Nat) (l0 : List S50) (w : World) (hr0 : Kd.C k50 w A0 l0.length l0)
  (hp : ∀ W : World, Below w.heap.size w W → ∀ x : S50, x ∈ l0 → Calls Try.prog g (#[.agg #[.int .i64 x.f0, .int .u64 x.f1, .int .i64 x.f2]] ++ lb) W fun e w' => e = .returned (.bool (p x)) ∧ Below W.heap.size W w') :
  Calls Try.prog 59 #[.slice A0 l0.length c0, .func (.func g) #[] lb] w fun e w' => e = .returned (.bool (l0.any p)) ∧ Below w.heap.size w w' := by
 have HC := Aside0.mk (indexFunc_calls g lb p he A0 c0 l0 w hr0 hp)
 clear hr0 hp he
 have HA := Aside0.mk (idxOf_any p l0)
 generalize hq : idxOf p l0 = q at HC HA
 clear hq
 go_enter Try.func59, Try.ntmps59
 go_wp2_with (first | (go_at_call 79; refine HC.out.mono ?_; rintro e w3 ⟨rfl, hb⟩; have HB3 := Aside0.mk hb; clear hb))
 go_ret
 exact ⟨by rw [← HA.out]; rfl, HB3.out⟩
def slices_ContainsNone.f (l0 : List S50) : Option Bool := some (l0.any fun x => decide (x.f2 ≤ 0))
set_option maxHeartbeats 400000 in
theorem none_calls (x : S50) (W : World) : Calls Try.prog 61 (#[.agg #[.int .i64 x.f0, .int .u64 x.f1, .int .i64 x.f2]] ++ #[]) W fun e w' => e = .returned (.bool (decide (x.f2 ≤ 0))) ∧ Below W.heap.size W w' := by
 show Calls Try.prog 61 #[.agg #[.int .i64 x.f0, .int .u64 x.f1, .int .i64 x.f2]] W _
 go_enter Try.func61, Try.ntmps61
 go_wp2
 go_ret
 exact ⟨rfl, (Below.refl _ _).alloc (Nat.le_refl _) _⟩
theorem slices_ContainsNone.calls (A0 : Option Addr) (c0 : Nat) (l0 : List S50) (r : Bool) (w : World) (hr0 : Kd.C k50 w A0 l0.length l0) (hc0 : l0.length ≤ c0) (h : slices_ContainsNone.f l0 = some r) :
  Calls Try.prog 59 #[.slice A0 l0.length c0, .func (.func 61) #[] #[]] w fun e w' => e = .returned (.bool r) ∧ Below w.heap.size w w' := by
 obtain rfl := Option.some.inj h
 exact containsFunc_calls 61 #[] _ (fun args w => enters_ Try.func61 (by kernel_rfl) rfl args w) A0 c0 l0 w hr0 (fun W _ x _ => none_calls x W)
end Go.Proofs.Ytgeldmhgbnamcaa.P
end
section
namespace Go.Proofs.Ytgeldmhgbnamcaa.P
open Go.RowKit Go.Proofs.YtgeldmhgbnamcaaW.PrintWords Go.Proofs.YtgeldmhgbnamcaaW.PrintLast Go.Proofs.YtgeldmhgbnamcaaW.PrintMore
set_option linter.unusedVariables false
set_option linter.unusedSimpArgs false
theorem heap50 : Kd.Heap k50 := Kd.heap_iso _ (Kd.heap_pair (Kd.heap_int .i64) (Kd.heap_pair (Kd.heap_int .u64) (Kd.heap_int .i64)))
def bag_below (k : Nat) (l0 : List S50) (x : S50) : Option Bool := (batch_Of.f k l0 x.f0 x.f1).bind fun t => some (decide (wrap64 (t + x.f2) < 0))
theorem bag_below.mono (l0 : List S50) (x : S50) (k : Nat) : LeO (bag_below k l0 x) (bag_below (k + 1) l0 x) := by
 unfold bag_below
 exact LeO.bind (batch_Of.mono _ _ _ k) (fun _ => LeO.refl _)
theorem below_next {W w1 w' : World} {g : Nat} {u v0 v1 v2 : Value} (hgl : g < W.heap.size) (hS : w1.cell? ⟨g, 0, none⟩ = some u ∧ w1.cell? ⟨W.heap.size, 0, none⟩ = some v0 ∧ w1.cell? ⟨W.heap.size, 1, none⟩ = some v1 ∧ w1.cell? ⟨W.heap.size, 2, none⟩ = some v2 ∧ Below W.heap.size W w1 ∧ W.heap.size < w1.heap.size) (hb : Below w1.heap.size w1 w') :
  w'.cell? ⟨g, 0, none⟩ = some u ∧ w'.cell? ⟨W.heap.size, 0, none⟩ = some v0 ∧ w'.cell? ⟨W.heap.size, 1, none⟩ = some v1 ∧ w'.cell? ⟨W.heap.size, 2, none⟩ = some v2 ∧ Below W.heap.size W w' ∧ W.heap.size < w'.heap.size := by
 obtain ⟨hg, h0, h1, h2, hB, hs⟩ := hS
 exact ⟨(hb.cell (p := ⟨g, 0, none⟩) (Nat.lt_trans hgl hs)).trans hg, (hb.cell (p := ⟨W.heap.size, 0, none⟩) hs).trans h0, (hb.cell (p := ⟨W.heap.size, 1, none⟩) hs).trans h1, (hb.cell (p := ⟨W.heap.size, 2, none⟩) hs).trans h2, below_step hB hb, Nat.lt_of_lt_of_le hs hb.size⟩
theorem below_last {W w1 : World} {g : Nat} {u v0 v1 v2 : Value} (hS : w1.cell? ⟨g, 0, none⟩ = some u ∧ w1.cell? ⟨W.heap.size, 0, none⟩ = some v0 ∧ w1.cell? ⟨W.heap.size, 1, none⟩ = some v1 ∧ w1.cell? ⟨W.heap.size, 2, none⟩ = some v2 ∧ Below W.heap.size W w1 ∧ W.heap.size < w1.heap.size) : Below W.heap.size W w1 := hS.2.2.2.2.1
theorem below_reads {W w1 : World} {g : Nat} {u v0 v1 v2 : Value} {A0 : Option Addr} {n : Nat} {l0 : List S50} (hr : Kd.C k50 W A0 n l0) (hS : w1.cell? ⟨g, 0, none⟩ = some u ∧ w1.cell? ⟨W.heap.size, 0, none⟩ = some v0 ∧ w1.cell? ⟨W.heap.size, 1, none⟩ = some v1 ∧ w1.cell? ⟨W.heap.size, 2, none⟩ = some v2 ∧ Below W.heap.size W w1 ∧ W.heap.size < w1.heap.size) : Kd.C k50 w1 A0 n l0 := Kd.C_below hr hS.2.2.2.2.1
set_option maxHeartbeats 1000000 in
set_option maxRecDepth 100000 in
theorem below_calls (k : Nat) (x : S50) (g : Nat) (A0 : Option Addr) (c0 : Nat) (l0 : List S50) (t : Int) (W : World) (hg : W.cell? ⟨g, 0, none⟩ = some (.slice A0 l0.length c0)) (hr : Kd.C k50 W A0 l0.length l0) (hc : l0.length ≤ c0) (ht : batch_Of.f k l0 x.f0 x.f1 = some t) :
  Calls Try.prog 58 (#[.agg #[.int .i64 x.f0, .int .u64 x.f1, .int .i64 x.f2]] ++ #[.pointer (some ⟨g, 0, none⟩)]) W fun e w' => e = .returned (.bool (decide (wrap64 (t + x.f2) < 0))) ∧ Below W.heap.size W w' := by
 show Calls Try.prog 58 #[.agg #[.int .i64 x.f0, .int .u64 x.f1, .int .i64 x.f2], .pointer (some ⟨g, 0, none⟩)] W _
 have hgl := World.block_lt_of_cell? W _ hg
 have HR := Aside0.mk hr
 have HC := Aside0.mk hc
 have HT := Aside0.mk ht
 have HG := Aside0.mk hg
 have HL := Aside0.mk hgl
 clear hr hc ht hg hgl
 go_enter Try.func58, Try.ntmps58
 go_wp2_with fail
 have s0 : Below W.heap.size W (W.alloc (.cells #[.int .i64 x.f0, .int .u64 x.f1, .int .i64 x.f2] 50)) := (Below.refl _ _).alloc (Nat.le_refl _) _
 have s1 : (W.alloc (.cells #[.int .i64 x.f0, .int .u64 x.f1, .int .i64 x.f2] 50)).cell? ⟨W.heap.size, 0, none⟩ = some (.int .i64 x.f0) := by simp [go_sem]
 have s2 : (W.alloc (.cells #[.int .i64 x.f0, .int .u64 x.f1, .int .i64 x.f2] 50)).cell? ⟨W.heap.size, 1, none⟩ = some (.int .u64 x.f1) := by simp [go_sem]
 have s3 : (W.alloc (.cells #[.int .i64 x.f0, .int .u64 x.f1, .int .i64 x.f2] 50)).cell? ⟨W.heap.size, 2, none⟩ = some (.int .i64 x.f2) := by simp [go_sem]
 have s4 : (W.alloc (.cells #[.int .i64 x.f0, .int .u64 x.f1, .int .i64 x.f2] 50)).cell? ⟨g, 0, none⟩ = some (.slice A0 l0.length c0) := (s0.cell (p := ⟨g, 0, none⟩) HL.out).trans HG.out
 have s5 : W.heap.size < (W.alloc (.cells #[.int .i64 x.f0, .int .u64 x.f1, .int .i64 x.f2] 50)).heap.size := by simp
 generalize W.alloc (.cells #[.int .i64 x.f0, .int .u64 x.f1, .int .i64 x.f2] 50) = W1 at *
 go_region_held3 (fun w' => w'.cell? ⟨g, 0, none⟩ = some (.slice A0 l0.length c0) ∧ w'.cell? ⟨W.heap.size, 0, none⟩ = some (.int .i64 x.f0) ∧ w'.cell? ⟨W.heap.size, 1, none⟩ = some (.int .u64 x.f1) ∧ w'.cell? ⟨W.heap.size, 2, none⟩ = some (.int .i64 x.f2) ∧ Below W.heap.size W w' ∧ W.heap.size < w'.heap.size)
  (first | exact ⟨s4, s1, s2, s3, below_drew s0, s5⟩ | exact hN)
  (first | (go_at_call 23; refine (batch_Of.calls k A0 c0 l0 x.f0 x.f1 t _ ?_ HC.out HT.out).mono ?_; (exact below_reads (g := g) HR.out (by assumption)); rintro e w' ⟨rfl, hb⟩; have hN := below_next HL.out (by assumption) hb; clear hb))
 go_wp2
 go_ret
 exact ⟨by rw [← i64_w]; rfl, below_last (g := g) (by assumption)⟩
end Go.Proofs.Ytgeldmhgbnamcaa.P
end
section
namespace Go.Proofs.Ytgeldmhgbnamcaa.P
open Go.RowKit Go.Proofs.YtgeldmhgbnamcaaW.PrintWords Go.Proofs.YtgeldmhgbnamcaaW.PrintLast Go.Proofs.YtgeldmhgbnamcaaW.PrintMore
set_option linter.unusedVariables false
set_option linter.unusedSimpArgs false
def bag_Apply.f (k : Nat) (l0 l1 : List S50) : Option (List S50 × Int) :=
 if l1.all (fun x => (bag_below k l0 x).isSome) = true then (if l1.any (fun x => bag_below k l0 x == some true) = true then some ([], 11) else batch_Merge.f k l0 l1) else none
theorem bag_Apply.mono : ∀ a0 a1 k, LeO (bag_Apply.f k a0 a1) (bag_Apply.f (k + 1) a0 a1) := by
 intro l0 l1 k r h
 unfold bag_Apply.f at h ⊢
 by_cases h1 : l1.all (fun x => (bag_below k l0 x).isSome) = true
 ·rw [if_pos h1] at h
  have hb : ∀ x, x ∈ l1 → bag_below (k + 1) l0 x = bag_below k l0 x := fun x hx => by
   have h2 := List.all_eq_true.1 h1 x hx
   obtain ⟨b, hb⟩ := Option.isSome_iff_exists.1 h2
   rw [hb]; exact bag_below.mono l0 x k b hb
  have h3 : l1.all (fun x => (bag_below (k + 1) l0 x).isSome) = true := List.all_eq_true.2 fun x hx => by rw [hb x hx]; exact List.all_eq_true.1 h1 x hx
  have h4 : l1.any (fun x => bag_below (k + 1) l0 x == some true) = l1.any (fun x => bag_below k l0 x == some true) := by
   rw [Bool.eq_iff_iff, List.any_eq_true, List.any_eq_true]
   exact ⟨fun ⟨x, hx, h⟩ => ⟨x, hx, by rw [hb x hx] at h; exact h⟩, fun ⟨x, hx, h⟩ => ⟨x, hx, by rw [hb x hx]; exact h⟩⟩
  rw [if_pos h3, h4]
  by_cases h5 : l1.any (fun x => bag_below k l0 x == some true) = true
  ·rw [if_pos h5] at h ⊢; exact h
  ·rw [if_neg h5] at h ⊢; exact batch_Merge.mono _ _ _ _ h
 ·rw [if_neg h1] at h; cases h
set_option maxHeartbeats 1000000 in
set_option maxRecDepth 100000 in
theorem bag_Apply.calls (k : Nat) (A0 : Option Addr) (c0 : Nat) (l0 : List S50) (A1 : Option Addr) (c1 : Nat) (l1 : List S50) (r1 : List S50) (r2 : Int) (w : World) (hr0 : Kd.C k50 w A0 l0.length l0) (hc0 : l0.length ≤ c0) (hr1 : Kd.C k50 w A1 l1.length l1) (hc1 : l1.length ≤ c1) (h : bag_Apply.f k l0 l1 = some (r1, r2)) :
  Calls Try.prog 27 #[.slice A0 l0.length c0, .slice A1 l1.length c1] w fun e w' => ∃ v0_ : Value, e = .returned (.tuple #[v0_, .int .i64 r2]) ∧ Kd.R k50 50 w' w.heap.size (fun _ => True) v0_ r1 ∧ Below w.heap.size w w' := by
 unfold bag_Apply.f at h
 by_cases hall : l1.all (fun x => (bag_below k l0 x).isSome) = true
 ·rw [if_pos hall] at h
  have hs : ∀ x, x ∈ l1 → ∃ t, batch_Of.f k l0 x.f0 x.f1 = some t ∧ (bag_below k l0 x == some true) = decide (wrap64 (t + x.f2) < 0) := fun x hx => by
   have h2 := List.all_eq_true.1 hall x hx
   unfold bag_below at h2 ⊢
   cases ht : batch_Of.f k l0 x.f0 x.f1 with
   | none => rw [ht] at h2; simp at h2
   | some t => exact ⟨t, rfl, by simp⟩
  clear hall
  have hB0 : Below w.heap.size w (w.alloc (.cells #[.slice A0 l0.length c0] 25)) := (Below.refl _ _).alloc (Nat.le_refl _) _
  have hg0 : (w.alloc (.cells #[.slice A0 l0.length c0] 25)).cell? ⟨w.heap.size, 0, none⟩ = some (.slice A0 l0.length c0) := by simp [go_sem]
  have hlt0 : w.heap.size < (w.alloc (.cells #[.slice A0 l0.length c0] 25)).heap.size := by simp
  have hcf := containsFunc_calls 58 #[.pointer (some ⟨w.heap.size, 0, none⟩)] (fun x => bag_below k l0 x == some true) (fun args w => enters_ Try.func58 (by kernel_rfl) rfl args w) A1 c1 l1 (w.alloc (.cells #[.slice A0 l0.length c0] 25)) (Kd.C_below hr1 hB0)
   (fun W hW x hx => by
    obtain ⟨t, ht, hd⟩ := hs x hx
    refine (below_calls k x w.heap.size A0 c0 l0 t W ((hW.cell (p := ⟨w.heap.size, 0, none⟩) hlt0).trans hg0) (Kd.C_below (Kd.C_below hr0 hB0) hW) hc0 ht).mono ?_
    rintro e w' ⟨he, hb⟩
    exact ⟨by rw [he, hd], hb⟩)
  generalize hany : l1.any (fun x => bag_below k l0 x == some true) = q at h hcf
  have HCF := Aside0.mk hcf
  have HR0 := Aside0.mk hr0
  have HR1 := Aside0.mk hr1
  have HC0 := Aside0.mk hc0
  have HC1 := Aside0.mk hc1
  have HB0 := Aside0.mk hB0
  have HG0 := Aside0.mk hg0
  have HLT0 := Aside0.mk hlt0
  clear hcf hr0 hr1 hc0 hc1 hB0 hg0 hlt0 hany hs
  cases q with
  | true =>
   rw [if_pos rfl] at h
   obtain ⟨rfl, rfl⟩ := Prod.mk.inj (Option.some.inj h)
   clear h
   go_enter Try.func27, Try.ntmps27
   go_wp2_with (first | (go_at_call 59; refine HCF.out.mono ?_; rintro e w3 ⟨rfl, hb⟩; have HB3 := Aside0.mk (below_step HB0.out hb); clear hb))
   go_ret2
   exact ⟨_, rfl, Kd.R_nil _ _ _ _ _, HB3.out⟩
  | false =>
   rw [if_neg (by decide)] at h
   have HM := Aside0.mk h
   clear h
   go_enter Try.func27, Try.ntmps27
   go_wp2_with (first | (go_at_call 59; refine HCF.out.mono ?_; rintro e w3 ⟨rfl, hb⟩; have HB3 := Aside0.mk (below_step HB0.out hb); have hg3 := (hb.cell (p := ⟨w.heap.size, 0, none⟩) HLT0.out).trans HG0.out; clear hb) | (go_at_call 25; refine (batch_Merge.calls k (fun k_ => k_ < w.heap.size) A0 c0 l0 (fun k_ => k_ < w.heap.size) A1 c1 l1 r1 r2 _ ?s0 ?s1 HM.out).mono ?_; (case s0 => exact Kd.V_mk HC0.out (Kd.F_below (Kd.C_F heap50 HR0.out) HB3.out)); (case s1 => exact Kd.V_mk HC1.out (Kd.F_below (Kd.C_F heap50 HR1.out) HB3.out)); rintro e w4 ⟨v4, rfl, ho, hb⟩; have HB4 := Aside0.mk (below_step HB3.out hb); have HO4 := Aside0.mk (Kd.R_lower (Kd.R_mono ho (fun _ _ => trivial)) HB3.out.size); clear ho hb))
   go_ret2
   exact ⟨_, rfl, HO4.out, HB4.out⟩
 ·rw [if_neg hall] at h
  cases h
end Go.Proofs.Ytgeldmhgbnamcaa.P
end
section
/- Plain laws of bags, first part: Concat, Merge, Apply, Least, Right; the reference's Fix of bags. -/
namespace Go.Proofs.Ytgeldmhgbnamcaa.Pure
open Go.RowKit Go.Proofs.Ytgeldmhgbnamcaa.P Go.Proofs.YtgeldmhgbnamcaaW.PrintWords Go.Proofs.YtgeldmhgbnamcaaW.PrintLast
set_option linter.unusedVariables false
set_option linter.unusedSimpArgs false
theorem concat_ev (a b : List S50) (h : Short (a.length + b.length)) : Ev (fun k => batch_Change_57.f k [a, b]) (a ++ b) := by
 unfold Short at h
 refine ⟨8, fun k hk => ?_⟩
 obtain ⟨k, rfl⟩ : ∃ m, k = m + 8 := ⟨k - 8, by omega⟩
 have w0 : wrap64 (0 + 1) = 1 := by unfold wrap64; omega
 have w1 : wrap64 (1 + 1) = 2 := by unfold wrap64; omega
 have a0 : wrap64 (0 + (a.length : Int)) = a.length := by unfold wrap64; omega
 have a1 : wrap64 ((a.length : Int) + (b.length : Int)) = ((a.length + b.length : Nat) : Int) := by unfold wrap64; omega
 have r0 : rd_L4 [a, b] 0 = a := rfl
 have r1 : rd_L4 [a, b] 1 = b := rfl
 have n2 : (([a, b] : List (List S50)).length : Int) = 2 := rfl
 show batch_Change_57.f (k + 8) [a, b] = _
 rw [batch_Change_57.f, n2]
 rw [batch_Change_57.l0, n2, if_pos (by omega), if_pos (by omega), if_pos (by omega), r0, a0, if_neg (by omega), w0]
 rw [batch_Change_57.l0, n2, if_pos (by omega), if_pos (by omega), if_pos (by omega), r1, a1, if_neg (by omega), w1]
 rw [batch_Change_57.l0, if_neg (by omega), slices_GrowNil.f, if_pos (by omega), if_pos (by omega), Option.bind_some, n2]
 rw [batch_Change_57.l1, n2, if_pos (by omega), if_pos (by omega), if_pos (by omega), r0, if_pos (by simp; omega), w0]
 rw [batch_Change_57.l1, n2, if_pos (by omega), if_pos (by omega), if_pos (by omega), r1, if_pos (by simp; omega), w1]
 rw [batch_Change_57.l1, if_neg (by omega)]
 simp
theorem merge_ev {a b : List S50} (hs : Sorts (a ++ b)) (h : Short (a.length + b.length)) : Ev (fun k => batch_Merge.f k a b) (sumv (a ++ b)) := by
 obtain ⟨s, K1, h1⟩ := summed_ev hs (by unfold Short at *; simpa using h)
 obtain ⟨K2, h2⟩ := concat_ev a b h
 refine ⟨K1 + K2, fun k hk => ?_⟩
 have h1 := h1 k (by omega); have h2 := h2 k (by omega); dsimp only at h1 h2
 show batch_Merge.f k a b = _
 rw [batch_Merge.f, h2, Option.bind_some, h1, Option.bind_some]
 unfold sumo sumv
 split <;> simp
/-! ### Least -/
/-! ### the reference's Fix of bags -/
end Go.Proofs.Ytgeldmhgbnamcaa.Pure
end
section
/- Plain laws of batches: how many there are of each key; what is small is told by that alone. -/
namespace Go.Proofs.Ytgeldmhgbnamcaa.Pure
open Go.RowKit Go.Proofs.Ytgeldmhgbnamcaa.P Go.Proofs.YtgeldmhgbnamcaaW.PrintWords Go.Proofs.YtgeldmhgbnamcaaW.PrintLast
set_option linter.unusedVariables false
set_option linter.unusedSimpArgs false
/-- how many of a key, all told -/
def cnt : List S50 → S50 → Int
 | [], _ => 0
 | x :: l, q => (if ke x q then x.f2 else 0) + cnt l q
/-- all counts together, without their signs -/
def mass : List S50 → Nat
 | [] => 0
 | x :: l => x.f2.natAbs + mass l
theorem cnt_append (a b : List S50) (q : S50) : cnt (a ++ b) q = cnt a q + cnt b q := by
 induction a with
 | nil => simp [cnt]
 | cons x a ih => simp only [List.cons_append, cnt, ih]; omega
theorem mass_append (a b : List S50) : mass (a ++ b) = mass a + mass b := by
 induction a with
 | nil => simp [mass]
 | cons x a ih => simp only [List.cons_append, mass, ih]; omega
theorem cnt_mass (a : List S50) (q : S50) : (cnt a q).natAbs ≤ mass a := by
 induction a with
 | nil => simp [cnt]
 | cons x a ih => simp only [cnt, mass]; split <;> omega
theorem ofv_nil (q : S50) : ofv [] q = 0 := rfl
theorem ofv_cons (y : S50) (l : List S50) (q : S50) : ofv (y :: l) q = if ke y q then y.f2 else ofv l q := by
 unfold ofv
 rw [List.find?_cons]
 by_cases h : ke y q
 ·rw [if_pos h]; simp [h]
 ·rw [if_neg h]; simp [h]
theorem ofv_none {l : List S50} {q : S50} (h : ∀ y ∈ l, ¬ ke y q) : ofv l q = 0 := by
 unfold ofv
 rw [List.find?_eq_none.2 (fun y hy => by simpa using h y hy)]
theorem ofv_ins {x : S50} (q : S50) : ∀ {G : List S50}, Str G → (ofv G x + x.f2).natAbs ≤ 1000000000 → ofv (ins x G) q = ofv G q + if ke x q then x.f2 else 0 := by
 intro G
 induction G with
 | nil => intro _ _; simp only [ins, ofv_cons, ofv_nil]; omega
 | cons y G ih =>
  intro hs hb
  obtain ⟨h1, h2⟩ := List.pairwise_cons.1 hs
  simp only [ins]
  by_cases e : ke y x
  ·rw [if_pos e, ofv_cons, ofv_cons]
   rw [ofv_cons, if_pos e] at hb
   have w : (plus y x).f2 = y.f2 + x.f2 := by show wrap64 (y.f2 + x.f2) = _; unfold wrap64; omega
   have k1 : ke (plus y x) q ↔ ke y q := Iff.rfl
   by_cases c : ke y q
   ·have c' : ke x q := by unfold ke at *; omega
    rw [if_pos (k1.2 c), if_pos c, if_pos c', w]
   ·have c' : ¬ ke x q := by unfold ke at *; omega
    rw [if_neg (fun k => c (k1.1 k)), if_neg c, if_neg c']; omega
  ·rw [if_neg e]
   by_cases c : kl x y
   ·rw [if_pos c, ofv_cons]
    by_cases d : ke x q
    ·have nn : ∀ z ∈ y :: G, ¬ ke z q := fun z hz => by
      rcases List.mem_cons.1 hz with rfl | hz
      ·unfold kl ke at *; omega
      ·have := h1 z hz; unfold kl ke at *; omega
     rw [if_pos d, if_pos d, ofv_none nn]; omega
    ·rw [if_neg d, if_neg d]; omega
   ·rw [if_neg c, ofv_cons, ofv_cons]
    rw [ofv_cons, if_neg e] at hb
    by_cases d : ke y q
    ·have d' : ¬ ke x q := by unfold ke at *; omega
     rw [if_pos d, if_pos d, if_neg d']; omega
    ·rw [if_neg d, if_neg d]; exact ih h2 hb
theorem ofv_fold : ∀ (l G : List S50), Str G → (∀ q, (ofv G q).natAbs + mass l ≤ 1000000000) → ∀ q, ofv (l.foldl (fun a x => ins x a) G) q = ofv G q + cnt l q := by
 intro l
 induction l with
 | nil => intro G _ _ q; simp [cnt]
 | cons x l ih =>
  intro G hs hb q
  have hx := hb x
  simp only [mass] at hx hb
  have o : ∀ q, ofv (ins x G) q = ofv G q + if ke x q then x.f2 else 0 := fun q => ofv_ins q hs (by omega)
  rw [List.foldl_cons, ih (ins x G) (ins_str hs) (fun q => by rw [o q]; have := hb q; split <;> omega) q, o q, cnt]
  omega
theorem ofv_tot {l : List S50} (h : mass l ≤ 1000000000) (q : S50) : ofv (tot l) q = cnt l q := by
 have := ofv_fold l [] List.Pairwise.nil (fun q => by rw [ofv_nil]; simpa using h) q
 rw [ofv_nil] at this
 unfold tot
 omega
theorem ofv_self {X : List S50} (hs : Str X) {y : S50} (hy : y ∈ X) : ofv X y = y.f2 := by
 have := ofv_of_mem hs hy y.f2
 exact this
theorem small_good {l : List S50} (h : mass l ≤ 1000000000) : good (tot l) = true := by
 unfold good
 rw [List.all_eq_true]
 intro y hy
 have e := ofv_self (tot_str l) hy
 rw [ofv_tot h] at e
 have := cnt_mass l y
 exact decide_eq_true (by unfold wi; omega)
/-- the batch of a list of small counts -/
def K (l : List S50) : List S50 := fin (tot l)
/-- rising, none of nothing -/
def Cn (l : List S50) : Prop := Str l ∧ ∀ x ∈ l, x.f2 ≠ 0
theorem K_cn (l : List S50) : Cn (K l) := ⟨(tot_str l).sublist List.filter_sublist, fun x hx => of_decide_eq_true (List.mem_filter.1 hx).2⟩
theorem ofv_fin {G : List S50} (hs : Str G) (q : S50) : ofv (fin G) q = ofv G q := by
 induction G with
 | nil => rfl
 | cons y G ih =>
  obtain ⟨h1, h2⟩ := List.pairwise_cons.1 hs
  by_cases z : y.f2 = 0
  ·have e : fin (y :: G) = fin G := by simp [fin, z]
   rw [e, ih h2, ofv_cons]
   by_cases c : ke y q
   ·rw [if_pos c, z]
    exact ofv_none (fun w hw => by have := h1 w hw; unfold kl ke at *; omega)
   ·rw [if_neg c]
  ·have e : fin (y :: G) = y :: fin G := by simp [fin, z]
   rw [e, ofv_cons, ofv_cons, ih h2]
theorem ofv_K {l : List S50} (h : mass l ≤ 1000000000) (q : S50) : ofv (K l) q = cnt l q := by unfold K; rw [ofv_fin (tot_str l), ofv_tot h]
theorem cnt_str {A : List S50} (hs : Str A) (q : S50) : cnt A q = ofv A q := by
 induction A with
 | nil => rfl
 | cons y A ih =>
  obtain ⟨h1, h2⟩ := List.pairwise_cons.1 hs
  rw [cnt, ofv_cons, ih h2]
  by_cases c : ke y q
  ·rw [if_pos c, if_pos c, ofv_none (fun w hw => by have := h1 w hw; unfold kl ke at *; omega)]; omega
  ·rw [if_neg c, if_neg c]; omega
theorem wrap_abs (z : Int) : (wrap64 z).natAbs ≤ z.natAbs := by unfold wrap64; omega
theorem mass_ins (x : S50) : ∀ G : List S50, mass (ins x G) ≤ x.f2.natAbs + mass G := by
 intro G
 induction G with
 | nil => simp [ins, mass]
 | cons y G ih =>
  simp only [ins]
  split
  ·have := wrap_abs (y.f2 + x.f2); simp only [mass, plus]; omega
  ·split
   ·simp only [mass]; omega
   ·simp only [mass]; omega
theorem mass_fold : ∀ (l G : List S50), mass (l.foldl (fun a x => ins x a) G) ≤ mass G + mass l := by
 intro l
 induction l with
 | nil => intro G; simp [mass]
 | cons x l ih => intro G; have := ih (ins x G); have := mass_ins x G; simp only [List.foldl_cons, mass]; omega
theorem mass_fin : ∀ G : List S50, mass (fin G) ≤ mass G := by
 intro G
 induction G with
 | nil => exact Nat.le_refl _
 | cons y G ih =>
  rw [fin_cons, mass_append]
  have : mass (fin [y]) ≤ y.f2.natAbs := by simp only [fin, List.filter_cons]; split <;> simp [mass]
  simp only [mass]; omega
theorem mass_K (l : List S50) : mass (K l) ≤ mass l := by
 have h1 := mass_fin (tot l)
 have h2 := mass_fold l []
 simp only [mass, Nat.zero_add] at h2
 unfold K tot at *
 omega
theorem K_len (l : List S50) : (K l).length ≤ l.length := by have h1 := fin_len (tot l); have h2 := tot_len l; unfold K; omega
theorem sumv_K {l : List S50} (h : mass l ≤ 1000000000) : sumv l = (K l, 0) := by unfold sumv K; rw [if_pos (small_good h)]
theorem sumk_K {l : List S50} (h : mass l ≤ 1000000000) : sumk l = K l := by unfold sumk K; rw [if_pos (small_good h)]
/-! ### what is computed -/
/-- one entry of a batch would leave a count below nought -/
def bel (A B : List S50) : Bool := B.any (fun x => decide (wrap64 (ofv A ⟨x.f0, x.f1, 0⟩ + x.f2) < 0))
end Go.Proofs.Ytgeldmhgbnamcaa.Pure
end
section
/- Plain laws of batches: what the laws' Fixes make is small; merges of what is small. -/
namespace Go.Proofs.Ytgeldmhgbnamcaa.Pure
open Go.RowKit Go.Proofs.Ytgeldmhgbnamcaa.P Go.Proofs.YtgeldmhgbnamcaaW.PrintWords Go.Proofs.YtgeldmhgbnamcaaW.PrintLast
set_option linter.unusedVariables false
set_option linter.unusedSimpArgs false
theorem mass_le {B : Nat} : ∀ {l : List S50}, (∀ x ∈ l, x.f2.natAbs ≤ B) → mass l ≤ B * l.length := by
 intro l
 induction l with
 | nil => intro _; simp [mass]
 | cons x l ih =>
  intro h
  have h1 := h x (by simp)
  have h2 := ih (fun y hy => h y (by simp [hy]))
  simp only [mass, List.length_cons, Nat.mul_add, Nat.mul_one]
  omega
theorem fix1_abs (x : S40) : (fix1 x).f2.natAbs ≤ 999 := by
 show (Int.tmod x.f2 1000).natAbs ≤ 999
 rw [Int.natAbs_tmod]
 have := Nat.mod_lt x.f2.natAbs (show 0 < (1000 : Int).natAbs by decide)
 have e : (1000 : Int).natAbs = 1000 := rfl
 omega
/-- a batch that is right and small -/
structure Sm (A : List S50) (n : Nat) : Prop where
 rt : Rt A
 len : A.length ≤ n
 ms : mass A ≤ 1000 * n
theorem Sm.cn {A : List S50} {n : Nat} (h : Sm A n) : Cn A := ⟨h.rt.1, fun x hx => (h.rt.2 x hx).2⟩
theorem fix_sm {X : List S40} (h : ∀ y ∈ X, wfC y) : Sm (sumk ((X.take 12).map fix1)) 12 := by
 have lm : ((X.take 12).map fix1).length ≤ 12 := by rw [List.length_map, List.length_take]; omega
 have m : mass ((X.take 12).map fix1) ≤ 12000 := by
  have := mass_le (B := 999) (l := (X.take 12).map fix1) (fun x hx => by obtain ⟨y, _, rfl⟩ := List.mem_map.1 hx; exact fix1_abs y)
  omega
 refine ⟨fix_rt h, ?_, ?_⟩
 ·have := sumk_len ((X.take 12).map fix1); omega
 ·rw [sumk_K (by omega)]; have := mass_K ((X.take 12).map fix1); omega
theorem K_sm {l : List S50} {n : Nat} (hn : n ≤ 1000) (h : ∀ x ∈ l, wrongv x = 0) (hl : l.length ≤ n) (hm : mass l ≤ 1000 * n) : Sm (K l) n := by
 have s := small_good (l := l) (by omega)
 refine ⟨⟨(K_cn l).1, fun x hx => ⟨?_, (K_cn l).2 x hx⟩⟩, ?_, ?_⟩
 ·obtain ⟨hm', hz⟩ := List.mem_filter.1 hx
  obtain ⟨y, hy, ek⟩ := tot_mem hm'
  have hy := h y hy
  have hwi : wi x.f2 := of_decide_eq_true (List.all_eq_true.1 s x hm')
  unfold wrongv at hy ⊢
  rw [ek.1, ek.2]
  split at hy
  ·simp at hy
  rename_i a
  split at hy
  ·simp at hy
  rename_i b
  rw [if_neg a, if_neg b, if_pos hwi]
 ·have := K_len l; omega
 ·have := mass_K l; omega
theorem sm_append {A B : List S50} {n m : Nat} (hA : Sm A n) (hB : Sm B m) (hn : n + m ≤ 1000) : Sm (K (A ++ B)) (n + m) :=
 K_sm hn (fun x hx => (List.mem_append.1 hx).elim (fun h => (hA.rt.2 x h).1) (fun h => (hB.rt.2 x h).1)) (by simp only [List.length_append]; have := hA.len; have := hB.len; omega) (by rw [mass_append]; have := hA.ms; have := hB.ms; omega)
theorem mass_two {A B : List S50} {n m : Nat} (hA : Sm A n) (hB : Sm B m) (hn : n + m ≤ 1000) : mass (A ++ B) ≤ 1000000000 := by rw [mass_append]; have := hA.ms; have := hB.ms; omega
end Go.Proofs.Ytgeldmhgbnamcaa.Pure
end
