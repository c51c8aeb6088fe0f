/- Walks and laws of several statements of this seat, joined into one text; no condition. -/
import Derived.Test.YtgeldmhgbnamcaaProg
import Derived.Below
import Derived.Deep.Draws
import Derived.Deep.AppendLies
import Derived.Maps.AppendAt
import Derived.OwnWalk
import Derived.Laws.BytesArg
import Derived.Laws.MakeOwn
import Derived.Laws.OwnMore
import Derived.Deep.OwnRows
import Derived.Tactics
import Derived.Lib.ConvBytes
import Derived.Laws.Slices
import Derived.WalkKit
import Derived.KernelRfl
import Derived.RowKit3
import Derived.Deep.LoopGhost
import Derived.Deep.QuietTactic
import Derived.BigQuiet
import Derived.WideLaws
import Derived.Deep.DeepCutAuto
import Derived.Deep.CutBlock
import Derived.Deep.RegionHeld3
import Derived.Laws.Rows
import Derived.Lib.AppendStr
import Derived.ArgAppend
import Derived.Laws.IdiomCopy
import Derived.OrdersHeld
import Derived.Laws.BitsLemmas
import Derived.RowKit
import Derived.Laws.StructEq
import Derived.LoopTactic
import Derived.Lib.BufferMore
import Derived.Deep.Slices
import Derived.SizedLaws
import Derived.OpenShut
import Derived.IntWalk
import Derived.Outline
import Derived.Laws.CopyOwn
import Derived.Deep.RegionLaw
import Derived.Test.YtgeldmhgbnamcaaFOa0
import Derived.Test.YtgeldmhgbnamcaaFOa1
import Derived.Test.YtgeldmhgbnamcaaFOa2
import Derived.Test.YtgeldmhgbnamcaaFOa8
import Derived.Test.YtgeldmhgbnamcaaFOa9
import Derived.Test.YtgeldmhgbnamcaaFOa5
import Derived.Test.YtgeldmhgbnamcaaFOa3
section
namespace Go.Proofs.Ytgeldmhgbnamcaa.Pure
open Go.RowKit Go.Proofs.Ytgeldmhgbnamcaa.P Go.Proofs.YtgeldmhgbnamcaaW.PrintWords Go.Proofs.YtgeldmhgbnamcaaW.PrintLast
set_option linter.unusedVariables false
set_option linter.unusedSimpArgs false
def ofv (X : List S50) (q : S50) : Int := match X.find? (fun y => decide (ke y q)) with
 | some y => y.f2
 | none => 0
theorem ofv_of_mem {X : List S50} (hs : Str X) {y : S50} (hy : y ∈ X) (b : Int) : ofv X ⟨y.f0, y.f1, b⟩ = y.f2 := by
 unfold ofv
 cases h : X.find? (fun z => decide (ke z ⟨y.f0, y.f1, b⟩)) with
 | none => have := List.find?_eq_none.1 h y hy; simp [ke] at this
 | some z =>
  have hz := List.mem_of_find?_eq_some h
  have kz : ke z ⟨y.f0, y.f1, b⟩ := by simpa using List.find?_some h
  have : z = y := by
   obtain ⟨A, B, rfl⟩ := List.append_of_mem hy
   obtain ⟨_, p2, p3⟩ := List.pairwise_append.1 hs
   rcases List.mem_append.1 hz with hz | hz
   ·have := p3 z hz y (by simp); unfold kl ke at *; simp at kz; omega
   ·rcases List.mem_cons.1 hz with rfl | hz
    ·rfl
    ·have := (List.pairwise_cons.1 p2).1 z hz; unfold kl ke at *; simp at kz; omega
  simp [this]
def fix1 (x : S40) : S50 := ⟨wrap64 (Int.tmod (IntKind.u64.wrap x.f0) 64), Int.tmod x.f1 18446744073709551615, Int.tmod x.f2 1000⟩
def sumk (l : List S50) : List S50 := if good (tot l) = true then fin (tot l) else []
theorem fix_l0 (X : List S40) : ∀ (r pre : List S40), X = pre ++ r → pre.length ≤ 12 → Ev (fun k => marchlandref03_Fix.l0 k X ((pre.map fix1).map v) (pre.length : Int)) ((sumk ((X.take 12).map fix1)).map v) := by
 have fin_ : ∀ pre : List S40, pre.length ≤ 12 → Ev (fun k => (marchlandref03_sums.f k ((pre.map fix1).map v)).bind fun b => some b.1) ((sumk (pre.map fix1)).map v) := by
  intro pre h
  have := Ev.bind (sums_ev (pre.map fix1) (by unfold Short; simp; omega)) (Ev.now _) (f := fun _ b => some b.1)
  unfold sumk
  split
  ·rename_i g; rw [if_pos g] at this; exact this
  ·rename_i g; rw [if_neg g] at this; exact this
 intro r
 induction r with
 | nil =>
  intro pre e hp
  obtain ⟨K, h⟩ := fin_ pre hp
  refine ⟨K + 1, fun k hk => ?_⟩
  obtain ⟨k, rfl⟩ : ∃ m, k = m + 1 := ⟨k - 1, by omega⟩
  have h := h k (by omega); dsimp only at h
  have e' : X.take 12 = pre := by rw [e, List.append_nil]; exact List.take_of_length_le hp
  show marchlandref03_Fix.l0 (k + 1) _ _ _ = _
  rw [marchlandref03_Fix.l0, if_neg (by subst e; simp), e']
  exact h
 | cons x r ih =>
  intro pre e hp
  have ll : X.length = pre.length + (r.length + 1) := by rw [e]; simp
  by_cases h12 : pre.length = 12
  ·obtain ⟨K, h⟩ := fin_ pre hp
   refine ⟨K + 1, fun k hk => ?_⟩
   obtain ⟨k, rfl⟩ : ∃ m, k = m + 1 := ⟨k - 1, by omega⟩
   have h := h k (by omega); dsimp only at h
   have e' : X.take 12 = pre := by rw [e, ← h12]; simp
   show marchlandref03_Fix.l0 (k + 1) _ _ _ = _
   rw [marchlandref03_Fix.l0, if_pos (by omega), if_neg (by omega), e']
   exact h
  ·obtain ⟨K, h⟩ := ih (pre ++ [x]) (by simp [e]) (by simp; omega)
   refine ⟨K + 1, fun k hk => ?_⟩
   obtain ⟨k, rfl⟩ : ∃ m, k = m + 1 := ⟨k - 1, by omega⟩
   have h := h k (by omega); dsimp only at h
   have e1 : rd_T40 X (pre.length : Int) = x := by rw [e]; exact rd4 _ _ _ rfl
   have ew : wrap64 ((pre.length : Int) + 1) = ((pre ++ [x]).length : Int) := by rw [w64s (by omega)]; simp
   have em : (pre.map fix1).map v ++ [(⟨wrap64 (Int.tmod (IntKind.u64.wrap x.f0) 64), Int.tmod x.f1 18446744073709551615, Int.tmod x.f2 1000⟩ : S40)] = ((pre ++ [x]).map fix1).map v := by simp [v, fix1]
   show marchlandref03_Fix.l0 (k + 1) _ _ _ = _
   rw [marchlandref03_Fix.l0, if_pos (by omega), if_pos (by omega), if_pos (by omega), if_pos (by simp; omega), e1, em, ew]
   exact h
theorem fix_ev (X : List S40) : Ev (fun k => marchlandref03_Fix.f k X) ((sumk ((X.take 12).map fix1)).map v) := fix_l0 X X [] rfl (by simp)
theorem sumk_str (l : List S50) : Str (sumk l) := by unfold sumk; split; exact (tot_str l).sublist List.filter_sublist; exact List.Pairwise.nil
theorem sumk_len (l : List S50) : (sumk l).length ≤ l.length := by
 unfold sumk; split
 ·have t1 := fin_len (tot l); have t2 := tot_len l; omega
 ·simp
theorem sumk_nz {l : List S50} {x : S50} (h : x ∈ sumk l) : x.f2 ≠ 0 := by
 unfold sumk at h; split at h
 ·exact of_decide_eq_true (List.mem_filter.1 h).2
 ·cases h
theorem wrongv_key {x : S50} (h0 : 0 ≤ x.f0 ∧ x.f0 < 64) (h1 : x.f1 ≠ 18446744073709551615) (h2 : wi x.f2) : wrongv x = 0 := by unfold wrongv; rw [if_neg (by omega), if_neg h1, if_pos h2]
theorem fix1_key (x : S40) (h : wfC x) : (0 ≤ (fix1 x).f0 ∧ (fix1 x).f0 < 64) ∧ (fix1 x).f1 ≠ 18446744073709551615 := by
 obtain ⟨_, ⟨a, b⟩, _⟩ := h
 have hp : 0 ≤ IntKind.u64.wrap x.f0 := by simp [IntKind.wrap, IntKind.bits, IntKind.signed]; omega
 have h1 := Int.tmod_lt_of_pos (IntKind.u64.wrap x.f0) (b := 64) (by omega)
 have h2 := Int.tmod_nonneg (b := 64) hp (a := IntKind.u64.wrap x.f0)
 have h3 := Int.tmod_lt_of_pos x.f1 (b := 18446744073709551615) (by omega)
 simp only [fix1]
 generalize Int.tmod (IntKind.u64.wrap x.f0) 64 = z at *
 have : wrap64 z = z := by unfold wrap64; omega
 rw [this]
 exact ⟨⟨h2, h1⟩, by omega⟩
theorem sumk_right {l : List S50} (h : ∀ x ∈ l, (0 ≤ x.f0 ∧ x.f0 < 64) ∧ x.f1 ≠ 18446744073709551615) : ∀ x ∈ sumk l, wrongv x = 0 := by
 intro x hx
 unfold sumk at hx; split at hx
 ·rename_i g
  obtain ⟨hm, hz⟩ := List.mem_filter.1 hx
  obtain ⟨y, hy, ek⟩ := tot_mem hm
  have hy := h y hy
  exact wrongv_key (by rw [ek.1]; exact hy.1) (by rw [ek.2]; exact hy.2) (of_decide_eq_true (List.all_eq_true.1 g x hm))
 ·cases hx
def Rt (X : List S50) : Prop := Str X ∧ (∀ x ∈ X, wrongv x = 0 ∧ x.f2 ≠ 0)
theorem sumk_rt {l : List S50} (h : ∀ x ∈ l, (0 ≤ x.f0 ∧ x.f0 < 64) ∧ x.f1 ≠ 18446744073709551615) : Rt (sumk l) := ⟨sumk_str l, fun x hx => ⟨sumk_right h x hx, sumk_nz hx⟩⟩
def leastv (p : Int) : List S50 → Int
 | [] => 18446744073709551615
 | x :: r => if x.f0 = p then x.f1 else leastv p r
theorem least_l0 (p : Int) (X : List S50) (hl : X.length ≤ 8000000000000000000) : ∀ (r pre : List S50), X = pre ++ r → Ev (fun k => bag_Least.l0 k p X (X.length : Int) (pre.length : Int)) (leastv p r) := by
 intro r
 induction r with
 | nil =>
  intro pre e
  refine ⟨1, fun k hk => ?_⟩
  obtain ⟨k, rfl⟩ : ∃ m, k = m + 1 := ⟨k - 1, by omega⟩
  show bag_Least.l0 (k + 1) _ _ _ _ = _
  rw [bag_Least.l0, if_neg (by subst e; simp)]
  rfl
 | cons x r ih =>
  intro pre e
  obtain ⟨K, h⟩ := ih (pre ++ [x]) (by simp [e])
  have ll : X.length = pre.length + (r.length + 1) := by rw [e]; simp
  have e1 : rd_T50 X (pre.length : Int) = x := by rw [e]; exact rd5 _ _ _ rfl
  have ew : wrap64 ((pre.length : Int) + 1) = ((pre ++ [x]).length : Int) := by rw [w64s (by omega)]; simp
  refine ⟨K + 1, fun k hk => ?_⟩
  obtain ⟨k, rfl⟩ : ∃ m, k = m + 1 := ⟨k - 1, by omega⟩
  have h := h k (by omega); dsimp only at h
  show bag_Least.l0 (k + 1) _ _ _ _ = _
  rw [bag_Least.l0, if_pos (by omega), if_pos (by omega), if_pos (by omega), e1, ew, h]
  simp only [leastv]
  split <;> rfl
theorem least_ev (X : List S50) (hl : X.length ≤ 8000000000000000000) (p : Int) : Ev (fun k => bag_Least.f k X p) (leastv p X) := least_l0 p X hl X [] rfl
def fix4 (x : S40) : S40 := ⟨x.f0, x.f1, wrap64 (1 + (wrap64 (Int.tmod (IntKind.u64.wrap x.f2) 5)))⟩
theorem fix4_val (x : S40) : 1 ≤ (fix4 x).f2 ∧ (fix4 x).f2 ≤ 5 := by
 have hp : 0 ≤ IntKind.u64.wrap x.f2 := by simp [IntKind.wrap, IntKind.bits, IntKind.signed]; omega
 have h1 := Int.tmod_lt_of_pos (IntKind.u64.wrap x.f2) (b := 5) (by omega)
 have h2 := Int.tmod_nonneg (b := 5) hp (a := IntKind.u64.wrap x.f2)
 simp only [fix4]
 generalize Int.tmod (IntKind.u64.wrap x.f2) 5 = z at *
 have : wrap64 z = z := by unfold wrap64; omega
 rw [this]
 have : wrap64 (1 + z) = 1 + z := by unfold wrap64; omega
 rw [this]; omega
theorem fix4_wf {x : S40} (h : wfC x) : wfC (fix4 x) := ⟨h.1, h.2.1, by have := fix4_val x; omega⟩
theorem fix4_l0 (X : List S40) : ∀ (r pre : List S40), X = pre ++ r → pre.length ≤ 12 → Ev (fun k => marchlandref04_Fix.l0 k X (pre.map fix4) (pre.length : Int)) ((sumk (((X.take 12).map fix4).map fix1)).map v) := by
 have fin_ : ∀ pre : List S40, pre.length ≤ 12 → Ev (fun k => (marchlandref03_Fix.f k (pre.map fix4)).bind fun b => some b) ((sumk ((pre.map fix4).map fix1)).map v) := by
  intro pre h
  have := Ev.bind (fix_ev (pre.map fix4)) (Ev.now _) (f := fun _ b => some b)
  rwa [List.take_of_length_le (by simpa using h)] at this
 intro r
 induction r with
 | nil =>
  intro pre e hp
  obtain ⟨K, h⟩ := fin_ pre hp
  refine ⟨K + 1, fun k hk => ?_⟩
  obtain ⟨k, rfl⟩ : ∃ m, k = m + 1 := ⟨k - 1, by omega⟩
  have h := h k (by omega); dsimp only at h
  have e' : X.take 12 = pre := by rw [e, List.append_nil]; exact List.take_of_length_le hp
  show marchlandref04_Fix.l0 (k + 1) _ _ _ = _
  rw [marchlandref04_Fix.l0, if_neg (by subst e; simp), e']
  exact h
 | cons x r ih =>
  intro pre e hp
  have ll : X.length = pre.length + (r.length + 1) := by rw [e]; simp
  by_cases h12 : pre.length = 12
  ·obtain ⟨K, h⟩ := fin_ pre hp
   refine ⟨K + 1, fun k hk => ?_⟩
   obtain ⟨k, rfl⟩ : ∃ m, k = m + 1 := ⟨k - 1, by omega⟩
   have h := h k (by omega); dsimp only at h
   have e' : X.take 12 = pre := by rw [e, ← h12]; simp
   show marchlandref04_Fix.l0 (k + 1) _ _ _ = _
   rw [marchlandref04_Fix.l0, if_pos (by omega), if_neg (by omega), e']
   exact h
  ·obtain ⟨K, h⟩ := ih (pre ++ [x]) (by simp [e]) (by simp; omega)
   refine ⟨K + 1, fun k hk => ?_⟩
   obtain ⟨k, rfl⟩ : ∃ m, k = m + 1 := ⟨k - 1, by omega⟩
   have h := h k (by omega); dsimp only at h
   have e1 : rd_T40 X (pre.length : Int) = x := by rw [e]; exact rd4 _ _ _ rfl
   have ew : wrap64 ((pre.length : Int) + 1) = ((pre ++ [x]).length : Int) := by rw [w64s (by omega)]; simp
   have em : pre.map fix4 ++ [(⟨x.f0, x.f1, wrap64 (1 + (wrap64 (Int.tmod (IntKind.u64.wrap x.f2) 5)))⟩ : S40)] = (pre ++ [x]).map fix4 := by simp [fix4]
   show marchlandref04_Fix.l0 (k + 1) _ _ _ = _
   rw [marchlandref04_Fix.l0, if_pos (by omega), if_pos (by omega), if_pos (by omega), if_pos (by simp; omega), e1, em, ew]
   exact h
theorem fix4_ev (X : List S40) : Ev (fun k => marchlandref04_Fix.f k X) ((sumk (((X.take 12).map fix4).map fix1)).map v) := fix4_l0 X X [] rfl (by simp)
theorem fix4_rt {X : List S40} (h : ∀ y ∈ X, wfC y) : Rt (sumk (((X.take 12).map fix4).map fix1)) := sumk_rt (fun x hx => by
 obtain ⟨y, hy, rfl⟩ := List.mem_map.1 hx
 obtain ⟨w, hw, rfl⟩ := List.mem_map.1 hy
 exact fix1_key _ (fix4_wf (h w (List.mem_of_mem_take hw))))
theorem fix4_len (X : List S40) : (sumk (((X.take 12).map fix4).map fix1)).length ≤ 12 := by
 have := sumk_len (((X.take 12).map fix4).map fix1); rw [List.length_map, List.length_map, List.length_take] at this; omega
open Go.RowKit Go.Proofs.Ytgeldmhgbnamcaa.P Go.Proofs.YtgeldmhgbnamcaaW.PrintWords Go.Proofs.YtgeldmhgbnamcaaW.PrintLast Go.Proofs.YtgeldmhgbnamcaaW.PrintMore
open FW
theorem leastm_le {p : Int} : ∀ {X : List S50}, Str X → ∀ x ∈ X, x.f0 = p → leastv p X ≤ x.f1
 | y :: X, hs, x, hx, h => by
  obtain ⟨h1, h2⟩ := List.pairwise_cons.1 hs
  simp only [leastv]
  by_cases c : y.f0 = p
  ·rw [if_pos c]
   rcases List.mem_cons.1 hx with rfl | hx
   ·exact Int.le_refl _
   ·have := h1 x hx; unfold kl at this; omega
  ·rw [if_neg c]
   rcases List.mem_cons.1 hx with rfl | hx
   ·exact absurd h c
   ·exact leastm_le h2 x hx h
theorem leastm_mem (p : Int) : ∀ X : List S50, leastv p X = N ∨ ∃ x ∈ X, x.f0 = p ∧ leastv p X = x.f1
 | [] => Or.inl rfl
 | y :: X => by
  simp only [leastv]
  by_cases c : y.f0 = p
  ·rw [if_pos c]; exact Or.inr ⟨y, List.mem_cons_self, c, rfl⟩
  ·rw [if_neg c]
   rcases leastm_mem p X with h | ⟨x, hx, h1, h2⟩
   ·exact Or.inl h
   ·exact Or.inr ⟨x, List.mem_cons_of_mem _ hx, h1, h2⟩
theorem leastm_in {X : List S50} (h : ∀ x ∈ X, In x.f1) (p : Int) : In (leastv p X) := by
 rcases leastm_mem p X with e | ⟨x, hx, _, e⟩
 ·rw [e]; exact in_N
 ·rw [e]; exact h x hx
def fr (b : List S50) (W : Mat) : Nat → Nat → Int
 | 0, _ => N
 | f + 1, c => min (fr b W f c) (pl (leastv (f : Int) b) (W f c))
def rstep (n : Nat) (W : Mat) (p : Nat) (acc : Int) (x : S50) : Int := if 0 ≤ x.f0 ∧ x.f0 < n then min acc (pl x.f1 (W x.f0.toNat p)) else acc
theorem le_fr (b : List S50) (W : Mat) (z : Int) (c : Nat) : ∀ f, z ≤ fr b W f c ↔ z ≤ N ∧ ∀ g, g < f → z ≤ pl (leastv (g : Int) b) (W g c)
 | 0 => ⟨fun h => ⟨h, fun g hg => by omega⟩, fun h => h.1⟩
 | f + 1 => by
  have ih := le_fr b W z c f
  show z ≤ min _ _ ↔ _
  constructor
  ·intro h
   obtain ⟨h1, h2⟩ := ih.1 (by omega)
   refine ⟨h1, fun g hg => ?_⟩
   by_cases e : g = f
   ·subst e; omega
   ·exact h2 g (by omega)
  ·rintro ⟨h1, h2⟩
   have h3 := ih.2 ⟨h1, fun g hg => h2 g (by omega)⟩
   have h4 := h2 f (by omega)
   omega
theorem le_rstep (n : Nat) (W : Mat) (p : Nat) (z : Int) : ∀ (b : List S50) (acc : Int), z ≤ b.foldl (rstep n W p) acc ↔ z ≤ acc ∧ ∀ x ∈ b, 0 ≤ x.f0 → x.f0 < n → z ≤ pl x.f1 (W x.f0.toNat p)
 | [], acc => ⟨fun h => ⟨h, fun x hx => by cases hx⟩, fun h => h.1⟩
 | y :: b, acc => by
  rw [List.foldl_cons, le_rstep n W p z b (rstep n W p acc y)]
  unfold rstep
  constructor
  ·rintro ⟨h1, h2⟩
   refine ⟨by split at h1 <;> omega, fun x hx a0 a1 => ?_⟩
   rcases List.mem_cons.1 hx with rfl | hx
   ·rw [if_pos ⟨a0, a1⟩] at h1; omega
   ·exact h2 x hx a0 a1
  ·rintro ⟨h1, h2⟩
   refine ⟨?_, fun x hx => h2 x (List.mem_cons_of_mem _ hx)⟩
   split
   next c => have := h2 y List.mem_cons_self c.1 c.2; omega
   next c => exact h1
theorem fr_eq {b : List S50} (hs : Str b) (hb : ∀ x ∈ b, In x.f1) {n : Nat} {W : Mat} (hW : ∀ i j, i < n → j < n → In (W i j)) {c : Nat} (hc : c < n) : fr b W n c = b.foldl (rstep n W c) N := by
 have key : ∀ z, z ≤ fr b W n c ↔ z ≤ b.foldl (rstep n W c) N := by
  intro z
  rw [le_fr, le_rstep]
  constructor
  ·rintro ⟨h1, h2⟩
   refine ⟨h1, fun x hx a0 a1 => ?_⟩
   have e : x.f0 = ((x.f0.toNat : Nat) : Int) := by omega
   exact Int.le_trans (h2 x.f0.toNat (by omega)) (pl_mono (leastm_le hs x hx e) (Int.le_refl _))
  ·rintro ⟨h1, h2⟩
   refine ⟨h1, fun g hg => ?_⟩
   rcases leastm_mem (g : Int) b with e | ⟨x, hx, e0, e1⟩
   ·rw [e]
    have := le_pl in_N (hW g c hg hc)
    omega
   ·rw [e1]
    have h := h2 x hx (by omega) (by omega)
    rwa [show x.f0.toNat = g by omega] at h
 have h1 := (key (fr b W n c)).1 (Int.le_refl _)
 have h2 := (key (b.foldl (rstep n W c) N)).2 (Int.le_refl _)
 omega
section
variable {n : Nat} {W : Mat} {b : List S50}
theorem of_l1 (hn : n ≤ 1000) (hb : ∀ x ∈ b, In x.f1) (hW : ∀ i j, i < n → j < n → In (W i j)) {f : Nat} (hf : f < n) (R : List Int) (h : Ev (fun k => front_Of.l0 k (mat n W) b (Ls n (fr b W (f + 1))) (n : Int) ((f + 1 : Nat) : Int)) R) :
  ∀ d j : Nat, j + d = n → Ev (fun k => front_Of.l1 k (mat n W) b (Ls n fun c => if c < j then fr b W (f + 1) c else fr b W f c) (leastv (f : Int) b) (n : Int) (f : Int) (Ls n (W f)) (n : Int) (j : Int)) R
 | 0, j, hj => by
  have e : (Ls n fun c => if c < j then fr b W (f + 1) c else fr b W f c) = Ls n (fr b W (f + 1)) := ls_congr fun c hc => if_pos (by omega)
  refine Ev.s (fun k => ?_) h
  show front_Of.l1 (k + 1) _ _ _ _ _ _ _ _ _ = _
  rw [front_Of.l1, if_neg (by omega), e, w64 (by omega)]
 | d + 1, j, hj => by
  have hjn : j < n := by omega
  refine Ev.s (fun k => ?_) (of_l1 hn hb hW hf R h d (j + 1) (by omega))
  show front_Of.l1 (k + 1) _ _ _ _ _ _ _ _ _ = _
  rw [front_Of.l1, if_pos (by omega), if_pos (by omega), ls_len, if_pos (by omega), ls_len, if_pos (by omega), ls_rd n _ hjn, plus_eq (leastm_in hb _) (hW f j hf hjn), Option.bind_some, ls_rd n _ hjn, if_neg (Nat.lt_irrefl j), Int.toNat_natCast, ls_set, mn_eq, w64 (by omega)]
  have e : (Ls n fun a => if a = j then min (fr b W f j) (pl (leastv (f : Int) b) (W f j)) else if a < j then fr b W (f + 1) a else fr b W f a) = Ls n fun c => if c < j + 1 then fr b W (f + 1) c else fr b W f c := ls_congr fun a ha => by
   by_cases c1 : a = j
   ·rw [if_pos c1, if_pos (show a < j + 1 by omega), c1]; rfl
   ·rw [if_neg c1]
    by_cases c2 : a < j
    ·rw [if_pos c2, if_pos (show a < j + 1 by omega)]
    ·rw [if_neg c2, if_neg (show ¬ a < j + 1 by omega)]
  rw [e]
theorem of_l0 (hn : n ≤ 1000) (hb : ∀ x ∈ b, In x.f1) (hl : b.length ≤ 1000000) (hW : ∀ i j, i < n → j < n → In (W i j)) : ∀ d f : Nat, f + d = n → Ev (fun k => front_Of.l0 k (mat n W) b (Ls n (fr b W f)) (n : Int) (f : Int)) (Ls n (fr b W n))
 | 0, f, hf => by
  obtain rfl : f = n := by omega
  refine Ev.o (fun k => ?_)
  show front_Of.l0 (k + 1) _ _ _ _ _ = _
  rw [front_Of.l0, if_neg (by omega)]
 | d + 1, f, hf => by
  have hfn : f < n := by omega
  obtain ⟨K1, h1⟩ := of_l1 hn hb hW hfn _ (of_l0 hn hb hl hW d (f + 1) (by omega)) n 0 (by omega)
  obtain ⟨K2, h2⟩ := least_ev b (by omega) (f : Int)
  refine ⟨K1 + K2 + 1, fun k hk => ?_⟩
  obtain ⟨k, rfl⟩ : ∃ m, k = m + 1 := ⟨k - 1, by omega⟩
  have h1 := h1 k (by omega); have h2 := h2 k (by omega); dsimp only at h1 h2
  have e : (Ls n fun c => if c < 0 then fr b W (f + 1) c else fr b W f c) = Ls n (fr b W f) := ls_congr fun c hc => if_neg (Nat.not_lt_zero c)
  rw [e] at h1
  show front_Of.l0 (k + 1) _ _ _ _ _ = _
  rw [front_Of.l0, if_pos (by omega), h2, Option.bind_some, if_pos (by omega), mat_len, if_pos (by omega), mat_row n W hfn, ls_len]
  exact h1
theorem of6_ev (hn : n ≤ 1000) (hb : ∀ x ∈ b, In x.f1) (hl : b.length ≤ 1000000) (hW : ∀ i j, i < n → j < n → In (W i j)) : Ev (fun k => front_Of.f k (mat n W) b) (Ls n (fr b W n)) := by
 obtain ⟨K, h⟩ := of_l0 hn hb hl hW n 0 (by omega)
 refine ⟨K, fun k hk => ?_⟩
 show front_Of.f k (mat n W) b = _
 unfold front_Of.f
 rw [mat_len, rep_eq (by omega), Option.bind_some, ls_rep]
 exact h k hk
theorem rof_l1 (hn : n ≤ 1000) (hb : ∀ x ∈ b, In x.f1) (hl : b.length ≤ 1000000) (hW : ∀ i j, i < n → j < n → In (W i j)) {p : Nat} (hp : p < n) (out : List Int) (ho : out.length ≤ 1000) (R : List Int) (h : Ev (fun k => marchlandref06_Of.l0 k (mat n W) (b.map v) (out ++ [b.foldl (rstep n W p) N]) ((p + 1 : Nat) : Int)) R) :
  ∀ rest pre : List S50, b = pre ++ rest → Ev (fun k => marchlandref06_Of.l1 k (mat n W) (b.map v) out (p : Int) (pre.foldl (rstep n W p) N) (pre.length : Int)) R
 | [], pre, hq => by
  rw [List.append_nil] at hq
  subst hq
  refine Ev.s (fun k => ?_) h
  show marchlandref06_Of.l1 (k + 1) _ _ _ _ _ _ = _
  rw [marchlandref06_Of.l1, List.length_map, if_neg (by omega), if_pos (by omega), w64 (by omega)]
 | x :: rest, pre, hq => by
  have ih := rof_l1 hn hb hl hW hp out ho R h rest (pre ++ [x]) (by rw [hq]; simp)
  have hlen : pre.length + 1 ≤ b.length := by rw [hq, List.length_append, List.length_cons]; omega
  have hx := hb x (by rw [hq]; simp)
  have hr : rd_T40 (b.map v) (pre.length : Int) = v x := by rw [hq, List.map_append, List.map_cons]; exact rd4 _ _ _ (by simp)
  rw [List.foldl_append] at ih
  simp only [List.foldl_cons, List.foldl_nil, List.length_append, List.length_cons, List.length_nil, Nat.zero_add] at ih
  generalize pre.foldl (rstep n W p) N = acc at ih ⊢
  have hw : wrap64 ((pre.length : Int) + 1) = ((pre.length + 1 : Nat) : Int) := by unfold wrap64; omega
  refine Ev.s (fun k => ?_) ih
  show marchlandref06_Of.l1 (k + 1) _ _ _ _ _ _ = _
  rw [marchlandref06_Of.l1, List.length_map, if_pos (by omega), if_pos (by omega), hr, hw]
  rw [show (v x).f0 = x.f0 from rfl, show (v x).f1 = x.f1 from rfl]
  unfold rstep
  by_cases c0 : 0 ≤ x.f0
  ·rw [if_pos (show x.f0 ≥ 0 from c0), mat_len]
   by_cases c1 : x.f0 < (n : Int)
   ·have f0 : x.f0 = ((x.f0.toNat : Nat) : Int) := by omega
    have r1 : rd_L7 (mat n W) x.f0 = Ls n (W x.f0.toNat) := by rw [f0]; exact mat_row n W (by omega)
    rw [if_pos c1, if_pos c0, if_pos (by omega), r1, ls_len, if_pos (by omega), ls_rd n _ hp, plus1_eq hx (hW _ _ (by omega) hp), Option.bind_some, mn_eq, if_pos ⟨c0, c1⟩]
   ·rw [if_neg c1, if_neg (fun q => c1 q.2)]
  ·rw [if_neg (show ¬ x.f0 ≥ 0 from c0), if_neg (fun q => c0 q.1)]
theorem rof_l0' (hn : n ≤ 1000) (hb : ∀ x ∈ b, In x.f1) (hl : b.length ≤ 1000000) (hW : ∀ i j, i < n → j < n → In (W i j)) : ∀ d p : Nat, p + d = n → Ev (fun k => marchlandref06_Of.l0 k (mat n W) (b.map v) (Ls p fun c => b.foldl (rstep n W c) N) (p : Int)) (Ls n fun c => b.foldl (rstep n W c) N)
 | 0, p, hp => by
  obtain rfl : p = n := by omega
  refine Ev.o (fun k => ?_)
  show marchlandref06_Of.l0 (k + 1) _ _ _ _ = _
  rw [marchlandref06_Of.l0, mat_len, if_neg (by omega)]
 | d + 1, p, hp => by
  have ih := rof_l0' hn hb hl hW d (p + 1) (by omega)
  rw [← ls_snoc] at ih
  refine Ev.s (fun k => ?_) (rof_l1 hn hb hl hW (show p < n by omega) _ (by rw [ls_len]; omega) _ ih b [] rfl)
  show marchlandref06_Of.l0 (k + 1) _ _ _ _ = _
  rw [marchlandref06_Of.l0, mat_len, if_pos (by omega)]
  rfl
theorem rof6_ev (hn : n ≤ 1000) (hs : Str b) (hb : ∀ x ∈ b, In x.f1) (hl : b.length ≤ 1000000) (hW : ∀ i j, i < n → j < n → In (W i j)) : Ev (fun k => marchlandref06_Of.f k (mat n W) (b.map v)) (Ls n (fr b W n)) := by
 have h := rof_l0' hn hb hl hW n 0 (by omega)
 have e : (Ls n fun c => b.foldl (rstep n W c) N) = Ls n (fr b W n) := ls_congr fun c hc => (fr_eq hs hb hW hc).symm
 rw [e] at h
 exact h
end
def g (X : List S50) (i : Nat) : S50 := rd_T50 X (i : Int)
def cnt : List S50 → S50 → Int
 | [], _ => 0
 | x :: l, q => (if ke x q then x.f2 else 0) + cnt l q
def mass : List S50 → Nat
 | [] => 0
 | x :: l => x.f2.natAbs + mass l
theorem mass_append (a b : List S50) : mass (a ++ b) = mass a + mass b := by
 induction a with
 | nil => simp [mass]
 | cons x a ih => simp only [List.cons_append, mass, ih]; omega
theorem cnt_mass (a : List S50) (q : S50) : (cnt a q).natAbs ≤ mass a := by
 induction a with
 | nil => simp [cnt]
 | cons x a ih => simp only [cnt, mass]; split <;> omega
theorem ofv_nil (q : S50) : ofv [] q = 0 := rfl
theorem ofv_cons (y : S50) (l : List S50) (q : S50) : ofv (y :: l) q = if ke y q then y.f2 else ofv l q := by
 unfold ofv
 rw [List.find?_cons]
 by_cases h : ke y q
 ·rw [if_pos h]; simp [h]
 ·rw [if_neg h]; simp [h]
theorem ofv_none {l : List S50} {q : S50} (h : ∀ y ∈ l, ¬ ke y q) : ofv l q = 0 := by
 unfold ofv
 rw [List.find?_eq_none.2 (fun y hy => by simpa using h y hy)]
theorem ofv_ins {x : S50} (q : S50) : ∀ {G : List S50}, Str G → (ofv G x + x.f2).natAbs ≤ 1000000000 → ofv (ins x G) q = ofv G q + if ke x q then x.f2 else 0 := by
 intro G
 induction G with
 | nil => intro _ _; simp only [ins, ofv_cons, ofv_nil]; omega
 | cons y G ih =>
  intro hs hb
  obtain ⟨h1, h2⟩ := List.pairwise_cons.1 hs
  simp only [ins]
  by_cases e : ke y x
  ·rw [if_pos e, ofv_cons, ofv_cons]
   rw [ofv_cons, if_pos e] at hb
   have w : (plus y x).f2 = y.f2 + x.f2 := by show wrap64 (y.f2 + x.f2) = _; unfold wrap64; omega
   have k1 : ke (plus y x) q ↔ ke y q := Iff.rfl
   by_cases c : ke y q
   ·have c' : ke x q := by unfold ke at *; omega
    rw [if_pos (k1.2 c), if_pos c, if_pos c', w]
   ·have c' : ¬ ke x q := by unfold ke at *; omega
    rw [if_neg (fun k => c (k1.1 k)), if_neg c, if_neg c']; omega
  ·rw [if_neg e]
   by_cases c : kl x y
   ·rw [if_pos c, ofv_cons]
    by_cases d : ke x q
    ·have nn : ∀ z ∈ y :: G, ¬ ke z q := fun z hz => by
      rcases List.mem_cons.1 hz with rfl | hz
      ·unfold kl ke at *; omega
      ·have := h1 z hz; unfold kl ke at *; omega
     rw [if_pos d, if_pos d, ofv_none nn]; omega
    ·rw [if_neg d, if_neg d]; omega
   ·rw [if_neg c, ofv_cons, ofv_cons]
    rw [ofv_cons, if_neg e] at hb
    by_cases d : ke y q
    ·have d' : ¬ ke x q := by unfold ke at *; omega
     rw [if_pos d, if_pos d, if_neg d']; omega
    ·rw [if_neg d, if_neg d]; exact ih h2 hb
theorem ofv_fold : ∀ (l G : List S50), Str G → (∀ q, (ofv G q).natAbs + mass l ≤ 1000000000) → ∀ q, ofv (l.foldl (fun a x => ins x a) G) q = ofv G q + cnt l q := by
 intro l
 induction l with
 | nil => intro G _ _ q; simp [cnt]
 | cons x l ih =>
  intro G hs hb q
  have hx := hb x
  simp only [mass] at hx hb
  have o : ∀ q, ofv (ins x G) q = ofv G q + if ke x q then x.f2 else 0 := fun q => ofv_ins q hs (by omega)
  rw [List.foldl_cons, ih (ins x G) (ins_str hs) (fun q => by rw [o q]; have := hb q; split <;> omega) q, o q, cnt]
  omega
theorem ofv_tot {l : List S50} (h : mass l ≤ 1000000000) (q : S50) : ofv (tot l) q = cnt l q := by
 have := ofv_fold l [] List.Pairwise.nil (fun q => by rw [ofv_nil]; simpa using h) q
 rw [ofv_nil] at this
 unfold tot
 omega
theorem ofv_self {X : List S50} (hs : Str X) {y : S50} (hy : y ∈ X) : ofv X y = y.f2 := by
 have := ofv_of_mem hs hy y.f2
 exact this
theorem small_good {l : List S50} (h : mass l ≤ 1000000000) : good (tot l) = true := by
 unfold good
 rw [List.all_eq_true]
 intro y hy
 have e := ofv_self (tot_str l) hy
 rw [ofv_tot h] at e
 have := cnt_mass l y
 exact decide_eq_true (by unfold wi; omega)
def K (l : List S50) : List S50 := fin (tot l)
theorem wrap_abs (z : Int) : (wrap64 z).natAbs ≤ z.natAbs := by unfold wrap64; omega
theorem mass_ins (x : S50) : ∀ G : List S50, mass (ins x G) ≤ x.f2.natAbs + mass G := by
 intro G
 induction G with
 | nil => simp [ins, mass]
 | cons y G ih =>
  simp only [ins]
  split
  ·have := wrap_abs (y.f2 + x.f2); simp only [mass, plus]; omega
  ·split
   ·simp only [mass]; omega
   ·simp only [mass]; omega
theorem mass_fold : ∀ (l G : List S50), mass (l.foldl (fun a x => ins x a) G) ≤ mass G + mass l := by
 intro l
 induction l with
 | nil => intro G; simp [mass]
 | cons x l ih => intro G; have := ih (ins x G); have := mass_ins x G; simp only [List.foldl_cons, mass]; omega
theorem mass_fin : ∀ G : List S50, mass (fin G) ≤ mass G := by
 intro G
 induction G with
 | nil => exact Nat.le_refl _
 | cons y G ih =>
  rw [fin_cons, mass_append]
  have : mass (fin [y]) ≤ y.f2.natAbs := by simp only [fin, List.filter_cons]; split <;> simp [mass]
  simp only [mass]; omega
theorem mass_K (l : List S50) : mass (K l) ≤ mass l := by
 have h1 := mass_fin (tot l)
 have h2 := mass_fold l []
 simp only [mass, Nat.zero_add] at h2
 unfold K tot at *
 omega
theorem K_len (l : List S50) : (K l).length ≤ l.length := by have h1 := fin_len (tot l); have h2 := tot_len l; unfold K; omega
theorem sumk_K {l : List S50} (h : mass l ≤ 1000000000) : sumk l = K l := by unfold sumk K; rw [if_pos (small_good h)]
def bel (A B : List S50) : Bool := B.any (fun x => decide (wrap64 (ofv A ⟨x.f0, x.f1, 0⟩ + x.f2) < 0))
theorem mass_le {B : Nat} : ∀ {l : List S50}, (∀ x ∈ l, x.f2.natAbs ≤ B) → mass l ≤ B * l.length := by
 intro l
 induction l with
 | nil => intro _; simp [mass]
 | cons x l ih =>
  intro h
  have h1 := h x (by simp)
  have h2 := ih (fun y hy => h y (by simp [hy]))
  simp only [mass, List.length_cons, Nat.mul_add, Nat.mul_one]
  omega
theorem fix1_abs (x : S40) : (fix1 x).f2.natAbs ≤ 999 := by
 show (Int.tmod x.f2 1000).natAbs ≤ 999
 rw [Int.natAbs_tmod]
 have := Nat.mod_lt x.f2.natAbs (show 0 < (1000 : Int).natAbs by decide)
 have e : (1000 : Int).natAbs = 1000 := rfl
 omega
structure Sm (A : List S50) (n : Nat) : Prop where
 rt : Rt A
 len : A.length ≤ n
 ms : mass A ≤ 1000 * n
theorem fix4_sm {X : List S40} (h : ∀ y ∈ X, wfC y) : Sm (sumk (((X.take 12).map fix4).map fix1)) 12 := by
 have lm : (((X.take 12).map fix4).map fix1).length ≤ 12 := by rw [List.length_map, List.length_map, List.length_take]; omega
 have m : mass (((X.take 12).map fix4).map fix1) ≤ 12000 := by
  have := mass_le (B := 999) (l := ((X.take 12).map fix4).map fix1) (fun x hx => by obtain ⟨y, _, rfl⟩ := List.mem_map.1 hx; exact fix1_abs y)
  omega
 refine ⟨fix4_rt h, fix4_len X, ?_⟩
 rw [sumk_K (by omega)]; have := mass_K (((X.take 12).map fix4).map fix1); omega
theorem fix1_f1 {x : S40} (h : wfC x) : (fix1 x).f1 < 18446744073709551615 := by
 obtain ⟨_, ⟨a, b⟩, _⟩ := h
 exact Int.tmod_lt_of_pos _ (by omega)
theorem sumk_f1 {l : List S50} (h : ∀ x ∈ l, x.f1 < 18446744073709551615) : ∀ x ∈ sumk l, x.f1 < 18446744073709551615 := by
 intro x hx
 unfold sumk at hx; split at hx
 ·obtain ⟨hm, _⟩ := List.mem_filter.1 hx
  obtain ⟨y, hy, ek⟩ := tot_mem hm
  rw [ek.2]; exact h y hy
 ·cases hx
theorem fix4_f1 {X : List S40} (h : ∀ y ∈ X, wfC y) : ∀ x ∈ sumk (((X.take 12).map fix4).map fix1), x.f1 < 18446744073709551615 := sumk_f1 (fun x hx => by
 obtain ⟨y, hy, rfl⟩ := List.mem_map.1 hx
 obtain ⟨w, hw, rfl⟩ := List.mem_map.1 hy
 exact fix1_f1 (fix4_wf (h w (List.mem_of_mem_take hw))))
theorem fix4_in {X : List S40} (h : ∀ y ∈ X, wfC y) : ∀ x ∈ sumk (((X.take 12).map fix4).map fix1), In x.f1 := by
  intro x hx
  refine ⟨?_, by have := fix4_f1 h x hx; unfold N; omega⟩
  unfold sumk at hx; split at hx
  · obtain ⟨hm, _⟩ := List.mem_filter.1 hx
    obtain ⟨y, hy, ek⟩ := tot_mem hm
    rw [ek.2]
    obtain ⟨z, hz, rfl⟩ := List.mem_map.1 hy
    obtain ⟨w, hw, rfl⟩ := List.mem_map.1 hz
    exact Int.tmod_nonneg _ (h w (List.mem_of_mem_take hw)).2.1.1
  · cases hx
theorem FrontOf : ∀ a0 : Int, ∀ l1 : List S90, (∀ y ∈ l1, 0 ≤ y.f2 ∧ y.f2 ≤ 18446744073709551615) → ∀ l2 : List Int, ∀ l3 : List S40, (∀ y ∈ l3, wfC y) → ∃ k, marchlandlaw06_FrontOf.f k a0 l1 l2 l3 = some true := by
  intro a0 l1 q1 l2 l3 q3
  obtain ⟨n, E, I, hn, hE, hl, hI, hI0, hI8, K1, h1⟩ := fix5_ev a0 l1 l2 (fun x hx => q1 x hx)
  obtain ⟨K2, h2⟩ := fix4_ev l3
  have hb := fix4_sm q3
  have hf := fix4_f1 q3
  have hg : ∀ x ∈ sumk (((l3.take 12).map fix4).map fix1), In x.f1 := fix4_in q3
  generalize sumk (((l3.take 12).map fix4).map fix1) = b at h2 hb hf hg
  have lb := hb.len
  have hs : Str b := hb.rt.1
  have G := good_wk (we9_ok hE.ok) n (Nat.le_refl n)
  obtain ⟨K3, h3⟩ := to5_ev (n := n) (E := E) (I := I) (by omega) (by omega)
  obtain ⟨K4, h4⟩ := paths_ev hn hE hl hI hI0 hI8
  obtain ⟨K5, h5⟩ := to_ev b (by unfold Short; omega)
  obtain ⟨K6, h6⟩ := of6_ev (n := n) (W := wk (E.map ed9) n) (by omega) hg (by omega) G.inn
  obtain ⟨K7, h7⟩ := rpaths_ev hn hE hl hI hI0 hI8
  obtain ⟨K8, h8⟩ := rof6_ev (n := n) (W := wk (E.map ed9) n) (by omega) hs hg (by omega) G.inn
  obtain ⟨K9, h9⟩ := same6_ev (Ls n (fr b (wk (E.map ed9) n) n)) (by rw [ls_len]; omega)
  obtain ⟨K10, h10⟩ := rows_ev (n := n) (wk (E.map ed9) n) (by omega)
  let k := K1 + K2 + K3 + K4 + K5 + K6 + K7 + K8 + K9 + K10
  refine ⟨k, ?_⟩
  have h1 := h1 k (by omega); have h2 := h2 k (by omega); have h3 := h3 k (by omega); have h4 := h4 k (by omega); have h5 := h5 k (by omega); have h6 := h6 k (by omega); have h7 := h7 k (by omega); have h8 := h8 k (by omega); have h9 := h9 k (by omega); have h10 := h10 k (by omega)
  dsimp only at h1 h2 h3 h4 h5 h6 h7 h8 h9 h10
  have ht : marchlandlaw06_told.f = some true := rfl
  rw [marchlandlaw06_FrontOf.f]
  simp only [h1, h2, h3, h4, h5, h6, h7, h8, h9, h10, ht, Option.bind_some, if_true]
end Go.Proofs.Ytgeldmhgbnamcaa.Pure
end
