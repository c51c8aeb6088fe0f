/- Walks and laws of several statements of this seat, joined into one text; no condition. -/
import Derived.Test.YtgeldmhgbnamcaaZa11
section
/- The plain law of BatchOnce. -/
namespace Go.Proofs.Ytgeldmhgbnamcaa.Pure
open Go.RowKit Go.Proofs.Ytgeldmhgbnamcaa.P Go.Proofs.YtgeldmhgbnamcaaW.PrintWords Go.Proofs.YtgeldmhgbnamcaaW.PrintLast
set_option linter.unusedVariables false
set_option linter.unusedSimpArgs false
/-- every entry of A stands in B with the same total -/
def allOf (A B : List S50) : Bool := A.all (fun x => ofv B ⟨x.f0, x.f1, 0⟩ == x.f2)
theorem allOf_mem {A B : List S50} (hz : ∀ x ∈ A, x.f2 ≠ 0) (h : allOf A B = true) : ∀ x ∈ A, x ∈ B := by
  intro x hx
  have e : ofv B ⟨x.f0, x.f1, 0⟩ = x.f2 := by simpa using List.all_eq_true.1 h x hx
  obtain ⟨y, hy, k, e2⟩ := ofv_mem (X := B) (q := ⟨x.f0, x.f1, 0⟩) (by rw [e]; exact hz x hx)
  have : y = x := by
    obtain ⟨y0, y1, y2⟩ := y
    obtain ⟨x0, x1, x2⟩ := x
    simp only [ke] at k
    simp only at e e2
    rw [e] at e2
    simp only [S50.mk.injEq]
    exact ⟨k.1, k.2, e2⟩
  exact this ▸ hy
theorem once_iff {A B : List S50} (hA : Rt A) (hB : Rt B) : (decide (A = B) == (allOf A B && allOf B A)) = true := by
  by_cases e : A = B
  · subst e
    have : allOf A A = true := List.all_eq_true.2 (fun x hx => by simpa using ofv_of_mem hA.1 hx 0)
    simp [this]
  · have : ¬ (allOf A B = true ∧ allOf B A = true) := fun h => e (str_eq hA.1 hB.1 (allOf_mem (fun x hx => (hA.2 x hx).2) h.1) (allOf_mem (fun x hx => (hB.2 x hx).2) h.2))
    have : (allOf A B && allOf B A) = false := by simpa using this
    simp [e, this]
theorem once_l1 (A B : List S50) (hA : Rt A) (hB : Rt B) (lA : A.length ≤ 12) (lB : B.length ≤ 12) : ∀ (r pre : List S50) (c : Bool), B = pre ++ r →
    (decide (A = B) == (c && r.all (fun x => ofv A ⟨x.f0, x.f1, 0⟩ == x.f2))) = true → Ev (fun k => marchlandlaw03_BatchOnce.l1 k (B.map v) A B c (pre.length : Int)) true := by
  intro r
  induction r with
  | nil =>
    intro pre c e hc
    obtain ⟨K1, h1⟩ := told3
    obtain ⟨K2, h2⟩ := same_ev A B (by omega)
    obtain ⟨K3, h3⟩ := right_ev A (by omega)
    obtain ⟨K4, h4⟩ := right_ev B (by omega)
    refine ⟨K1 + K2 + K3 + K4 + 1, fun k hk => ?_⟩
    obtain ⟨k, rfl⟩ : ∃ m, k = m + 1 := ⟨k - 1, by omega⟩
    have h1 := h1 k (by omega); have h2 := h2 k (by omega); have h3 := h3 k (by omega); have h4 := h4 k (by omega)
    dsimp only at h1 h2 h3 h4
    show marchlandlaw03_BatchOnce.l1 (k + 1) _ _ _ _ _ = _
    rw [marchlandlaw03_BatchOnce.l1, if_neg (by subst e; simp)]
    simp only [List.all_nil, Bool.and_true] at hc
    simp only [h1, h2, h3, h4, Option.bind_some, if_true, hc, rt_right hA, rt_right hB]
  | cons x r ih =>
    intro pre c e hc
    have ll : B.length = pre.length + (r.length + 1) := by rw [e]; simp
    have lm : (B.map v).length = B.length := by simp
    have e1 : rd_T40 (B.map v) (pre.length : Int) = v x := by rw [e]; exact rd4m _ _ _ rfl
    have ew : wrap64 ((pre.length : Int) + 1) = ((pre ++ [x]).length : Int) := by rw [w64s (by omega)]; simp
    cases c with
    | true =>
      obtain ⟨K1, h1⟩ := of_ev A hA.1 (by omega) x.f0 x.f1
      obtain ⟨K2, h2⟩ := ih (pre ++ [x]) (ofv A ⟨x.f0, x.f1, 0⟩ == x.f2) (by simp [e]) (by simpa using hc)
      refine ⟨K1 + K2 + 1, fun k hk => ?_⟩
      obtain ⟨k, rfl⟩ : ∃ m, k = m + 1 := ⟨k - 1, by omega⟩
      have h1 := h1 k (by omega); have h2 := h2 k (by omega); dsimp only at h1 h2
      show marchlandlaw03_BatchOnce.l1 (k + 1) _ _ _ _ _ = _
      rw [marchlandlaw03_BatchOnce.l1, if_pos (by omega), if_pos rfl, if_pos (by omega), e1, ew]
      simp only [v, h1, Option.bind_some]
      exact h2
    | false =>
      obtain ⟨K2, h2⟩ := ih (pre ++ [x]) false (by simp [e]) (by simpa using hc)
      refine ⟨K2 + 1, fun k hk => ?_⟩
      obtain ⟨k, rfl⟩ : ∃ m, k = m + 1 := ⟨k - 1, by omega⟩
      have h2 := h2 k (by omega); dsimp only at h2
      show marchlandlaw03_BatchOnce.l1 (k + 1) _ _ _ _ _ = _
      rw [marchlandlaw03_BatchOnce.l1, if_pos (by omega), if_neg (by simp), ew]
      exact h2
theorem once_l0 (A B : List S50) (hA : Rt A) (hB : Rt B) (lA : A.length ≤ 12) (lB : B.length ≤ 12) : ∀ (r pre : List S50) (c : Bool), A = pre ++ r →
    (decide (A = B) == (c && r.all (fun x => ofv B ⟨x.f0, x.f1, 0⟩ == x.f2) && allOf B A)) = true → Ev (fun k => marchlandlaw03_BatchOnce.l0 k (A.map v) (B.map v) A B c (pre.length : Int)) true := by
  intro r
  induction r with
  | nil =>
    intro pre c e hc
    obtain ⟨K1, h1⟩ := once_l1 A B hA hB lA lB B [] c rfl (by simpa [allOf] using hc)
    refine ⟨K1 + 1, fun k hk => ?_⟩
    obtain ⟨k, rfl⟩ : ∃ m, k = m + 1 := ⟨k - 1, by omega⟩
    have h1 := h1 k (by omega); dsimp only at h1
    show marchlandlaw03_BatchOnce.l0 (k + 1) _ _ _ _ _ _ = _
    rw [marchlandlaw03_BatchOnce.l0, if_neg (by subst e; simp)]
    exact h1
  | cons x r ih =>
    intro pre c e hc
    have ll : A.length = pre.length + (r.length + 1) := by rw [e]; simp
    have lm : (A.map v).length = A.length := by simp
    have e1 : rd_T40 (A.map v) (pre.length : Int) = v x := by rw [e]; exact rd4m _ _ _ rfl
    have ew : wrap64 ((pre.length : Int) + 1) = ((pre ++ [x]).length : Int) := by rw [w64s (by omega)]; simp
    cases c with
    | true =>
      obtain ⟨K1, h1⟩ := of_ev B hB.1 (by omega) x.f0 x.f1
      obtain ⟨K2, h2⟩ := ih (pre ++ [x]) (ofv B ⟨x.f0, x.f1, 0⟩ == x.f2) (by simp [e]) (by simpa using hc)
      refine ⟨K1 + K2 + 1, fun k hk => ?_⟩
      obtain ⟨k, rfl⟩ : ∃ m, k = m + 1 := ⟨k - 1, by omega⟩
      have h1 := h1 k (by omega); have h2 := h2 k (by omega); dsimp only at h1 h2
      show marchlandlaw03_BatchOnce.l0 (k + 1) _ _ _ _ _ _ = _
      rw [marchlandlaw03_BatchOnce.l0, if_pos (by omega), if_pos rfl, if_pos (by omega), e1, ew]
      simp only [v, h1, Option.bind_some]
      exact h2
    | false =>
      obtain ⟨K2, h2⟩ := ih (pre ++ [x]) false (by simp [e]) (by simpa using hc)
      refine ⟨K2 + 1, fun k hk => ?_⟩
      obtain ⟨k, rfl⟩ : ∃ m, k = m + 1 := ⟨k - 1, by omega⟩
      have h2 := h2 k (by omega); dsimp only at h2
      show marchlandlaw03_BatchOnce.l0 (k + 1) _ _ _ _ _ _ = _
      rw [marchlandlaw03_BatchOnce.l0, if_pos (by omega), if_neg (by simp), ew]
      exact h2
theorem fix_len (X : List S40) : (sumk ((X.take 12).map fix1)).length ≤ 12 := by have := sumk_len ((X.take 12).map fix1); rw [List.length_map, List.length_take] at this; omega
theorem BatchOnce : ∀ l0 : List S40, l0.length * 24 ≤ 140737488351232 → (∀ y ∈ l0, wfC y) → ∀ l1 : List S40, l1.length * 24 ≤ 140737488351232 → (∀ y ∈ l1, wfC y) → ∃ k, marchlandlaw03_BatchOnce.f k l0 l1 = some true := by
  intro l0 _ q0 l1 _ q1
  obtain ⟨K1, h1⟩ := fix_ev l0
  obtain ⟨K2, h2⟩ := fix_ev l1
  have rA := fix_rt q0
  have rB := fix_rt q1
  have nA := fix_len l0
  have nB := fix_len l1
  generalize sumk ((l0.take 12).map fix1) = A at *
  generalize sumk ((l1.take 12).map fix1) = B at *
  obtain ⟨K3, h3⟩ := to_ev A (by unfold Short; omega)
  obtain ⟨K4, h4⟩ := to_ev B (by unfold Short; omega)
  obtain ⟨K5, h5⟩ := once_l0 A B rA rB nA nB A [] true rfl (by simpa [allOf] using once_iff rA rB)
  let k := K1 + K2 + K3 + K4 + K5
  refine ⟨k, ?_⟩
  have h1 := h1 k (by omega); have h2 := h2 k (by omega); have h3 := h3 k (by omega); have h4 := h4 k (by omega); have h5 := h5 k (by omega)
  dsimp only at h1 h2 h3 h4 h5
  rw [marchlandlaw03_BatchOnce.f]
  simp only [h1, h2, h3, h4, Option.bind_some]
  exact h5
end Go.Proofs.Ytgeldmhgbnamcaa.Pure
end
