/- Walks and laws of several statements of this seat, joined into one text; no condition. -/
import Derived.Test.YtgeldmhgbnamcaaZa9
import Derived.KernelRfl
section
/- The plain law of BatchPacks. -/
namespace Go.Proofs.Ytgeldmhgbnamcaa.Pure
open Go.RowKit Go.Proofs.Ytgeldmhgbnamcaa.P Go.Proofs.YtgeldmhgbnamcaaW.PrintWords Go.Proofs.YtgeldmhgbnamcaaW.PrintLast
set_option linter.unusedVariables false
set_option linter.unusedSimpArgs false
theorem told3 : Ev (fun k => marchlandlaw03_told.f k) true := Ev.of (fun k => marchlandlaw03_told.mono k) (k := 40) (by kernel_rfl)
theorem rightL_of : ∀ (l : List S50) (p : Option S50), Str l → (∀ x ∈ l, wrongv x = 0 ∧ x.f2 ≠ 0) → (∀ q, p = some q → ∀ x ∈ l, kl q x) → rightL p l = true := by
  intro l
  induction l with
  | nil => intro p _ _ _; rfl
  | cons x l ih =>
    intro p hs hw hp
    obtain ⟨h1, h2⟩ := List.pairwise_cons.1 hs
    have a := hw x (by simp)
    have b := ih (some x) h2 (fun y hy => hw y (by simp [hy])) (fun q e y hy => by cases e; exact h1 y hy)
    cases p with
    | none => simp [rightL, a.1, a.2, b]
    | some q => have c := hp q rfl x (by simp); simp [rightL, a.1, a.2, b, c]
theorem firstw_zero : ∀ {l : List S50}, firstw l = 0 → ∀ x ∈ l, wrongv x = 0 := by
  intro l
  induction l with
  | nil => intro _ x h; cases h
  | cons y l ih =>
    intro h x hx
    simp only [firstw] at h
    split at h
    · rename_i h0
      rcases List.mem_cons.1 hx with rfl | hx
      · exact h0
      · exact ih h x hx
    · rename_i h0; exact absurd h h0
theorem fin_right {X : List S50} (h1 : ∀ x ∈ X, wrongv x = 0) (hg : good (tot X) = true) : rightv (fin (tot X)) = true := by
  refine rightL_of _ none ((tot_str X).sublist List.filter_sublist) (fun x hx => ?_) (fun q e => by cases e)
  obtain ⟨hm, hz⟩ := List.mem_filter.1 hx
  obtain ⟨y, hy, ek⟩ := tot_mem hm
  have hwi : wi x.f2 := of_decide_eq_true (List.all_eq_true.1 hg x hm)
  have hy := h1 y hy
  refine ⟨?_, of_decide_eq_true hz⟩
  unfold wrongv at hy ⊢
  rw [ek.1, ek.2]
  split at hy
  · simp at hy
  rename_i a
  split at hy
  · simp at hy
  rename_i b
  rw [if_neg a, if_neg b, if_pos hwi]
theorem packv_right {X : List S50} (h : (packv X).2 = 0) : rightv (packv X).1 = true := by
  unfold packv sumv at *
  split at h
  · simp at h
  rename_i a
  split at h
  · rename_i b
    split at h
    · rename_i c
      rw [if_neg a, if_pos b, if_pos c]
      exact fin_right (firstw_zero b) c
    · simp at h
  · rename_i b; exact absurd h b
theorem packv_len {X : List S50} : (packv X).1.length ≤ 16 := by
  unfold packv sumv
  split
  · simp
  split
  · split
    · have t1 := fin_len (tot X); have t2 := tot_len X; dsimp only; omega
    · simp
  · simp
theorem mn_len {α : Type} (l : List α) (n : Nat) {z : Int} (hz : z = n) : mn (l.length : Int) z = ((min l.length n : Nat) : Int) := by unfold mn; split <;> omega
theorem BatchPacks : ∀ l0 : List S40, l0.length * 24 ≤ 140737488351232 → (∀ y ∈ l0, wfC y) → ∃ k, marchlandlaw03_BatchPacks.f k l0 = some true := by
  intro l0 _ _
  have hX : ∃ X : List S50, X.length ≤ 30 ∧ l0.take ((mn (l0.length : Int) 30) : Int).toNat = X.map v := by
    refine ⟨(l0.take ((mn (l0.length : Int) 30) : Int).toNat).map u, ?_, (map_v_u _).symm⟩
    have := mn_len l0 30 (z := 30) rfl
    simp only [List.length_map, List.length_take]; omega
  obtain ⟨X, hl, eX⟩ := hX
  have sX : Short X.length := by unfold Short; omega
  have m := mn_len l0 30 (z := 30) rfl
  obtain ⟨K1, h1⟩ := to_ev X sX
  obtain ⟨K2, h2⟩ := pack_all X
  obtain ⟨K3, h3⟩ := rpack_ev X
  obtain ⟨K4, h4⟩ := told3
  have sP : Short (packv X).1.length := by have t := packv_len (X := X); unfold Short; omega
  obtain ⟨K5, h5⟩ := from_ev (packv X).1 sP
  obtain ⟨K6, h6⟩ := same3_ev (packv X).1 (packv X).1 sP
  obtain ⟨K7, h7⟩ := right_ev (packv X).1 (by have t := packv_len (X := X); omega)
  obtain ⟨K8, h8⟩ := right_ev X (by omega)
  obtain ⟨K9, h9⟩ := rright_ev X (by omega)
  obtain ⟨K10, h10⟩ := from_ev X sX
  obtain ⟨K11, h11⟩ := same3_ev X X sX
  let k := K1 + K2 + K3 + K4 + K5 + K6 + K7 + K8 + K9 + K10 + K11
  refine ⟨k, ?_⟩
  have h1 := h1 k (by omega); have h2 := h2 k (by omega); have h3 := h3 k (by omega); have h4 := h4 k (by omega); have h5 := h5 k (by omega); have h6 := h6 k (by omega)
  have h7 := h7 k (by omega); have h8 := h8 k (by omega); have h9 := h9 k (by omega); have h10 := h10 k (by omega); have h11 := h11 k (by omega)
  dsimp only at h1 h2 h3 h4 h5 h6 h7 h8 h9 h10 h11
  rw [marchlandlaw03_BatchPacks.f, if_pos (by omega), if_pos (by omega), eX]
  simp only [Option.bind_some, h1, h2, h3, h4, h5, h6, h7, h8, h9, h10, h11, if_true, decide_true, beq_self_eq_true]
  by_cases hz : (packv X).2 = 0
  · simp [hz, packv_right hz]
  · simp [hz]
end Go.Proofs.Ytgeldmhgbnamcaa.Pure
end
