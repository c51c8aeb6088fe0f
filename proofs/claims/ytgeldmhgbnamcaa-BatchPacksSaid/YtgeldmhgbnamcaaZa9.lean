/- Walks and laws of several statements of this seat, joined into one text; no condition. -/
import Derived.Test.YtgeldmhgbnamcaaZa8
section
/- Plain laws of batches, fourth part: the reference's sums, Pack, Right, Same; To and From. Lists of the law are written as 'X.map v'. -/
namespace Go.Proofs.Ytgeldmhgbnamcaa.Pure
open Go.RowKit Go.Proofs.Ytgeldmhgbnamcaa.P Go.Proofs.YtgeldmhgbnamcaaW.PrintWords Go.Proofs.YtgeldmhgbnamcaaW.PrintLast
set_option linter.unusedVariables false
set_option linter.unusedSimpArgs false
deriving instance DecidableEq for S50
theorem to_l0 (X : List S50) (hl : Short X.length) : ∀ (r pre : List S50), X = pre ++ r → Ev (fun k => marchlandlaw03_To.l0 k (X.map v) pre (pre.length : Int)) X := by
 unfold Short at hl
 intro r
 induction r with
 | nil =>
  intro pre e
  refine ⟨1, fun k hk => ?_⟩
  obtain ⟨k, rfl⟩ : ∃ m, k = m + 1 := ⟨k - 1, by omega⟩
  show marchlandlaw03_To.l0 (k + 1) _ _ _ = _
  rw [marchlandlaw03_To.l0, if_neg (by subst e; simp)]
  simp [e]
 | cons x r ih =>
  intro pre e
  obtain ⟨K1, h1⟩ := ih (pre ++ [x]) (by simp [e])
  refine ⟨K1 + 1, fun k hk => ?_⟩
  obtain ⟨k, rfl⟩ : ∃ m, k = m + 1 := ⟨k - 1, by omega⟩
  have h1 := h1 k (by omega); dsimp only at h1
  have ll : X.length = pre.length + (r.length + 1) := by rw [e]; simp
  have lm : (X.map v).length = X.length := by simp
  have e1 : rd_T40 (X.map v) (pre.length : Int) = v x := by rw [e, List.map_append]; exact rd4 _ _ _ (by simp)
  have ew : wrap64 ((pre.length : Int) + 1) = ((pre ++ [x]).length : Int) := by rw [w64s (by omega)]; simp
  show marchlandlaw03_To.l0 (k + 1) _ _ _ = _
  rw [marchlandlaw03_To.l0, if_pos (by omega), if_pos (by omega), if_pos (by omega), e1, ew]
  exact h1
theorem to_ev (X : List S50) (hl : Short X.length) : Ev (fun k => marchlandlaw03_To.f k (X.map v)) X := to_l0 X hl X [] rfl
theorem from_l0 (X : List S50) (hl : Short X.length) : ∀ (r pre : List S50), X = pre ++ r → Ev (fun k => marchlandlaw03_From.l0 k X (pre.map v) (pre.length : Int)) (X.map v) := by
 unfold Short at hl
 intro r
 induction r with
 | nil =>
  intro pre e
  refine ⟨1, fun k hk => ?_⟩
  obtain ⟨k, rfl⟩ : ∃ m, k = m + 1 := ⟨k - 1, by omega⟩
  show marchlandlaw03_From.l0 (k + 1) _ _ _ = _
  rw [marchlandlaw03_From.l0, if_neg (by subst e; simp)]
  simp [e]
 | cons x r ih =>
  intro pre e
  obtain ⟨K1, h1⟩ := ih (pre ++ [x]) (by simp [e])
  refine ⟨K1 + 1, fun k hk => ?_⟩
  obtain ⟨k, rfl⟩ : ∃ m, k = m + 1 := ⟨k - 1, by omega⟩
  have h1 := h1 k (by omega); dsimp only at h1
  have ll : X.length = pre.length + (r.length + 1) := by rw [e]; simp
  have lm : (pre.map v).length = pre.length := by simp
  have e1 : rd_T50 X (pre.length : Int) = x := by rw [e]; exact rd5 _ _ _ rfl
  have ew : wrap64 ((pre.length : Int) + 1) = ((pre ++ [x]).length : Int) := by rw [w64s (by omega)]; simp
  have em : pre.map v ++ [⟨x.f0, x.f1, x.f2⟩] = (pre ++ [x]).map v := by simp [v]
  show marchlandlaw03_From.l0 (k + 1) _ _ _ = _
  rw [marchlandlaw03_From.l0, if_pos (by omega), if_pos (by omega), if_pos (by omega), e1, ew, em]
  exact h1
theorem from_ev (X : List S50) (hl : Short X.length) : Ev (fun k => marchlandlaw03_From.f k X) (X.map v) := from_l0 X hl X [] rfl
theorem same3_l0 (A B : List S50) (hl : Short A.length) (he : A.length = B.length) : ∀ (a b pre : List S50), A = pre ++ a → B = pre ++ b → a.length = b.length →
  Ev (fun k => marchlandref03_Same.l0 k (A.map v) (B.map v) (pre.length : Int)) (decide (A = B)) := by
 unfold Short at hl
 intro a
 induction a with
 | nil =>
  intro b pre e1 e2 e3
  obtain rfl : b = [] := List.eq_nil_of_length_eq_zero e3.symm
  refine ⟨1, fun k hk => ?_⟩
  obtain ⟨k, rfl⟩ : ∃ m, k = m + 1 := ⟨k - 1, by omega⟩
  show marchlandref03_Same.l0 (k + 1) _ _ _ = _
  rw [marchlandref03_Same.l0, if_neg (by subst e1; simp)]
  simp [e1, e2]
 | cons x a ih =>
  intro b pre e1 e2 e3
  cases b with
  | nil => simp at e3
  | cons y b =>
   have ll : A.length = pre.length + (a.length + 1) := by rw [e1]; simp
   have lA : (A.map v).length = A.length := by simp
   have lB : (B.map v).length = B.length := by simp
   have r1 : rd_T40 (A.map v) (pre.length : Int) = v x := by rw [e1, List.map_append]; exact rd4 _ _ _ (by simp)
   have r2 : rd_T40 (B.map v) (pre.length : Int) = v y := by rw [e2, List.map_append]; exact rd4 _ _ _ (by simp)
   by_cases hxy : x = y
   ·subst hxy
    obtain ⟨K1, h1⟩ := ih b (pre ++ [x]) (by simp [e1]) (by simp [e2]) (by simpa using e3)
    refine ⟨K1 + 1, fun k hk => ?_⟩
    obtain ⟨k, rfl⟩ : ∃ m, k = m + 1 := ⟨k - 1, by omega⟩
    have h1 := h1 k (by omega); dsimp only at h1
    have ew : wrap64 ((pre.length : Int) + 1) = ((pre ++ [x]).length : Int) := by rw [w64s (by omega)]; simp
    show marchlandref03_Same.l0 (k + 1) _ _ _ = _
    rw [marchlandref03_Same.l0, if_pos (by omega), if_pos (by omega), if_pos (by omega), r1, r2, if_neg (by simp), ew]
    exact h1
   ·refine ⟨1, fun k hk => ?_⟩
    obtain ⟨k, rfl⟩ : ∃ m, k = m + 1 := ⟨k - 1, by omega⟩
    have hne : A ≠ B := by rw [e1, e2]; simp [hxy]
    show marchlandref03_Same.l0 (k + 1) _ _ _ = _
    rw [marchlandref03_Same.l0, if_pos (by omega), if_pos (by omega), if_pos (by omega), r1, r2, if_pos]
    ·simp [hne]
    ·obtain ⟨a0, a1, a2⟩ := x
     obtain ⟨b0, b1, b2⟩ := y
     simp only [v, S50.mk.injEq, not_and] at hxy ⊢
     by_cases q0 : a0 = b0 <;> by_cases q1 : a1 = b1 <;> simp_all
theorem same3_ev (A B : List S50) (hl : Short A.length) : Ev (fun k => marchlandref03_Same.f k (A.map v) (B.map v)) (decide (A = B)) := by
 by_cases he : A.length = B.length
 ·refine Ev.congr (fun k => ?_) (same3_l0 A B hl he A B [] rfl rfl he)
  show marchlandref03_Same.f k _ _ = _
  rw [marchlandref03_Same.f, if_pos (by simp [he])]; rfl
 ·refine ⟨0, fun k hk => ?_⟩
  show marchlandref03_Same.f k _ _ = _
  rw [marchlandref03_Same.f, if_neg (by simp; omega)]
  have : A ≠ B := fun h => he (by rw [h])
  simp [this]
/-! ### the reference's sums -/
theorem rd4m (p : List S50) (x : S50) (q : List S50) {i : Int} (h : i = p.length) : rd_T40 ((p ++ x :: q).map v) i = v x := by rw [List.map_append]; exact rd4 _ _ _ (by simp [h])
theorem set4m (p : List S50) (x : S50) (q : List S50) (y : S50) {n : Nat} (h : n = p.length) : ((p ++ x :: q).map v).set n (v y) = (p ++ y :: q).map v := by subst h; simp [List.map_append, List.set_append]
/-- the third loop: check and drop -/
theorem sums_l3 (G : List S50) (hl : Short G.length) : ∀ (r pre acc : List S50), G = pre ++ r → acc.length ≤ pre.length →
  Ev (fun k => marchlandref03_sums.l3 k (G.map v) (acc.map v) (pre.length : Int)) (if good r = true then ((acc ++ fin r).map v, true) else ([], false)) := by
 unfold Short at hl
 intro r
 induction r with
 | nil =>
  intro pre acc e ha
  refine ⟨1, fun k hk => ?_⟩
  obtain ⟨k, rfl⟩ : ∃ m, k = m + 1 := ⟨k - 1, by omega⟩
  show marchlandref03_sums.l3 (k + 1) _ _ _ = _
  rw [marchlandref03_sums.l3, if_neg (by subst e; simp)]
  simp [good, fin]
 | cons x r ih =>
  intro pre acc e ha
  obtain ⟨K1, h1⟩ := ih (pre ++ [x]) (acc ++ fin [x]) (by simp [e]) (by have := fin_len [x]; simp at this ⊢; omega)
  refine ⟨K1 + 1, fun k hk => ?_⟩
  obtain ⟨k, rfl⟩ : ∃ m, k = m + 1 := ⟨k - 1, by omega⟩
  have h1 := h1 k (by omega); dsimp only at h1
  have ll : G.length = pre.length + (r.length + 1) := by rw [e]; simp
  have lm : (G.map v).length = G.length := by simp
  have lc : (acc.map v).length = acc.length := by simp
  have e1 : rd_T40 (G.map v) (pre.length : Int) = v x := by rw [e]; exact rd4m _ _ _ rfl
  have ew : wrap64 ((pre.length : Int) + 1) = ((pre ++ [x]).length : Int) := by rw [w64s (by omega)]; simp
  show marchlandref03_sums.l3 (k + 1) _ _ _ = _
  rw [marchlandref03_sums.l3, if_pos (by omega), if_pos (by omega), e1, within3_eq, Option.bind_some, good_cons, fin_cons, ew]
  by_cases hc : wi x.f2
  ·rw [if_pos (show decide (wi (v x).f2) = true from decide_eq_true hc)]
   simp only [hc, decide_true, Bool.true_and, ← List.append_assoc]
   by_cases hz : x.f2 = 0
   ·rw [if_pos (show (v x).f2 = 0 from hz)]
    have : fin [x] = [] := by simp [fin, hz]
    rw [this, List.append_nil] at h1 ⊢
    exact h1
   ·rw [if_neg (show ¬ (v x).f2 = 0 from hz), if_pos (by omega)]
    have : fin [x] = [x] := by simp [fin, hz]
    rw [this] at h1 ⊢
    have em : acc.map v ++ [(⟨(v x).f0, (v x).f1, (v x).f2⟩ : S40)] = (acc ++ [x]).map v := by simp [v]
    rw [em]; exact h1
  ·rw [if_neg (show ¬ decide (wi (v x).f2) = true from fun h => hc (of_decide_eq_true h))]
   simp [hc]
theorem ins_head {x : S50} {B : List S50} (h : ∀ b ∈ B, kl x b) : ins x B = x :: B := by
 cases B with
 | nil => rfl
 | cons b B =>
  have h := h b (by simp)
  have : ¬ ke b x := by unfold kl ke at *; omega
  simp [ins, this, h]
/-- the bubbling down -/
theorem sums_l2 (X' : List S40) (i : Int) {r : List S40 × Bool} : ∀ (n : Nat) (A : List S50) (x : S50) (B : List S50), A.length = n → n ≤ 8000000000000000000 → Str (A ++ B) → (∀ b ∈ B, kl x b) → (∀ a ∈ A, ¬ ke a x) →
  Ev (fun k => marchlandref03_sums.l0 k X' ((ins x (A ++ B)).map v) (wrap64 (i + 1))) r → Ev (fun k => marchlandref03_sums.l2 k X' ((A ++ x :: B).map v) i (n : Int)) r := by
 intro n
 induction n with
 | zero =>
  intro A x B hA hn hs hB hk h
  obtain rfl : A = [] := List.eq_nil_of_length_eq_zero hA
  refine Ev.step (fun k => ?_) h
  show marchlandref03_sums.l2 (k + 1) _ _ _ _ = _
  rw [marchlandref03_sums.l2, if_neg (by simp)]
  simp only [List.nil_append, ins_head hB]
 | succ n ih =>
  intro A x B hA hn hs hB hk h
  rcases List.eq_nil_or_concat A with rfl | ⟨A', y, rfl⟩
  ·simp at hA
  simp only [List.concat_eq_append] at hA hs hk h ⊢
  have hA' : A'.length = n := by simpa using hA
  have eL : A' ++ [y] ++ x :: B = A' ++ y :: x :: B := by simp
  have lL : ((A' ++ y :: x :: B).map v).length = n + 2 + B.length := by simp; omega
  have ew : wrap64 (((n + 1 : Nat) : Int) - 1) = (n : Int) := w64p (by omega)
  have e1 : rd_T40 ((A' ++ y :: x :: B).map v) ((n + 1 : Nat) : Int) = v x := by
   have := rd4m (A' ++ [y]) x B (i := ((n + 1 : Nat) : Int)) (by simp; omega)
   simpa using this
  have e2 : rd_T40 ((A' ++ y :: x :: B).map v) (n : Int) = v y := rd4m A' y (x :: B) (by omega)
  by_cases hc : kl x y
  ·obtain ⟨K, h1⟩ := ih A' x (y :: B) hA' (by omega) (by simpa using hs) (fun b hb => (List.mem_cons.1 hb).elim (fun e => e ▸ hc) (fun hb => hB b hb)) (fun a ha => hk a (by simp [ha])) (by simpa using h)
   refine ⟨K + 1, fun k hk => ?_⟩
   obtain ⟨k, rfl⟩ : ∃ m, k = m + 1 := ⟨k - 1, by omega⟩
   have h1 := h1 k (by omega); dsimp only at h1
   have s1 : ((A' ++ y :: x :: B).map v).set (n : Int).toNat (v x) = (A' ++ x :: x :: B).map v := set4m A' y (x :: B) x (by simp; omega)
   have s2 : ((A' ++ x :: x :: B).map v).set ((n + 1 : Nat) : Int).toNat (v y) = (A' ++ x :: y :: B).map v := by
    have := set4m (A' ++ [x]) x B y (n := ((n + 1 : Nat) : Int).toNat) (by simp; omega)
    simpa using this
   show marchlandref03_sums.l2 (k + 1) _ _ _ _ = _
   rw [marchlandref03_sums.l2, eL, ew, if_pos (by omega), if_pos (by omega), if_pos (by omega), if_pos (by omega), if_pos (by omega), e1, e2]
   rw [show marchlandref03_before.f (v x).f0 (v x).f1 (v x).f2 (v y).f0 (v y).f1 (v y).f2 = some (decide (kl x y)) from before_eq x y, Option.bind_some, if_pos (decide_eq_true hc)]
   rw [show (⟨(v x).f0, (v x).f1, (v x).f2⟩ : S40) = v x from rfl, show (⟨(v y).f0, (v y).f1, (v y).f2⟩ : S40) = v y from rfl, s1, s2]
   exact h1
  ·have hyx : kl y x := (kl_tri x y).elim (fun h => absurd h hc) (fun h => h.elim (fun h => absurd (ke_comm.1 h) (hk y (by simp))) id)
   have hall : ∀ a ∈ A' ++ [y], kl a x := fun a ha => by
    rcases List.mem_append.1 ha with ha | ha
    ·exact kl_trans ((List.pairwise_append.1 (List.pairwise_append.1 hs).1).2.2 a ha y (by simp)) hyx
    ·simp at ha; subst ha; exact hyx
   rw [ins_app B hall, ins_head hB] at h
   refine Ev.step (fun k => ?_) h
   show marchlandref03_sums.l2 (k + 1) _ _ _ _ = _
   rw [marchlandref03_sums.l2, eL, ew, if_pos (by omega), if_pos (by omega), if_pos (by omega), if_pos (by omega), if_pos (by omega), e1, e2]
   rw [show marchlandref03_before.f (v x).f0 (v x).f1 (v x).f2 (v y).f0 (v y).f1 (v y).f2 = some (decide (kl x y)) from before_eq x y, Option.bind_some, if_neg (fun h => hc (of_decide_eq_true h))]
theorem sums_skip {X' : List S40} {i : Int} {x : S50} (hi : 0 ≤ i) (hi' : i < X'.length) (hx : rd_T40 X' i = v x) {c : Int} {r : List S40 × Bool} (C : List S50) : ∀ (B A : List S50), (∀ y ∈ B, ¬ ke y x) → A.length + B.length ≤ 8000000000000000000 →
  Ev (fun k => marchlandref03_sums.l1 k X' ((A ++ B ++ C).map v) i c ((A.length + B.length : Nat) : Int)) r → Ev (fun k => marchlandref03_sums.l1 k X' ((A ++ B ++ C).map v) i c (A.length : Int)) r := by
 intro B
 induction B with
 | nil => intro A _ _ h; simpa using h
 | cons y B ih =>
  intro A hB hl h
  simp only [List.length_cons] at hl
  have hy := hB y (by simp)
  obtain ⟨K, h1⟩ := ih (A ++ [y]) (fun z hz => hB z (by simp [hz])) (by simp; omega) (by
   have e : (A ++ [y]).length + B.length = A.length + (y :: B).length := by simp; omega
   rw [e]; simpa using h)
  refine ⟨K + 1, fun k hk => ?_⟩
  obtain ⟨k, rfl⟩ : ∃ m, k = m + 1 := ⟨k - 1, by omega⟩
  have h1 := h1 k (by omega); dsimp only at h1
  have eL : A ++ [y] ++ B ++ C = A ++ y :: B ++ C := by simp
  have lL : ((A ++ y :: B ++ C).map v).length = A.length + (B.length + 1) + C.length := by simp; omega
  have e1 : rd_T40 ((A ++ y :: B ++ C).map v) (A.length : Int) = v y := by
   have := rd4m A y (B ++ C) (i := (A.length : Int)) rfl
   simpa using this
  have ew : wrap64 ((A.length : Int) + 1) = ((A ++ [y]).length : Int) := by rw [w64s (by omega)]; simp
  rw [eL] at h1
  show marchlandref03_sums.l1 (k + 1) _ _ _ _ _ = _
  rw [marchlandref03_sums.l1, if_pos (by omega), if_pos (by omega), if_pos hi, if_pos hi', e1, hx, ew, h1]
  by_cases q0 : (v y).f0 = (v x).f0
  ·have q1 : ¬ (v y).f1 = (v x).f1 := fun q1 => hy ⟨q0, q1⟩
   rw [if_pos q0, if_neg q1]
  ·rw [if_neg q0]
theorem mem_split_ke {x : S50} : ∀ {G : List S50}, (∃ y ∈ G, ke y x) → Str G → ∃ A y B, G = A ++ y :: B ∧ ke y x ∧ (∀ a ∈ A, ¬ ke a x) ∧ (∀ b ∈ B, ¬ ke b x) ∧ (∀ a ∈ A, kl a x) := by
 intro G ⟨y, hy, k⟩ hs
 obtain ⟨A, B, rfl⟩ := List.append_of_mem hy
 obtain ⟨h1, h2, h3⟩ := List.pairwise_append.1 hs
 refine ⟨A, y, B, rfl, k, fun a ha => ?_, fun b hb => ?_, fun a ha => ?_⟩
 ·have := h3 a ha y (by simp); unfold kl ke at *; omega
 ·have := (List.pairwise_cons.1 h2).1 b hb; unfold kl ke at *; omega
 ·have := h3 a ha y (by simp); unfold kl ke at *; omega
/-- one element summed in -/
theorem sums_step {X' : List S40} {i : Int} {x : S50} (hi : 0 ≤ i) (hi' : i < X'.length) (hx : rd_T40 X' i = v x) {r : List S40 × Bool} {G : List S50} (hs : Str G) (hl : Short G.length)
  (h : Ev (fun k => marchlandref03_sums.l0 k X' ((ins x G).map v) (wrap64 (i + 1))) r) : Ev (fun k => marchlandref03_sums.l1 k X' (G.map v) i (-1) 0) r := by
 unfold Short at hl
 by_cases hk : ∃ y ∈ G, ke y x
 ·obtain ⟨A, y, B, rfl, ky, hA, hB, hAl⟩ := mem_split_ke hk hs
  have hl' : A.length + (B.length + 1) ≤ 5864062014634 := by simpa using hl
  have ei : ins x (A ++ y :: B) = A ++ plus y x :: B := by rw [ins_app _ hAl]; simp [ins, ky]
  rw [ei] at h
  have lL : ((A ++ y :: B).map v).length = A.length + (B.length + 1) := by simp
  have e1 : rd_T40 ((A ++ y :: B).map v) (A.length : Int) = v y := rd4m A y B rfl
  have ew : wrap64 ((A.length : Int) + 1) = ((A ++ [y]).length : Int) := by rw [w64s (by omega)]; simp
  have h1 := sums_skip hi hi' hx (c := -1) (r := r) (y :: B) A [] hA (by simp; omega)
  simp only [List.nil_append, List.length_nil, Nat.zero_add] at h1
  refine h1 ?_
  have h2 := sums_skip hi hi' hx (c := (A.length : Int)) (r := r) [] B (A ++ [y]) hB (by simp; omega)
  simp only [List.append_nil, List.append_assoc, List.singleton_append] at h2
  suffices h3 : Ev (fun k => marchlandref03_sums.l1 k X' ((A ++ y :: B).map v) i (A.length : Int) (((A ++ [y]).length + B.length : Nat) : Int)) r by
   obtain ⟨K, h2⟩ := h2 h3
   refine ⟨K + 1, fun k hk => ?_⟩
   obtain ⟨k, rfl⟩ : ∃ m, k = m + 1 := ⟨k - 1, by omega⟩
   have h2 := h2 k (by omega); dsimp only at h2
   show marchlandref03_sums.l1 (k + 1) _ _ _ _ _ = _
   rw [marchlandref03_sums.l1, if_pos (by omega), if_pos (by omega), if_pos hi, if_pos hi', e1, hx, ew, if_pos (show (v y).f0 = (v x).f0 from ky.1), if_pos (show (v y).f1 = (v x).f1 from ky.2)]
   exact h2
  have s1 : ((A ++ y :: B).map v).set (A.length : Int).toNat ⟨(v y).f0, (v y).f1, wrap64 ((v y).f2 + (v x).f2)⟩ = (A ++ plus y x :: B).map v := set4m A y B (plus y x) (by simp)
  refine Ev.step (fun k => ?_) h
  show marchlandref03_sums.l1 (k + 1) _ _ _ _ _ = _
  rw [marchlandref03_sums.l1, if_neg (by simp; omega), if_pos (by omega), if_pos (by omega), if_pos (by omega), if_pos hi, if_pos hi', e1, hx, s1]
 ·have hk' : ∀ y ∈ G, ¬ ke y x := fun y hy h => hk ⟨y, hy, h⟩
  have h1 := sums_skip hi hi' hx (c := -1) (r := r) [] G [] hk' (by simp; omega)
  simp only [List.nil_append, List.length_nil, Nat.zero_add, List.append_nil] at h1
  refine h1 ?_
  have h2 := sums_l2 X' i (r := r) G.length G x [] rfl (by omega) (by simpa using hs) (fun _ h => by cases h) hk' (by simpa using h)
  have e2 : (G.map v) ++ [(⟨(v x).f0, (v x).f1, (v x).f2⟩ : S40)] = (G ++ [x]).map v := by simp [v]
  refine Ev.step (fun k => ?_) h2
  show marchlandref03_sums.l1 (k + 1) _ _ _ _ _ = _
  have ew : wrap64 ((((G ++ [x]).map v).length : Int) - 1) = (G.length : Int) := by rw [show ((G ++ [x]).map v).length = G.length + 1 by simp]; exact w64p (by omega)
  rw [marchlandref03_sums.l1, if_neg (by simp), if_neg (by omega), if_pos hi, if_pos hi', if_pos (by simp; omega), hx, e2, Option.bind_some, ew]
def sumr (l : List S50) : List S50 × Bool := if good (tot l) = true then (fin (tot l), true) else ([], false)
theorem sums_l0 (X : List S50) (hl : Short X.length) : ∀ (r pre G : List S50), X = pre ++ r → Str G → G.length ≤ pre.length →
  Ev (fun k => marchlandref03_sums.l0 k (X.map v) (G.map v) (pre.length : Int)) (let T := r.foldl (fun a x => ins x a) G; if good T = true then ((fin T).map v, true) else ([], false)) := by
 unfold Short at hl
 intro r
 induction r with
 | nil =>
  intro pre G e hs hg
  have ll : X.length = pre.length := by rw [e]; simp
  refine Ev.step (f := fun k => marchlandref03_sums.l3 k (G.map v) [] 0) (fun k => ?_) (sums_l3 G (by unfold Short; omega) G [] [] rfl (by simp))
  show marchlandref03_sums.l0 (k + 1) _ _ _ = _
  rw [marchlandref03_sums.l0, if_neg (by simp; omega)]
 | cons x r ih =>
  intro pre G e hs hg
  have ll : X.length = pre.length + (r.length + 1) := by rw [e]; simp
  have lm : (X.map v).length = X.length := by simp
  have h := ih (pre ++ [x]) (ins x G) (by simp [e]) (ins_str hs) (by have := ins_len (x := x) (l := G); simp; omega)
  have ew : wrap64 ((pre.length : Int) + 1) = ((pre ++ [x]).length : Int) := by rw [w64s (by omega)]; simp
  rw [← ew] at h
  refine Ev.step (fun k => ?_) (sums_step (X' := X.map v) (i := (pre.length : Int)) (x := x) (by omega) (by omega) (by rw [e]; exact rd4m _ _ _ rfl) hs (by unfold Short; omega) h)
  show marchlandref03_sums.l0 (k + 1) _ _ _ = _
  rw [marchlandref03_sums.l0, if_pos (by omega)]
theorem sums_ev (X : List S50) (hl : Short X.length) : Ev (fun k => marchlandref03_sums.f k (X.map v)) (if good (tot X) = true then ((fin (tot X)).map v, true) else ([], false)) :=
 sums_l0 X hl X [] [] rfl List.Pairwise.nil (by simp)
/-! ### the reference's Pack and Right -/
theorem wrongv_val (x : S50) : wrongv x = if x.f0 < 0 ∨ x.f0 ≥ 64 then 2 else if x.f1 = 18446744073709551615 then 1 else if wi x.f2 then 0 else 10 := rfl
theorem rpack_l0 (X : List S50) (hl : Short X.length) : ∀ (r pre : List S50), X = pre ++ r →
  Ev (fun k => marchlandref03_Pack.l0 k (X.map v) (pre.length : Int)) (if firstw r = 0 then ((sumv X).1.map v, (sumv X).2) else ([], firstw r)) := by
 unfold Short at hl
 intro r
 induction r with
 | nil =>
  intro pre e
  obtain ⟨K, h⟩ := sums_ev X hl
  refine ⟨K + 1, fun k hk => ?_⟩
  obtain ⟨k, rfl⟩ : ∃ m, k = m + 1 := ⟨k - 1, by omega⟩
  have h := h k (by omega); dsimp only at h
  show marchlandref03_Pack.l0 (k + 1) _ _ = _
  rw [marchlandref03_Pack.l0, if_neg (by subst e; simp), h]
  simp only [firstw, if_true, sumv, Option.bind_some]
  split <;> simp
 | cons x r ih =>
  intro pre e
  have ll : X.length = pre.length + (r.length + 1) := by rw [e]; simp
  have lm : (X.map v).length = X.length := by simp
  obtain ⟨K, h⟩ := ih (pre ++ [x]) (by simp [e])
  have ew : wrap64 ((pre.length : Int) + 1) = ((pre ++ [x]).length : Int) := by rw [w64s (by omega)]; simp
  have e1 : rd_T40 (X.map v) (pre.length : Int) = v x := by rw [e]; exact rd4m _ _ _ rfl
  refine ⟨K + 2, fun k hk => ?_⟩
  obtain ⟨k, rfl⟩ : ∃ m, k = m + 2 := ⟨k - 2, by omega⟩
  have h := h k (by omega); dsimp only at h
  have ej : marchlandref03_Pack.l0 (k + 2) (X.map v) (pre.length : Int) = marchlandref03_Pack.j1 (k + 1) (X.map v) (pre.length : Int) (decide (x.f0 < 0 ∨ x.f0 ≥ 64)) := by
   rw [marchlandref03_Pack.l0, if_pos (by omega), if_pos (by omega), e1]
   by_cases hp : x.f0 < 0
   ·rw [if_pos (show (v x).f0 < 0 from hp)]; simp [hp]
   ·rw [if_neg (show ¬ (v x).f0 < 0 from hp)]
    congr 1
    have : ((v x).f0 > 63) = (x.f0 > 63) := rfl
    simp only [this]; apply decide_eq_decide.2; omega
  show marchlandref03_Pack.l0 (k + 2) _ _ = _
  rw [ej, marchlandref03_Pack.j1]
  simp only [firstw, wrongv_val]
  by_cases hp : x.f0 < 0 ∨ x.f0 ≥ 64
  ·rw [if_pos (decide_eq_true hp)]; simp [hp]
  ·rw [if_neg (fun h => hp (of_decide_eq_true h)), if_pos (by omega), if_pos (by omega), e1]
   simp only [if_neg hp]
   by_cases ht : x.f1 = 18446744073709551615
   ·rw [if_pos (show (v x).f1 = 18446744073709551615 from ht)]; simp [ht]
   ·rw [if_neg (show ¬ (v x).f1 = 18446744073709551615 from ht), show marchlandref03_within.f (v x).f2 = some (decide (wi x.f2)) from within3_eq _, Option.bind_some]
    simp only [if_neg ht]
    by_cases hw : wi x.f2
    ·rw [if_pos (decide_eq_true hw), ew, h]; simp [hw]
    ·rw [if_neg (fun h => hw (of_decide_eq_true h))]; simp [hw]
theorem rpack_ev (X : List S50) : Ev (fun k => marchlandref03_Pack.f k (X.map v)) ((packv X).1.map v, (packv X).2) := by
 unfold packv
 by_cases h : X.length > 16
 ·rw [if_pos h]
  exact ⟨0, fun k _ => by show marchlandref03_Pack.f k _ = _; rw [marchlandref03_Pack.f, if_pos (by simp; omega)]; rfl⟩
 ·rw [if_neg h]
  have := rpack_l0 X (by unfold Short; omega) X [] rfl
  obtain ⟨K, h1⟩ := this
  refine ⟨K, fun k hk => ?_⟩
  have h1 := h1 k hk; dsimp only at h1
  show marchlandref03_Pack.f k _ = _
  rw [marchlandref03_Pack.f, if_neg (by simp; omega)]
  refine Eq.trans h1 ?_
  by_cases h2 : firstw X = 0
  ·rw [if_pos h2, if_pos h2]
  ·rw [if_neg h2, if_neg h2]; rfl
theorem rright_l0 (X : List S50) (hl : X.length ≤ 8000000000000000000) : ∀ (r pre : List S50), X = pre ++ r →
  Ev (fun k => marchlandref03_Right.l0 k (X.map v) (pre.length : Int)) (rightL pre.getLast? r) := by
 intro r
 induction r with
 | nil =>
  intro pre e
  refine ⟨1, fun k hk => ?_⟩
  obtain ⟨k, rfl⟩ : ∃ m, k = m + 1 := ⟨k - 1, by omega⟩
  show marchlandref03_Right.l0 (k + 1) _ _ = _
  rw [marchlandref03_Right.l0, if_neg (by subst e; simp)]
  rfl
 | cons x r ih =>
  intro pre e
  obtain ⟨K1, h1⟩ := ih (pre ++ [x]) (by simp [e])
  have e1 : rd_T40 (X.map v) (pre.length : Int) = v x := by rw [e]; exact rd4m _ _ _ rfl
  have ll : X.length = pre.length + (r.length + 1) := by rw [e]; simp
  have lm : (X.map v).length = X.length := by simp
  have ew : wrap64 ((pre.length : Int) + 1) = ((pre ++ [x]).length : Int) := by rw [w64s (by omega)]; simp
  refine ⟨K1 + 1, fun k hk => ?_⟩
  obtain ⟨k, rfl⟩ : ∃ m, k = m + 1 := ⟨k - 1, by omega⟩
  have h1 := h1 k (by omega); dsimp only at h1
  show marchlandref03_Right.l0 (k + 1) _ _ = _
  rw [marchlandref03_Right.l0, if_pos (by omega), if_pos (by omega), e1, show marchlandref03_within.f (v x).f2 = some (decide (wi x.f2)) from within3_eq _, Option.bind_some, ew, h1]
  simp only [show (v x).f0 = x.f0 from rfl, show (v x).f1 = x.f1 from rfl, show (v x).f2 = x.f2 from rfl]
  simp only [rightL, wrongv_val]
  by_cases p0 : x.f0 < 0
  ·rw [if_pos p0]; simp [p0]
  rw [if_neg p0]
  by_cases p1 : x.f0 > 63
  ·have : x.f0 < 0 ∨ x.f0 ≥ 64 := by omega
   rw [if_pos p1]; simp [this]
  rw [if_neg p1]
  have p2 : ¬ (x.f0 < 0 ∨ x.f0 ≥ 64) := by omega
  simp only [if_neg p2]
  by_cases p3 : x.f1 = 18446744073709551615
  ·rw [if_pos p3]; simp [p3]
  rw [if_neg p3]
  simp only [if_neg p3]
  by_cases p4 : x.f2 = 0
  ·rw [if_pos p4]; simp [p4]
  rw [if_neg p4]
  by_cases p5 : wi x.f2
  ·rw [if_pos (decide_eq_true p5)]
   simp only [if_pos p5, decide_true, Bool.true_and, p4, not_false_eq_true, ne_eq]
   rcases List.eq_nil_or_concat pre with rfl | ⟨pre', y, rfl⟩
   ·rw [if_neg (by simp)]; simp
   ·simp only [List.concat_eq_append] at *
    have lp : (pre' ++ [y]).length = pre'.length + 1 := by simp
    have ep : wrap64 (((pre' ++ [y]).length : Int) - 1) = (pre'.length : Int) := by rw [lp]; exact w64p (by omega)
    have e2 : rd_T40 (X.map v) (pre'.length : Int) = v y := by rw [e, List.append_assoc]; exact rd4m _ _ _ rfl
    rw [if_pos (by omega), ep, if_pos (by omega), if_pos (by omega), e2, show marchlandref03_before.f (v y).f0 (v y).f1 (v y).f2 x.f0 x.f1 x.f2 = some (decide (kl y x)) from before_eq y x, Option.bind_some]
    simp only [List.getLast?_append, List.getLast?_singleton, Option.some_or]
    by_cases hk : kl y x
    ·rw [if_pos (decide_eq_true hk)]; simp [hk]
    ·rw [if_neg (fun h => hk (of_decide_eq_true h))]; simp [hk]
  ·rw [if_neg (fun h => p5 (of_decide_eq_true h))]; simp [p5]
theorem rright_ev (X : List S50) (hl : X.length ≤ 8000000000000000000) : Ev (fun k => marchlandref03_Right.f k (X.map v)) (rightv X) := rright_l0 X hl X [] rfl
end Go.Proofs.Ytgeldmhgbnamcaa.Pure
end
