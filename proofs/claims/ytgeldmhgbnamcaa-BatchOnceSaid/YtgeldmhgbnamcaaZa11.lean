/- Walks and laws of several statements of this seat, joined into one text; no condition. -/
import Derived.Test.YtgeldmhgbnamcaaZa10
import Derived.Test.YtgeldmhgbnamcaaZa8
import Derived.KernelRfl
section
/- Plain laws of batches, fourth part: the reference's sums, Pack, Right, Same; To and From. Lists of the law are written as 'X.map v'. -/
namespace Go.Proofs.Ytgeldmhgbnamcaa.Pure
open Go.RowKit Go.Proofs.Ytgeldmhgbnamcaa.P Go.Proofs.YtgeldmhgbnamcaaW.PrintWords Go.Proofs.YtgeldmhgbnamcaaW.PrintLast
set_option linter.unusedVariables false
set_option linter.unusedSimpArgs false
deriving instance DecidableEq for S50
theorem to_l0 (X : List S50) (hl : Short X.length) : ∀ (r pre : List S50), X = pre ++ r → Ev (fun k => marchlandlaw03_To.l0 k (X.map v) pre (pre.length : Int)) X := by
 unfold Short at hl
 intro r
 induction r with
 | nil =>
  intro pre e
  refine ⟨1, fun k hk => ?_⟩
  obtain ⟨k, rfl⟩ : ∃ m, k = m + 1 := ⟨k - 1, by omega⟩
  show marchlandlaw03_To.l0 (k + 1) _ _ _ = _
  rw [marchlandlaw03_To.l0, if_neg (by subst e; simp)]
  simp [e]
 | cons x r ih =>
  intro pre e
  obtain ⟨K1, h1⟩ := ih (pre ++ [x]) (by simp [e])
  refine ⟨K1 + 1, fun k hk => ?_⟩
  obtain ⟨k, rfl⟩ : ∃ m, k = m + 1 := ⟨k - 1, by omega⟩
  have h1 := h1 k (by omega); dsimp only at h1
  have ll : X.length = pre.length + (r.length + 1) := by rw [e]; simp
  have lm : (X.map v).length = X.length := by simp
  have e1 : rd_T40 (X.map v) (pre.length : Int) = v x := by rw [e, List.map_append]; exact rd4 _ _ _ (by simp)
  have ew : wrap64 ((pre.length : Int) + 1) = ((pre ++ [x]).length : Int) := by rw [w64s (by omega)]; simp
  show marchlandlaw03_To.l0 (k + 1) _ _ _ = _
  rw [marchlandlaw03_To.l0, if_pos (by omega), if_pos (by omega), if_pos (by omega), e1, ew]
  exact h1
theorem to_ev (X : List S50) (hl : Short X.length) : Ev (fun k => marchlandlaw03_To.f k (X.map v)) X := to_l0 X hl X [] rfl
theorem from_l0 (X : List S50) (hl : Short X.length) : ∀ (r pre : List S50), X = pre ++ r → Ev (fun k => marchlandlaw03_From.l0 k X (pre.map v) (pre.length : Int)) (X.map v) := by
 unfold Short at hl
 intro r
 induction r with
 | nil =>
  intro pre e
  refine ⟨1, fun k hk => ?_⟩
  obtain ⟨k, rfl⟩ : ∃ m, k = m + 1 := ⟨k - 1, by omega⟩
  show marchlandlaw03_From.l0 (k + 1) _ _ _ = _
  rw [marchlandlaw03_From.l0, if_neg (by subst e; simp)]
  simp [e]
 | cons x r ih =>
  intro pre e
  obtain ⟨K1, h1⟩ := ih (pre ++ [x]) (by simp [e])
  refine ⟨K1 + 1, fun k hk => ?_⟩
  obtain ⟨k, rfl⟩ : ∃ m, k = m + 1 := ⟨k - 1, by omega⟩
  have h1 := h1 k (by omega); dsimp only at h1
  have ll : X.length = pre.length + (r.length + 1) := by rw [e]; simp
  have lm : (pre.map v).length = pre.length := by simp
  have e1 : rd_T50 X (pre.length : Int) = x := by rw [e]; exact rd5 _ _ _ rfl
  have ew : wrap64 ((pre.length : Int) + 1) = ((pre ++ [x]).length : Int) := by rw [w64s (by omega)]; simp
  have em : pre.map v ++ [⟨x.f0, x.f1, x.f2⟩] = (pre ++ [x]).map v := by simp [v]
  show marchlandlaw03_From.l0 (k + 1) _ _ _ = _
  rw [marchlandlaw03_From.l0, if_pos (by omega), if_pos (by omega), if_pos (by omega), e1, ew, em]
  exact h1
theorem from_ev (X : List S50) (hl : Short X.length) : Ev (fun k => marchlandlaw03_From.f k X) (X.map v) := from_l0 X hl X [] rfl
theorem same3_l0 (A B : List S50) (hl : Short A.length) (he : A.length = B.length) : ∀ (a b pre : List S50), A = pre ++ a → B = pre ++ b → a.length = b.length →
  Ev (fun k => marchlandref03_Same.l0 k (A.map v) (B.map v) (pre.length : Int)) (decide (A = B)) := by
 unfold Short at hl
 intro a
 induction a with
 | nil =>
  intro b pre e1 e2 e3
  obtain rfl : b = [] := List.eq_nil_of_length_eq_zero e3.symm
  refine ⟨1, fun k hk => ?_⟩
  obtain ⟨k, rfl⟩ : ∃ m, k = m + 1 := ⟨k - 1, by omega⟩
  show marchlandref03_Same.l0 (k + 1) _ _ _ = _
  rw [marchlandref03_Same.l0, if_neg (by subst e1; simp)]
  simp [e1, e2]
 | cons x a ih =>
  intro b pre e1 e2 e3
  cases b with
  | nil => simp at e3
  | cons y b =>
   have ll : A.length = pre.length + (a.length + 1) := by rw [e1]; simp
   have lA : (A.map v).length = A.length := by simp
   have lB : (B.map v).length = B.length := by simp
   have r1 : rd_T40 (A.map v) (pre.length : Int) = v x := by rw [e1, List.map_append]; exact rd4 _ _ _ (by simp)
   have r2 : rd_T40 (B.map v) (pre.length : Int) = v y := by rw [e2, List.map_append]; exact rd4 _ _ _ (by simp)
   by_cases hxy : x = y
   ·subst hxy
    obtain ⟨K1, h1⟩ := ih b (pre ++ [x]) (by simp [e1]) (by simp [e2]) (by simpa using e3)
    refine ⟨K1 + 1, fun k hk => ?_⟩
    obtain ⟨k, rfl⟩ : ∃ m, k = m + 1 := ⟨k - 1, by omega⟩
    have h1 := h1 k (by omega); dsimp only at h1
    have ew : wrap64 ((pre.length : Int) + 1) = ((pre ++ [x]).length : Int) := by rw [w64s (by omega)]; simp
    show marchlandref03_Same.l0 (k + 1) _ _ _ = _
    rw [marchlandref03_Same.l0, if_pos (by omega), if_pos (by omega), if_pos (by omega), r1, r2, if_neg (by simp), ew]
    exact h1
   ·refine ⟨1, fun k hk => ?_⟩
    obtain ⟨k, rfl⟩ : ∃ m, k = m + 1 := ⟨k - 1, by omega⟩
    have hne : A ≠ B := by rw [e1, e2]; simp [hxy]
    show marchlandref03_Same.l0 (k + 1) _ _ _ = _
    rw [marchlandref03_Same.l0, if_pos (by omega), if_pos (by omega), if_pos (by omega), r1, r2, if_pos]
    ·simp [hne]
    ·obtain ⟨a0, a1, a2⟩ := x
     obtain ⟨b0, b1, b2⟩ := y
     simp only [v, S50.mk.injEq, not_and] at hxy ⊢
     by_cases q0 : a0 = b0 <;> by_cases q1 : a1 = b1 <;> simp_all
theorem same3_ev (A B : List S50) (hl : Short A.length) : Ev (fun k => marchlandref03_Same.f k (A.map v) (B.map v)) (decide (A = B)) := by
 by_cases he : A.length = B.length
 ·refine Ev.congr (fun k => ?_) (same3_l0 A B hl he A B [] rfl rfl he)
  show marchlandref03_Same.f k _ _ = _
  rw [marchlandref03_Same.f, if_pos (by simp [he])]; rfl
 ·refine ⟨0, fun k hk => ?_⟩
  show marchlandref03_Same.f k _ _ = _
  rw [marchlandref03_Same.f, if_neg (by simp; omega)]
  have : A ≠ B := fun h => he (by rw [h])
  simp [this]
/-! ### the reference's sums -/
theorem rd4m (p : List S50) (x : S50) (q : List S50) {i : Int} (h : i = p.length) : rd_T40 ((p ++ x :: q).map v) i = v x := by rw [List.map_append]; exact rd4 _ _ _ (by simp [h])
theorem set4m (p : List S50) (x : S50) (q : List S50) (y : S50) {n : Nat} (h : n = p.length) : ((p ++ x :: q).map v).set n (v y) = (p ++ y :: q).map v := by subst h; simp [List.map_append, List.set_append]
/-- the third loop: check and drop -/
theorem sums_l3 (G : List S50) (hl : Short G.length) : ∀ (r pre acc : List S50), G = pre ++ r → acc.length ≤ pre.length →
  Ev (fun k => marchlandref03_sums.l3 k (G.map v) (acc.map v) (pre.length : Int)) (if good r = true then ((acc ++ fin r).map v, true) else ([], false)) := by
 unfold Short at hl
 intro r
 induction r with
 | nil =>
  intro pre acc e ha
  refine ⟨1, fun k hk => ?_⟩
  obtain ⟨k, rfl⟩ : ∃ m, k = m + 1 := ⟨k - 1, by omega⟩
  show marchlandref03_sums.l3 (k + 1) _ _ _ = _
  rw [marchlandref03_sums.l3, if_neg (by subst e; simp)]
  simp [good, fin]
 | cons x r ih =>
  intro pre acc e ha
  obtain ⟨K1, h1⟩ := ih (pre ++ [x]) (acc ++ fin [x]) (by simp [e]) (by have := fin_len [x]; simp at this ⊢; omega)
  refine ⟨K1 + 1, fun k hk => ?_⟩
  obtain ⟨k, rfl⟩ : ∃ m, k = m + 1 := ⟨k - 1, by omega⟩
  have h1 := h1 k (by omega); dsimp only at h1
  have ll : G.length = pre.length + (r.length + 1) := by rw [e]; simp
  have lm : (G.map v).length = G.length := by simp
  have lc : (acc.map v).length = acc.length := by simp
  have e1 : rd_T40 (G.map v) (pre.length : Int) = v x := by rw [e]; exact rd4m _ _ _ rfl
  have ew : wrap64 ((pre.length : Int) + 1) = ((pre ++ [x]).length : Int) := by rw [w64s (by omega)]; simp
  show marchlandref03_sums.l3 (k + 1) _ _ _ = _
  rw [marchlandref03_sums.l3, if_pos (by omega), if_pos (by omega), e1, within3_eq, Option.bind_some, good_cons, fin_cons, ew]
  by_cases hc : wi x.f2
  ·rw [if_pos (show decide (wi (v x).f2) = true from decide_eq_true hc)]
   simp only [hc, decide_true, Bool.true_and, ← List.append_assoc]
   by_cases hz : x.f2 = 0
   ·rw [if_pos (show (v x).f2 = 0 from hz)]
    have : fin [x] = [] := by simp [fin, hz]
    rw [this, List.append_nil] at h1 ⊢
    exact h1
   ·rw [if_neg (show ¬ (v x).f2 = 0 from hz), if_pos (by omega)]
    have : fin [x] = [x] := by simp [fin, hz]
    rw [this] at h1 ⊢
    have em : acc.map v ++ [(⟨(v x).f0, (v x).f1, (v x).f2⟩ : S40)] = (acc ++ [x]).map v := by simp [v]
    rw [em]; exact h1
  ·rw [if_neg (show ¬ decide (wi (v x).f2) = true from fun h => hc (of_decide_eq_true h))]
   simp [hc]
theorem ins_head {x : S50} {B : List S50} (h : ∀ b ∈ B, kl x b) : ins x B = x :: B := by
 cases B with
 | nil => rfl
 | cons b B =>
  have h := h b (by simp)
  have : ¬ ke b x := by unfold kl ke at *; omega
  simp [ins, this, h]
/-- the bubbling down -/
theorem sums_l2 (X' : List S40) (i : Int) {r : List S40 × Bool} : ∀ (n : Nat) (A : List S50) (x : S50) (B : List S50), A.length = n → n ≤ 8000000000000000000 → Str (A ++ B) → (∀ b ∈ B, kl x b) → (∀ a ∈ A, ¬ ke a x) →
  Ev (fun k => marchlandref03_sums.l0 k X' ((ins x (A ++ B)).map v) (wrap64 (i + 1))) r → Ev (fun k => marchlandref03_sums.l2 k X' ((A ++ x :: B).map v) i (n : Int)) r := by
 intro n
 induction n with
 | zero =>
  intro A x B hA hn hs hB hk h
  obtain rfl : A = [] := List.eq_nil_of_length_eq_zero hA
  refine Ev.step (fun k => ?_) h
  show marchlandref03_sums.l2 (k + 1) _ _ _ _ = _
  rw [marchlandref03_sums.l2, if_neg (by simp)]
  simp only [List.nil_append, ins_head hB]
 | succ n ih =>
  intro A x B hA hn hs hB hk h
  rcases List.eq_nil_or_concat A with rfl | ⟨A', y, rfl⟩
  ·simp at hA
  simp only [List.concat_eq_append] at hA hs hk h ⊢
  have hA' : A'.length = n := by simpa using hA
  have eL : A' ++ [y] ++ x :: B = A' ++ y :: x :: B := by simp
  have lL : ((A' ++ y :: x :: B).map v).length = n + 2 + B.length := by simp; omega
  have ew : wrap64 (((n + 1 : Nat) : Int) - 1) = (n : Int) := w64p (by omega)
  have e1 : rd_T40 ((A' ++ y :: x :: B).map v) ((n + 1 : Nat) : Int) = v x := by
   have := rd4m (A' ++ [y]) x B (i := ((n + 1 : Nat) : Int)) (by simp; omega)
   simpa using this
  have e2 : rd_T40 ((A' ++ y :: x :: B).map v) (n : Int) = v y := rd4m A' y (x :: B) (by omega)
  by_cases hc : kl x y
  ·obtain ⟨K, h1⟩ := ih A' x (y :: B) hA' (by omega) (by simpa using hs) (fun b hb => (List.mem_cons.1 hb).elim (fun e => e ▸ hc) (fun hb => hB b hb)) (fun a ha => hk a (by simp [ha])) (by simpa using h)
   refine ⟨K + 1, fun k hk => ?_⟩
   obtain ⟨k, rfl⟩ : ∃ m, k = m + 1 := ⟨k - 1, by omega⟩
   have h1 := h1 k (by omega); dsimp only at h1
   have s1 : ((A' ++ y :: x :: B).map v).set (n : Int).toNat (v x) = (A' ++ x :: x :: B).map v := set4m A' y (x :: B) x (by simp; omega)
   have s2 : ((A' ++ x :: x :: B).map v).set ((n + 1 : Nat) : Int).toNat (v y) = (A' ++ x :: y :: B).map v := by
    have := set4m (A' ++ [x]) x B y (n := ((n + 1 : Nat) : Int).toNat) (by simp; omega)
    simpa using this
   show marchlandref03_sums.l2 (k + 1) _ _ _ _ = _
   rw [marchlandref03_sums.l2, eL, ew, if_pos (by omega), if_pos (by omega), if_pos (by omega), if_pos (by omega), if_pos (by omega), e1, e2]
   rw [show marchlandref03_before.f (v x).f0 (v x).f1 (v x).f2 (v y).f0 (v y).f1 (v y).f2 = some (decide (kl x y)) from before_eq x y, Option.bind_some, if_pos (decide_eq_true hc)]
   rw [show (⟨(v x).f0, (v x).f1, (v x).f2⟩ : S40) = v x from rfl, show (⟨(v y).f0, (v y).f1, (v y).f2⟩ : S40) = v y from rfl, s1, s2]
   exact h1
  ·have hyx : kl y x := (kl_tri x y).elim (fun h => absurd h hc) (fun h => h.elim (fun h => absurd (ke_comm.1 h) (hk y (by simp))) id)
   have hall : ∀ a ∈ A' ++ [y], kl a x := fun a ha => by
    rcases List.mem_append.1 ha with ha | ha
    ·exact kl_trans ((List.pairwise_append.1 (List.pairwise_append.1 hs).1).2.2 a ha y (by simp)) hyx
    ·simp at ha; subst ha; exact hyx
   rw [ins_app B hall, ins_head hB] at h
   refine Ev.step (fun k => ?_) h
   show marchlandref03_sums.l2 (k + 1) _ _ _ _ = _
   rw [marchlandref03_sums.l2, eL, ew, if_pos (by omega), if_pos (by omega), if_pos (by omega), if_pos (by omega), if_pos (by omega), e1, e2]
   rw [show marchlandref03_before.f (v x).f0 (v x).f1 (v x).f2 (v y).f0 (v y).f1 (v y).f2 = some (decide (kl x y)) from before_eq x y, Option.bind_some, if_neg (fun h => hc (of_decide_eq_true h))]
theorem sums_skip {X' : List S40} {i : Int} {x : S50} (hi : 0 ≤ i) (hi' : i < X'.length) (hx : rd_T40 X' i = v x) {c : Int} {r : List S40 × Bool} (C : List S50) : ∀ (B A : List S50), (∀ y ∈ B, ¬ ke y x) → A.length + B.length ≤ 8000000000000000000 →
  Ev (fun k => marchlandref03_sums.l1 k X' ((A ++ B ++ C).map v) i c ((A.length + B.length : Nat) : Int)) r → Ev (fun k => marchlandref03_sums.l1 k X' ((A ++ B ++ C).map v) i c (A.length : Int)) r := by
 intro B
 induction B with
 | nil => intro A _ _ h; simpa using h
 | cons y B ih =>
  intro A hB hl h
  simp only [List.length_cons] at hl
  have hy := hB y (by simp)
  obtain ⟨K, h1⟩ := ih (A ++ [y]) (fun z hz => hB z (by simp [hz])) (by simp; omega) (by
   have e : (A ++ [y]).length + B.length = A.length + (y :: B).length := by simp; omega
   rw [e]; simpa using h)
  refine ⟨K + 1, fun k hk => ?_⟩
  obtain ⟨k, rfl⟩ : ∃ m, k = m + 1 := ⟨k - 1, by omega⟩
  have h1 := h1 k (by omega); dsimp only at h1
  have eL : A ++ [y] ++ B ++ C = A ++ y :: B ++ C := by simp
  have lL : ((A ++ y :: B ++ C).map v).length = A.length + (B.length + 1) + C.length := by simp; omega
  have e1 : rd_T40 ((A ++ y :: B ++ C).map v) (A.length : Int) = v y := by
   have := rd4m A y (B ++ C) (i := (A.length : Int)) rfl
   simpa using this
  have ew : wrap64 ((A.length : Int) + 1) = ((A ++ [y]).length : Int) := by rw [w64s (by omega)]; simp
  rw [eL] at h1
  show marchlandref03_sums.l1 (k + 1) _ _ _ _ _ = _
  rw [marchlandref03_sums.l1, if_pos (by omega), if_pos (by omega), if_pos hi, if_pos hi', e1, hx, ew, h1]
  by_cases q0 : (v y).f0 = (v x).f0
  ·have q1 : ¬ (v y).f1 = (v x).f1 := fun q1 => hy ⟨q0, q1⟩
   rw [if_pos q0, if_neg q1]
  ·rw [if_neg q0]
theorem mem_split_ke {x : S50} : ∀ {G : List S50}, (∃ y ∈ G, ke y x) → Str G → ∃ A y B, G = A ++ y :: B ∧ ke y x ∧ (∀ a ∈ A, ¬ ke a x) ∧ (∀ b ∈ B, ¬ ke b x) ∧ (∀ a ∈ A, kl a x) := by
 intro G ⟨y, hy, k⟩ hs
 obtain ⟨A, B, rfl⟩ := List.append_of_mem hy
 obtain ⟨h1, h2, h3⟩ := List.pairwise_append.1 hs
 refine ⟨A, y, B, rfl, k, fun a ha => ?_, fun b hb => ?_, fun a ha => ?_⟩
 ·have := h3 a ha y (by simp); unfold kl ke at *; omega
 ·have := (List.pairwise_cons.1 h2).1 b hb; unfold kl ke at *; omega
 ·have := h3 a ha y (by simp); unfold kl ke at *; omega
/-- one element summed in -/
theorem sums_step {X' : List S40} {i : Int} {x : S50} (hi : 0 ≤ i) (hi' : i < X'.length) (hx : rd_T40 X' i = v x) {r : List S40 × Bool} {G : List S50} (hs : Str G) (hl : Short G.length)
  (h : Ev (fun k => marchlandref03_sums.l0 k X' ((ins x G).map v) (wrap64 (i + 1))) r) : Ev (fun k => marchlandref03_sums.l1 k X' (G.map v) i (-1) 0) r := by
 unfold Short at hl
 by_cases hk : ∃ y ∈ G, ke y x
 ·obtain ⟨A, y, B, rfl, ky, hA, hB, hAl⟩ := mem_split_ke hk hs
  have hl' : A.length + (B.length + 1) ≤ 5864062014634 := by simpa using hl
  have ei : ins x (A ++ y :: B) = A ++ plus y x :: B := by rw [ins_app _ hAl]; simp [ins, ky]
  rw [ei] at h
  have lL : ((A ++ y :: B).map v).length = A.length + (B.length + 1) := by simp
  have e1 : rd_T40 ((A ++ y :: B).map v) (A.length : Int) = v y := rd4m A y B rfl
  have ew : wrap64 ((A.length : Int) + 1) = ((A ++ [y]).length : Int) := by rw [w64s (by omega)]; simp
  have h1 := sums_skip hi hi' hx (c := -1) (r := r) (y :: B) A [] hA (by simp; omega)
  simp only [List.nil_append, List.length_nil, Nat.zero_add] at h1
  refine h1 ?_
  have h2 := sums_skip hi hi' hx (c := (A.length : Int)) (r := r) [] B (A ++ [y]) hB (by simp; omega)
  simp only [List.append_nil, List.append_assoc, List.singleton_append] at h2
  suffices h3 : Ev (fun k => marchlandref03_sums.l1 k X' ((A ++ y :: B).map v) i (A.length : Int) (((A ++ [y]).length + B.length : Nat) : Int)) r by
   obtain ⟨K, h2⟩ := h2 h3
   refine ⟨K + 1, fun k hk => ?_⟩
   obtain ⟨k, rfl⟩ : ∃ m, k = m + 1 := ⟨k - 1, by omega⟩
   have h2 := h2 k (by omega); dsimp only at h2
   show marchlandref03_sums.l1 (k + 1) _ _ _ _ _ = _
   rw [marchlandref03_sums.l1, if_pos (by omega), if_pos (by omega), if_pos hi, if_pos hi', e1, hx, ew, if_pos (show (v y).f0 = (v x).f0 from ky.1), if_pos (show (v y).f1 = (v x).f1 from ky.2)]
   exact h2
  have s1 : ((A ++ y :: B).map v).set (A.length : Int).toNat ⟨(v y).f0, (v y).f1, wrap64 ((v y).f2 + (v x).f2)⟩ = (A ++ plus y x :: B).map v := set4m A y B (plus y x) (by simp)
  refine Ev.step (fun k => ?_) h
  show marchlandref03_sums.l1 (k + 1) _ _ _ _ _ = _
  rw [marchlandref03_sums.l1, if_neg (by simp; omega), if_pos (by omega), if_pos (by omega), if_pos (by omega), if_pos hi, if_pos hi', e1, hx, s1]
 ·have hk' : ∀ y ∈ G, ¬ ke y x := fun y hy h => hk ⟨y, hy, h⟩
  have h1 := sums_skip hi hi' hx (c := -1) (r := r) [] G [] hk' (by simp; omega)
  simp only [List.nil_append, List.length_nil, Nat.zero_add, List.append_nil] at h1
  refine h1 ?_
  have h2 := sums_l2 X' i (r := r) G.length G x [] rfl (by omega) (by simpa using hs) (fun _ h => by cases h) hk' (by simpa using h)
  have e2 : (G.map v) ++ [(⟨(v x).f0, (v x).f1, (v x).f2⟩ : S40)] = (G ++ [x]).map v := by simp [v]
  refine Ev.step (fun k => ?_) h2
  show marchlandref03_sums.l1 (k + 1) _ _ _ _ _ = _
  have ew : wrap64 ((((G ++ [x]).map v).length : Int) - 1) = (G.length : Int) := by rw [show ((G ++ [x]).map v).length = G.length + 1 by simp]; exact w64p (by omega)
  rw [marchlandref03_sums.l1, if_neg (by simp), if_neg (by omega), if_pos hi, if_pos hi', if_pos (by simp; omega), hx, e2, Option.bind_some, ew]
def sumr (l : List S50) : List S50 × Bool := if good (tot l) = true then (fin (tot l), true) else ([], false)
theorem sums_l0 (X : List S50) (hl : Short X.length) : ∀ (r pre G : List S50), X = pre ++ r → Str G → G.length ≤ pre.length →
  Ev (fun k => marchlandref03_sums.l0 k (X.map v) (G.map v) (pre.length : Int)) (let T := r.foldl (fun a x => ins x a) G; if good T = true then ((fin T).map v, true) else ([], false)) := by
 unfold Short at hl
 intro r
 induction r with
 | nil =>
  intro pre G e hs hg
  have ll : X.length = pre.length := by rw [e]; simp
  refine Ev.step (f := fun k => marchlandref03_sums.l3 k (G.map v) [] 0) (fun k => ?_) (sums_l3 G (by unfold Short; omega) G [] [] rfl (by simp))
  show marchlandref03_sums.l0 (k + 1) _ _ _ = _
  rw [marchlandref03_sums.l0, if_neg (by simp; omega)]
 | cons x r ih =>
  intro pre G e hs hg
  have ll : X.length = pre.length + (r.length + 1) := by rw [e]; simp
  have lm : (X.map v).length = X.length := by simp
  have h := ih (pre ++ [x]) (ins x G) (by simp [e]) (ins_str hs) (by have := ins_len (x := x) (l := G); simp; omega)
  have ew : wrap64 ((pre.length : Int) + 1) = ((pre ++ [x]).length : Int) := by rw [w64s (by omega)]; simp
  rw [← ew] at h
  refine Ev.step (fun k => ?_) (sums_step (X' := X.map v) (i := (pre.length : Int)) (x := x) (by omega) (by omega) (by rw [e]; exact rd4m _ _ _ rfl) hs (by unfold Short; omega) h)
  show marchlandref03_sums.l0 (k + 1) _ _ _ = _
  rw [marchlandref03_sums.l0, if_pos (by omega)]
theorem sums_ev (X : List S50) (hl : Short X.length) : Ev (fun k => marchlandref03_sums.f k (X.map v)) (if good (tot X) = true then ((fin (tot X)).map v, true) else ([], false)) :=
 sums_l0 X hl X [] [] rfl List.Pairwise.nil (by simp)
/-! ### the reference's Pack and Right -/
theorem wrongv_val (x : S50) : wrongv x = if x.f0 < 0 ∨ x.f0 ≥ 64 then 2 else if x.f1 = 18446744073709551615 then 1 else if wi x.f2 then 0 else 10 := rfl
theorem rpack_l0 (X : List S50) (hl : Short X.length) : ∀ (r pre : List S50), X = pre ++ r →
  Ev (fun k => marchlandref03_Pack.l0 k (X.map v) (pre.length : Int)) (if firstw r = 0 then ((sumv X).1.map v, (sumv X).2) else ([], firstw r)) := by
 unfold Short at hl
 intro r
 induction r with
 | nil =>
  intro pre e
  obtain ⟨K, h⟩ := sums_ev X hl
  refine ⟨K + 1, fun k hk => ?_⟩
  obtain ⟨k, rfl⟩ : ∃ m, k = m + 1 := ⟨k - 1, by omega⟩
  have h := h k (by omega); dsimp only at h
  show marchlandref03_Pack.l0 (k + 1) _ _ = _
  rw [marchlandref03_Pack.l0, if_neg (by subst e; simp), h]
  simp only [firstw, if_true, sumv, Option.bind_some]
  split <;> simp
 | cons x r ih =>
  intro pre e
  have ll : X.length = pre.length + (r.length + 1) := by rw [e]; simp
  have lm : (X.map v).length = X.length := by simp
  obtain ⟨K, h⟩ := ih (pre ++ [x]) (by simp [e])
  have ew : wrap64 ((pre.length : Int) + 1) = ((pre ++ [x]).length : Int) := by rw [w64s (by omega)]; simp
  have e1 : rd_T40 (X.map v) (pre.length : Int) = v x := by rw [e]; exact rd4m _ _ _ rfl
  refine ⟨K + 2, fun k hk => ?_⟩
  obtain ⟨k, rfl⟩ : ∃ m, k = m + 2 := ⟨k - 2, by omega⟩
  have h := h k (by omega); dsimp only at h
  have ej : marchlandref03_Pack.l0 (k + 2) (X.map v) (pre.length : Int) = marchlandref03_Pack.j1 (k + 1) (X.map v) (pre.length : Int) (decide (x.f0 < 0 ∨ x.f0 ≥ 64)) := by
   rw [marchlandref03_Pack.l0, if_pos (by omega), if_pos (by omega), e1]
   by_cases hp : x.f0 < 0
   ·rw [if_pos (show (v x).f0 < 0 from hp)]; simp [hp]
   ·rw [if_neg (show ¬ (v x).f0 < 0 from hp)]
    congr 1
    have : ((v x).f0 > 63) = (x.f0 > 63) := rfl
    simp only [this]; apply decide_eq_decide.2; omega
  show marchlandref03_Pack.l0 (k + 2) _ _ = _
  rw [ej, marchlandref03_Pack.j1]
  simp only [firstw, wrongv_val]
  by_cases hp : x.f0 < 0 ∨ x.f0 ≥ 64
  ·rw [if_pos (decide_eq_true hp)]; simp [hp]
  ·rw [if_neg (fun h => hp (of_decide_eq_true h)), if_pos (by omega), if_pos (by omega), e1]
   simp only [if_neg hp]
   by_cases ht : x.f1 = 18446744073709551615
   ·rw [if_pos (show (v x).f1 = 18446744073709551615 from ht)]; simp [ht]
   ·rw [if_neg (show ¬ (v x).f1 = 18446744073709551615 from ht), show marchlandref03_within.f (v x).f2 = some (decide (wi x.f2)) from within3_eq _, Option.bind_some]
    simp only [if_neg ht]
    by_cases hw : wi x.f2
    ·rw [if_pos (decide_eq_true hw), ew, h]; simp [hw]
    ·rw [if_neg (fun h => hw (of_decide_eq_true h))]; simp [hw]
theorem rpack_ev (X : List S50) : Ev (fun k => marchlandref03_Pack.f k (X.map v)) ((packv X).1.map v, (packv X).2) := by
 unfold packv
 by_cases h : X.length > 16
 ·rw [if_pos h]
  exact ⟨0, fun k _ => by show marchlandref03_Pack.f k _ = _; rw [marchlandref03_Pack.f, if_pos (by simp; omega)]; rfl⟩
 ·rw [if_neg h]
  have := rpack_l0 X (by unfold Short; omega) X [] rfl
  obtain ⟨K, h1⟩ := this
  refine ⟨K, fun k hk => ?_⟩
  have h1 := h1 k hk; dsimp only at h1
  show marchlandref03_Pack.f k _ = _
  rw [marchlandref03_Pack.f, if_neg (by simp; omega)]
  refine Eq.trans h1 ?_
  by_cases h2 : firstw X = 0
  ·rw [if_pos h2, if_pos h2]
  ·rw [if_neg h2, if_neg h2]; rfl
theorem rright_l0 (X : List S50) (hl : X.length ≤ 8000000000000000000) : ∀ (r pre : List S50), X = pre ++ r →
  Ev (fun k => marchlandref03_Right.l0 k (X.map v) (pre.length : Int)) (rightL pre.getLast? r) := by
 intro r
 induction r with
 | nil =>
  intro pre e
  refine ⟨1, fun k hk => ?_⟩
  obtain ⟨k, rfl⟩ : ∃ m, k = m + 1 := ⟨k - 1, by omega⟩
  show marchlandref03_Right.l0 (k + 1) _ _ = _
  rw [marchlandref03_Right.l0, if_neg (by subst e; simp)]
  rfl
 | cons x r ih =>
  intro pre e
  obtain ⟨K1, h1⟩ := ih (pre ++ [x]) (by simp [e])
  have e1 : rd_T40 (X.map v) (pre.length : Int) = v x := by rw [e]; exact rd4m _ _ _ rfl
  have ll : X.length = pre.length + (r.length + 1) := by rw [e]; simp
  have lm : (X.map v).length = X.length := by simp
  have ew : wrap64 ((pre.length : Int) + 1) = ((pre ++ [x]).length : Int) := by rw [w64s (by omega)]; simp
  refine ⟨K1 + 1, fun k hk => ?_⟩
  obtain ⟨k, rfl⟩ : ∃ m, k = m + 1 := ⟨k - 1, by omega⟩
  have h1 := h1 k (by omega); dsimp only at h1
  show marchlandref03_Right.l0 (k + 1) _ _ = _
  rw [marchlandref03_Right.l0, if_pos (by omega), if_pos (by omega), e1, show marchlandref03_within.f (v x).f2 = some (decide (wi x.f2)) from within3_eq _, Option.bind_some, ew, h1]
  simp only [show (v x).f0 = x.f0 from rfl, show (v x).f1 = x.f1 from rfl, show (v x).f2 = x.f2 from rfl]
  simp only [rightL, wrongv_val]
  by_cases p0 : x.f0 < 0
  ·rw [if_pos p0]; simp [p0]
  rw [if_neg p0]
  by_cases p1 : x.f0 > 63
  ·have : x.f0 < 0 ∨ x.f0 ≥ 64 := by omega
   rw [if_pos p1]; simp [this]
  rw [if_neg p1]
  have p2 : ¬ (x.f0 < 0 ∨ x.f0 ≥ 64) := by omega
  simp only [if_neg p2]
  by_cases p3 : x.f1 = 18446744073709551615
  ·rw [if_pos p3]; simp [p3]
  rw [if_neg p3]
  simp only [if_neg p3]
  by_cases p4 : x.f2 = 0
  ·rw [if_pos p4]; simp [p4]
  rw [if_neg p4]
  by_cases p5 : wi x.f2
  ·rw [if_pos (decide_eq_true p5)]
   simp only [if_pos p5, decide_true, Bool.true_and, p4, not_false_eq_true, ne_eq]
   rcases List.eq_nil_or_concat pre with rfl | ⟨pre', y, rfl⟩
   ·rw [if_neg (by simp)]; simp
   ·simp only [List.concat_eq_append] at *
    have lp : (pre' ++ [y]).length = pre'.length + 1 := by simp
    have ep : wrap64 (((pre' ++ [y]).length : Int) - 1) = (pre'.length : Int) := by rw [lp]; exact w64p (by omega)
    have e2 : rd_T40 (X.map v) (pre'.length : Int) = v y := by rw [e, List.append_assoc]; exact rd4m _ _ _ rfl
    rw [if_pos (by omega), ep, if_pos (by omega), if_pos (by omega), e2, show marchlandref03_before.f (v y).f0 (v y).f1 (v y).f2 x.f0 x.f1 x.f2 = some (decide (kl y x)) from before_eq y x, Option.bind_some]
    simp only [List.getLast?_append, List.getLast?_singleton, Option.some_or]
    by_cases hk : kl y x
    ·rw [if_pos (decide_eq_true hk)]; simp [hk]
    ·rw [if_neg (fun h => hk (of_decide_eq_true h))]; simp [hk]
  ·rw [if_neg (fun h => p5 (of_decide_eq_true h))]; simp [p5]
theorem rright_ev (X : List S50) (hl : X.length ≤ 8000000000000000000) : Ev (fun k => marchlandref03_Right.f k (X.map v)) (rightv X) := rright_l0 X hl X [] rfl
end Go.Proofs.Ytgeldmhgbnamcaa.Pure
end
section
/- Plain laws of batches, fifth part: Of, Same, Fix. -/
namespace Go.Proofs.Ytgeldmhgbnamcaa.Pure
open Go.RowKit Go.Proofs.Ytgeldmhgbnamcaa.P Go.Proofs.YtgeldmhgbnamcaaW.PrintWords Go.Proofs.YtgeldmhgbnamcaaW.PrintLast
set_option linter.unusedVariables false
set_option linter.unusedSimpArgs false
theorem same_l0 (A B : List S50) (hl : A.length ≤ 8000000000000000000) (he : A.length = B.length) : ∀ (a b pre : List S50), A = pre ++ a → B = pre ++ b → a.length = b.length →
  Ev (fun k => batch_Change_56.l0 k A B (A.length : Int) (pre.length : Int)) (decide (A = B)) := by
 intro a
 induction a with
 | nil =>
  intro b pre e1 e2 e3
  obtain rfl : b = [] := List.eq_nil_of_length_eq_zero e3.symm
  refine ⟨1, fun k hk => ?_⟩
  obtain ⟨k, rfl⟩ : ∃ m, k = m + 1 := ⟨k - 1, by omega⟩
  show batch_Change_56.l0 (k + 1) _ _ _ _ = _
  rw [batch_Change_56.l0, if_neg (by subst e1; simp)]
  simp [e1, e2]
 | cons x a ih =>
  intro b pre e1 e2 e3
  cases b with
  | nil => simp at e3
  | cons y b =>
   have ll : A.length = pre.length + (a.length + 1) := by rw [e1]; simp
   have r1 : rd_T50 A (pre.length : Int) = x := by rw [e1]; exact rd5 _ _ _ rfl
   have r2 : rd_T50 B (pre.length : Int) = y := by rw [e2]; exact rd5 _ _ _ rfl
   by_cases hxy : x = y
   ·subst hxy
    obtain ⟨K1, h1⟩ := ih b (pre ++ [x]) (by simp [e1]) (by simp [e2]) (by simpa using e3)
    refine ⟨K1 + 1, fun k hk => ?_⟩
    obtain ⟨k, rfl⟩ : ∃ m, k = m + 1 := ⟨k - 1, by omega⟩
    have h1 := h1 k (by omega); dsimp only at h1
    have ew : wrap64 ((pre.length : Int) + 1) = ((pre ++ [x]).length : Int) := by rw [w64s (by omega)]; simp
    show batch_Change_56.l0 (k + 1) _ _ _ _ = _
    rw [batch_Change_56.l0, if_pos (by omega), if_pos (by omega), if_pos (by omega), if_pos (by omega), r1, r2, if_neg (by simp), ew]
    exact h1
   ·refine ⟨1, fun k hk => ?_⟩
    obtain ⟨k, rfl⟩ : ∃ m, k = m + 1 := ⟨k - 1, by omega⟩
    have hne : A ≠ B := by rw [e1, e2]; simp [hxy]
    show batch_Change_56.l0 (k + 1) _ _ _ _ = _
    rw [batch_Change_56.l0, if_pos (by omega), if_pos (by omega), if_pos (by omega), if_pos (by omega), r1, r2, if_pos]
    ·simp [hne]
    ·obtain ⟨a0, a1, a2⟩ := x
     obtain ⟨b0, b1, b2⟩ := y
     simp only [S50.mk.injEq, not_and] at hxy ⊢
     by_cases q0 : a0 = b0 <;> by_cases q1 : a1 = b1 <;> simp_all
theorem same_ev (A B : List S50) (hl : A.length ≤ 8000000000000000000) : Ev (fun k => batch_Same.f k A B) (decide (A = B)) := by
 have h : Ev (fun k => batch_Change_56.f k A B) (decide (A = B)) := by
  by_cases he : A.length = B.length
  ·refine Ev.congr (fun k => ?_) (same_l0 A B hl he A B [] rfl rfl he)
   show batch_Change_56.f k _ _ = _
   rw [batch_Change_56.f, if_pos (by omega)]; rfl
  ·refine ⟨0, fun k hk => ?_⟩
   show batch_Change_56.f k _ _ = _
   rw [batch_Change_56.f, if_neg (by omega)]
   have : A ≠ B := fun h => he (by rw [h])
   simp [this]
 exact Ev.bind h (Ev.now _)
/-- what a batch holds at a key -/
def ofv (X : List S50) (q : S50) : Int := match X.find? (fun y => decide (ke y q)) with
 | some y => y.f2
 | none => 0
theorem mid {i j : Nat} (h : i < j) (hj : j ≤ 4000000000000000000) : wrap64 ((IntKind.u64.wrap (wrap64 ((i : Int) + (j : Int)))) / 2) = ((i + (j - i) / 2 : Nat) : Int) := by
 have e : wrap64 ((i : Int) + (j : Int)) = ((i + j : Nat) : Int) := by unfold wrap64; omega
 have e2 : IntKind.u64.wrap ((i + j : Nat) : Int) = ((i + j : Nat) : Int) := by simp [IntKind.wrap, IntKind.bits, IntKind.signed]; omega
 rw [e, e2]; unfold wrap64; omega
theorem find_l0 (X : List S50) (q : S50) (hs : Str X) (hl : X.length ≤ 4000000000000000000) : ∀ (n : Nat) (A M C : List S50), M.length ≤ n → X = A ++ M ++ C → (∀ a ∈ A, kl a q) → (∀ c ∈ C, ¬ kl c q) →
  ∃ A' C' : List S50, X = A' ++ C' ∧ (∀ a ∈ A', kl a q) ∧ (∀ c ∈ C', ¬ kl c q) ∧ Ev (fun k => batch_Change_55.l0 k X (X.length : Int) (A.length : Int) ((A.length + M.length : Nat) : Int) q.f0 q.f1 q.f2) ((A'.length : Int), match C' with | [] => false | c :: _ => decide (ke c q)) := by
 intro n
 induction n with
 | zero =>
  intro A M C hM e hA hC
  obtain rfl : M = [] := List.eq_nil_of_length_eq_zero (by omega)
  rw [List.append_nil] at e
  refine ⟨A, C, e, hA, hC, ?_⟩
  cases C with
  | nil =>
   refine ⟨1, fun k hk => ?_⟩
   obtain ⟨k, rfl⟩ : ∃ m, k = m + 1 := ⟨k - 1, by omega⟩
   show batch_Change_55.l0 (k + 1) _ _ _ _ _ _ _ = _
   rw [batch_Change_55.l0, if_neg (by simp), if_neg (by rw [e]; simp)]
  | cons c C =>
   obtain ⟨K, o⟩ := order_at c q
   refine ⟨K + 1, fun k hk => ?_⟩
   obtain ⟨k, rfl⟩ : ∃ m, k = m + 1 := ⟨k - 1, by omega⟩
   have o := o k (by omega); dsimp only at o
   have ll : X.length = A.length + (C.length + 1) := by rw [e]; simp
   have e1 : rd_T50 X (A.length : Int) = c := by rw [e]; exact rd5 _ _ _ rfl
   show batch_Change_55.l0 (k + 1) _ _ _ _ _ _ _ = _
   rw [batch_Change_55.l0, if_neg (by simp), if_pos (by omega), if_pos (by omega), if_pos (by omega), e1, o, Option.bind_some]
   by_cases hk : ke c q
   ·have : ordv c q = 0 := ordv_zero.2 hk
    simp [this, hk]
   ·have : ¬ ordv c q = 0 := fun h => hk (ordv_zero.1 h)
    simp [this, hk]
 | succ n ih =>
  intro A M C hM e hA hC
  by_cases hm : M.length ≤ n
  ·exact ih A M C hm e hA hC
  have hp : M.length / 2 < M.length := by omega
  have ed : M = M.take (M.length / 2) ++ M[M.length / 2] :: M.drop (M.length / 2 + 1) := by rw [List.getElem_cons_drop]; simp
  have l1 : (M.take (M.length / 2)).length = M.length / 2 := by simp; omega
  generalize M.take (M.length / 2) = M1 at *
  generalize M[M.length / 2] = m at *
  generalize M.drop (M.length / 2 + 1) = M2 at *
  have lM : M.length = M1.length + (M2.length + 1) := by rw [ed]; simp
  have ll : X.length = A.length + M.length + C.length := by rw [e]; simp only [List.length_append]
  have hmid := mid (i := A.length) (j := A.length + M.length) (by omega) (by omega)
  have ehm : A.length + (A.length + M.length - A.length) / 2 = A.length + M1.length := by omega
  rw [ehm] at hmid
  have eX : X = (A ++ M1) ++ m :: (M2 ++ C) := by rw [e, ed]; simp
  have e1 : rd_T50 X ((A.length + M1.length : Nat) : Int) = m := by rw [eX]; exact rd5 _ _ _ (by simp)
  obtain ⟨K, o⟩ := order_at m q
  have hs' : Str ((A ++ M1) ++ m :: (M2 ++ C)) := eX ▸ hs
  obtain ⟨p1, p2, p3⟩ := List.pairwise_append.1 hs'
  by_cases hk : kl m q
  ·obtain ⟨A', C', x1, x2, x3, K1, h1⟩ := ih (A ++ M1 ++ [m]) M2 C (by omega) (by rw [eX]; simp)
    (fun a ha => by
     rcases List.mem_append.1 ha with h | h
     ·exact kl_trans (p3 a h m (by simp)) hk
     ·simp at h; subst h; exact hk) hC
   refine ⟨A', C', x1, x2, x3, K + K1 + 1, fun k hk' => ?_⟩
   obtain ⟨k, rfl⟩ : ∃ m, k = m + 1 := ⟨k - 1, by omega⟩
   have o := o k (by omega); dsimp only at o
   have h1 := h1 k (by omega); dsimp only at h1
   have ea : wrap64 (((A.length + M1.length : Nat) : Int) + 1) = ((A ++ M1 ++ [m]).length : Int) := by rw [w64s (by omega)]; simp only [List.length_append, List.length_singleton]
   have eb : (((A ++ M1 ++ [m]).length + M2.length : Nat) : Int) = ((A.length + M.length : Nat) : Int) := by simp; omega
   show batch_Change_55.l0 (k + 1) _ _ _ _ _ _ _ = _
   rw [batch_Change_55.l0, if_pos (by omega), hmid, if_pos (by omega), if_pos (by omega), e1, o, Option.bind_some, if_pos (ordv_neg.2 hk), ea, ← eb]
   exact h1
  ·obtain ⟨A', C', x1, x2, x3, K1, h1⟩ := ih A M1 (m :: (M2 ++ C)) (by omega) (by rw [eX]) hA
    (fun c hc => by
     rcases List.mem_cons.1 hc with rfl | h
     ·exact hk
     ·have := (List.pairwise_cons.1 p2).1 c h; intro hk2; exact hk (kl_trans this hk2))
   refine ⟨A', C', x1, x2, x3, K + K1 + 1, fun k hk' => ?_⟩
   obtain ⟨k, rfl⟩ : ∃ m, k = m + 1 := ⟨k - 1, by omega⟩
   have o := o k (by omega); dsimp only at o
   have h1 := h1 k (by omega); dsimp only at h1
   show batch_Change_55.l0 (k + 1) _ _ _ _ _ _ _ = _
   rw [batch_Change_55.l0, if_pos (by omega), hmid, if_pos (by omega), if_pos (by omega), e1, o, Option.bind_some, if_neg (fun h => hk (ordv_neg.1 h))]
   exact h1
theorem of_ev (X : List S50) (hs : Str X) (hl : X.length ≤ 4000000000000000000) (a b : Int) : Ev (fun k => batch_Of.f k X a b) (ofv X ⟨a, b, 0⟩) := by
 obtain ⟨A, C, e, hA, hC, K, h⟩ := find_l0 X ⟨a, b, 0⟩ hs hl X.length [] X [] (Nat.le_refl _) (by simp) (fun _ h => by cases h) (fun _ h => by cases h)
 have nA : ∀ y ∈ A, ¬ ke y ⟨a, b, 0⟩ := fun y hy h => by have := hA y hy; unfold kl ke at *; omega
 have fA : A.find? (fun y => decide (ke y ⟨a, b, 0⟩)) = none := List.find?_eq_none.2 (fun y hy => by simpa using nA y hy)
 refine ⟨K, fun k hk => ?_⟩
 have h := h k hk
 simp only [List.length_nil, Nat.zero_add] at h
 have h : batch_Change_55.l0 k X (X.length : Int) 0 (X.length : Int) a b 0 = _ := h
 show batch_Of.f k X a b = _
 rw [batch_Of.f, batch_Change_55.f, h, Option.bind_some]
 cases C with
 | nil =>
  have : ofv X ⟨a, b, 0⟩ = 0 := by unfold ofv; rw [e, List.find?_append, fA]; rfl
  simp [this]
 | cons c C =>
  have ll : X.length = A.length + (C.length + 1) := by rw [e]; simp
  have e1 : rd_T50 X (A.length : Int) = c := by rw [e]; exact rd5 _ _ _ rfl
  by_cases hk : ke c ⟨a, b, 0⟩
  ·have : ofv X ⟨a, b, 0⟩ = c.f2 := by unfold ofv; rw [e, List.find?_append, fA]; simp [hk]
   dsimp only
   rw [if_pos (decide_eq_true hk), if_pos (by omega), if_pos (by omega), e1, this]
  ·have : ofv X ⟨a, b, 0⟩ = 0 := by
    have fC : (c :: C).find? (fun y => decide (ke y ⟨a, b, 0⟩)) = none := List.find?_eq_none.2 (fun y hy => by
     have hs' : Str (A ++ c :: C) := e ▸ hs
     have p2 := (List.pairwise_append.1 hs').2.1
     rcases List.mem_cons.1 hy with rfl | hy
     ·simpa using hk
     ·have a1 := (List.pairwise_cons.1 p2).1 y hy
      have a2 := hC c (by simp)
      have : ¬ ke y ⟨a, b, 0⟩ := by unfold kl ke at *; omega
      simpa using this)
    unfold ofv; rw [e, List.find?_append, fA, fC]; rfl
   dsimp only
   rw [if_neg (fun h => hk (of_decide_eq_true h)), this]
theorem ofv_mem {X : List S50} {q : S50} (h : ofv X q ≠ 0) : ∃ y ∈ X, ke y q ∧ y.f2 = ofv X q := by
 unfold ofv at *
 split at h
 ·rename_i y hy
  exact ⟨y, List.mem_of_find?_eq_some hy, by simpa using List.find?_some hy, by simp⟩
 ·simp at h
theorem ofv_of_mem {X : List S50} (hs : Str X) {y : S50} (hy : y ∈ X) (b : Int) : ofv X ⟨y.f0, y.f1, b⟩ = y.f2 := by
 unfold ofv
 cases h : X.find? (fun z => decide (ke z ⟨y.f0, y.f1, b⟩)) with
 | none => have := List.find?_eq_none.1 h y hy; simp [ke] at this
 | some z =>
  have hz := List.mem_of_find?_eq_some h
  have kz : ke z ⟨y.f0, y.f1, b⟩ := by simpa using List.find?_some h
  have : z = y := by
   obtain ⟨A, B, rfl⟩ := List.append_of_mem hy
   obtain ⟨_, p2, p3⟩ := List.pairwise_append.1 hs
   rcases List.mem_append.1 hz with hz | hz
   ·have := p3 z hz y (by simp); unfold kl ke at *; simp at kz; omega
   ·rcases List.mem_cons.1 hz with rfl | hz
    ·rfl
    ·have := (List.pairwise_cons.1 p2).1 z hz; unfold kl ke at *; simp at kz; omega
  simp [this]
theorem str_eq : ∀ {A B : List S50}, Str A → Str B → (∀ x ∈ A, x ∈ B) → (∀ x ∈ B, x ∈ A) → A = B := by
 intro A
 induction A with
 | nil => intro B _ _ _ h; cases B with
  | nil => rfl
  | cons b B => exact absurd (h b (by simp)) (by simp)
 | cons a A ih =>
  intro B hA hB h1 h2
  cases B with
  | nil => exact absurd (h1 a (by simp)) (by simp)
  | cons b B =>
   obtain ⟨a1, a2⟩ := List.pairwise_cons.1 hA
   obtain ⟨b1, b2⟩ := List.pairwise_cons.1 hB
   have e : a = b := by
    rcases List.mem_cons.1 (h1 a (by simp)) with e | e
    ·exact e
    ·rcases List.mem_cons.1 (h2 b (by simp)) with f | f
     ·exact f.symm
     ·exact absurd (kl_trans (b1 a e) (a1 b f)) kl_irrefl
   subst e
   rw [ih a2 b2 (fun x hx => ?_) (fun x hx => ?_)]
   ·rcases List.mem_cons.1 (h1 x (by simp [hx])) with e | e
    ·subst e; exact absurd (a1 x hx) kl_irrefl
    ·exact e
   ·rcases List.mem_cons.1 (h2 x (by simp [hx])) with e | e
    ·subst e; exact absurd (b1 x hx) kl_irrefl
    ·exact e
/-! ### Fix -/
def fix1 (x : S40) : S50 := ⟨wrap64 (Int.tmod (IntKind.u64.wrap x.f0) 64), Int.tmod x.f1 18446744073709551615, Int.tmod x.f2 1000⟩
def sumk (l : List S50) : List S50 := if good (tot l) = true then fin (tot l) else []
theorem fix_l0 (X : List S40) : ∀ (r pre : List S40), X = pre ++ r → pre.length ≤ 12 → Ev (fun k => marchlandref03_Fix.l0 k X ((pre.map fix1).map v) (pre.length : Int)) ((sumk ((X.take 12).map fix1)).map v) := by
 have fin_ : ∀ pre : List S40, pre.length ≤ 12 → Ev (fun k => (marchlandref03_sums.f k ((pre.map fix1).map v)).bind fun b => some b.1) ((sumk (pre.map fix1)).map v) := by
  intro pre h
  have := Ev.bind (sums_ev (pre.map fix1) (by unfold Short; simp; omega)) (Ev.now _) (f := fun _ b => some b.1)
  unfold sumk
  split
  ·rename_i g; rw [if_pos g] at this; exact this
  ·rename_i g; rw [if_neg g] at this; exact this
 intro r
 induction r with
 | nil =>
  intro pre e hp
  obtain ⟨K, h⟩ := fin_ pre hp
  refine ⟨K + 1, fun k hk => ?_⟩
  obtain ⟨k, rfl⟩ : ∃ m, k = m + 1 := ⟨k - 1, by omega⟩
  have h := h k (by omega); dsimp only at h
  have e' : X.take 12 = pre := by rw [e, List.append_nil]; exact List.take_of_length_le hp
  show marchlandref03_Fix.l0 (k + 1) _ _ _ = _
  rw [marchlandref03_Fix.l0, if_neg (by subst e; simp), e']
  exact h
 | cons x r ih =>
  intro pre e hp
  have ll : X.length = pre.length + (r.length + 1) := by rw [e]; simp
  by_cases h12 : pre.length = 12
  ·obtain ⟨K, h⟩ := fin_ pre hp
   refine ⟨K + 1, fun k hk => ?_⟩
   obtain ⟨k, rfl⟩ : ∃ m, k = m + 1 := ⟨k - 1, by omega⟩
   have h := h k (by omega); dsimp only at h
   have e' : X.take 12 = pre := by rw [e, ← h12]; simp
   show marchlandref03_Fix.l0 (k + 1) _ _ _ = _
   rw [marchlandref03_Fix.l0, if_pos (by omega), if_neg (by omega), e']
   exact h
  ·obtain ⟨K, h⟩ := ih (pre ++ [x]) (by simp [e]) (by simp; omega)
   refine ⟨K + 1, fun k hk => ?_⟩
   obtain ⟨k, rfl⟩ : ∃ m, k = m + 1 := ⟨k - 1, by omega⟩
   have h := h k (by omega); dsimp only at h
   have e1 : rd_T40 X (pre.length : Int) = x := by rw [e]; exact rd4 _ _ _ rfl
   have ew : wrap64 ((pre.length : Int) + 1) = ((pre ++ [x]).length : Int) := by rw [w64s (by omega)]; simp
   have em : (pre.map fix1).map v ++ [(⟨wrap64 (Int.tmod (IntKind.u64.wrap x.f0) 64), Int.tmod x.f1 18446744073709551615, Int.tmod x.f2 1000⟩ : S40)] = ((pre ++ [x]).map fix1).map v := by simp [v, fix1]
   show marchlandref03_Fix.l0 (k + 1) _ _ _ = _
   rw [marchlandref03_Fix.l0, if_pos (by omega), if_pos (by omega), if_pos (by omega), if_pos (by simp; omega), e1, em, ew]
   exact h
theorem fix_ev (X : List S40) : Ev (fun k => marchlandref03_Fix.f k X) ((sumk ((X.take 12).map fix1)).map v) := fix_l0 X X [] rfl (by simp)
theorem sumk_str (l : List S50) : Str (sumk l) := by unfold sumk; split; exact (tot_str l).sublist List.filter_sublist; exact List.Pairwise.nil
theorem sumk_len (l : List S50) : (sumk l).length ≤ l.length := by
 unfold sumk; split
 ·have t1 := fin_len (tot l); have t2 := tot_len l; omega
 ·simp
theorem sumk_nz {l : List S50} {x : S50} (h : x ∈ sumk l) : x.f2 ≠ 0 := by
 unfold sumk at h; split at h
 ·exact of_decide_eq_true (List.mem_filter.1 h).2
 ·cases h
theorem wrongv_key {x : S50} (h0 : 0 ≤ x.f0 ∧ x.f0 < 64) (h1 : x.f1 ≠ 18446744073709551615) (h2 : wi x.f2) : wrongv x = 0 := by unfold wrongv; rw [if_neg (by omega), if_neg h1, if_pos h2]
theorem fix1_key (x : S40) (h : wfC x) : (0 ≤ (fix1 x).f0 ∧ (fix1 x).f0 < 64) ∧ (fix1 x).f1 ≠ 18446744073709551615 := by
 obtain ⟨_, ⟨a, b⟩, _⟩ := h
 have hp : 0 ≤ IntKind.u64.wrap x.f0 := by simp [IntKind.wrap, IntKind.bits, IntKind.signed]; omega
 have h1 := Int.tmod_lt_of_pos (IntKind.u64.wrap x.f0) (b := 64) (by omega)
 have h2 := Int.tmod_nonneg (b := 64) hp (a := IntKind.u64.wrap x.f0)
 have h3 := Int.tmod_lt_of_pos x.f1 (b := 18446744073709551615) (by omega)
 simp only [fix1]
 generalize Int.tmod (IntKind.u64.wrap x.f0) 64 = z at *
 have : wrap64 z = z := by unfold wrap64; omega
 rw [this]
 exact ⟨⟨h2, h1⟩, by omega⟩
theorem sumk_right {l : List S50} (h : ∀ x ∈ l, (0 ≤ x.f0 ∧ x.f0 < 64) ∧ x.f1 ≠ 18446744073709551615) : ∀ x ∈ sumk l, wrongv x = 0 := by
 intro x hx
 unfold sumk at hx; split at hx
 ·rename_i g
  obtain ⟨hm, hz⟩ := List.mem_filter.1 hx
  obtain ⟨y, hy, ek⟩ := tot_mem hm
  have hy := h y hy
  exact wrongv_key (by rw [ek.1]; exact hy.1) (by rw [ek.2]; exact hy.2) (of_decide_eq_true (List.all_eq_true.1 g x hm))
 ·cases hx
/-- a batch that is right -/
def Rt (X : List S50) : Prop := Str X ∧ (∀ x ∈ X, wrongv x = 0 ∧ x.f2 ≠ 0)
theorem sumk_rt {l : List S50} (h : ∀ x ∈ l, (0 ≤ x.f0 ∧ x.f0 < 64) ∧ x.f1 ≠ 18446744073709551615) : Rt (sumk l) := ⟨sumk_str l, fun x hx => ⟨sumk_right h x hx, sumk_nz hx⟩⟩
theorem fix_rt {X : List S40} (h : ∀ y ∈ X, wfC y) : Rt (sumk ((X.take 12).map fix1)) := sumk_rt (fun x hx => by
 obtain ⟨y, hy, rfl⟩ := List.mem_map.1 hx
 exact fix1_key y (h y (List.mem_of_mem_take hy)))
end Go.Proofs.Ytgeldmhgbnamcaa.Pure
end
section
/- Plain laws of batches, sixth part: what is packed is right; the told cases. -/
namespace Go.Proofs.Ytgeldmhgbnamcaa.Pure
open Go.RowKit Go.Proofs.Ytgeldmhgbnamcaa.P Go.Proofs.YtgeldmhgbnamcaaW.PrintWords Go.Proofs.YtgeldmhgbnamcaaW.PrintLast
set_option linter.unusedVariables false
set_option linter.unusedSimpArgs false
theorem told3 : Ev (fun k => marchlandlaw03_told.f k) true := Ev.of (fun k => marchlandlaw03_told.mono k) (k := 40) (by kernel_rfl)
theorem rightL_of : ∀ (l : List S50) (p : Option S50), Str l → (∀ x ∈ l, wrongv x = 0 ∧ x.f2 ≠ 0) → (∀ q, p = some q → ∀ x ∈ l, kl q x) → rightL p l = true := by
 intro l
 induction l with
 | nil => intro p _ _ _; rfl
 | cons x l ih =>
  intro p hs hw hp
  obtain ⟨h1, h2⟩ := List.pairwise_cons.1 hs
  have a := hw x (by simp)
  have b := ih (some x) h2 (fun y hy => hw y (by simp [hy])) (fun q e y hy => by cases e; exact h1 y hy)
  cases p with
  | none => simp [rightL, a.1, a.2, b]
  | some q => have c := hp q rfl x (by simp); simp [rightL, a.1, a.2, b, c]
theorem firstw_zero : ∀ {l : List S50}, firstw l = 0 → ∀ x ∈ l, wrongv x = 0 := by
 intro l
 induction l with
 | nil => intro _ x h; cases h
 | cons y l ih =>
  intro h x hx
  simp only [firstw] at h
  split at h
  ·rename_i h0
   rcases List.mem_cons.1 hx with rfl | hx
   ·exact h0
   ·exact ih h x hx
  ·rename_i h0; exact absurd h h0
theorem fin_right {X : List S50} (h1 : ∀ x ∈ X, wrongv x = 0) (hg : good (tot X) = true) : rightv (fin (tot X)) = true := by
 refine rightL_of _ none ((tot_str X).sublist List.filter_sublist) (fun x hx => ?_) (fun q e => by cases e)
 obtain ⟨hm, hz⟩ := List.mem_filter.1 hx
 obtain ⟨y, hy, ek⟩ := tot_mem hm
 have hwi : wi x.f2 := of_decide_eq_true (List.all_eq_true.1 hg x hm)
 have hy := h1 y hy
 refine ⟨?_, of_decide_eq_true hz⟩
 unfold wrongv at hy ⊢
 rw [ek.1, ek.2]
 split at hy
 ·simp at hy
 rename_i a
 split at hy
 ·simp at hy
 rename_i b
 rw [if_neg a, if_neg b, if_pos hwi]
theorem packv_right {X : List S50} (h : (packv X).2 = 0) : rightv (packv X).1 = true := by
 unfold packv sumv at *
 split at h
 ·simp at h
 rename_i a
 split at h
 ·rename_i b
  split at h
  ·rename_i c
   rw [if_neg a, if_pos b, if_pos c]
   exact fin_right (firstw_zero b) c
  ·simp at h
 ·rename_i b; exact absurd h b
theorem packv_len {X : List S50} : (packv X).1.length ≤ 16 := by
 unfold packv sumv
 split
 ·simp
 split
 ·split
  ·have t1 := fin_len (tot X); have t2 := tot_len X; dsimp only; omega
  ·simp
 ·simp
theorem mn_len {α : Type} (l : List α) (n : Nat) {z : Int} (hz : z = n) : mn (l.length : Int) z = ((min l.length n : Nat) : Int) := by unfold mn; split <;> omega
theorem rt_right {X : List S50} (h : Rt X) : rightv X = true := rightL_of X none h.1 h.2 (fun q e => by cases e)
end Go.Proofs.Ytgeldmhgbnamcaa.Pure
end
