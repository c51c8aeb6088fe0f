/- Walks and laws of several statements of this seat, joined into one text; no condition. -/
import Derived.Test.YtgeldmhgbnamcaaFSa9
section
namespace Go.Proofs.Ytgeldmhgbnamcaa.Pure
open Go.RowKit Go.Proofs.Ytgeldmhgbnamcaa.P Go.Proofs.YtgeldmhgbnamcaaW.PrintWords Go.Proofs.YtgeldmhgbnamcaaW.PrintLast
set_option linter.unusedVariables false
set_option linter.unusedSimpArgs false
theorem wadd {i j : Nat} (h : i + j ≤ 9000000000000000000) : wrap64 ((i : Int) + (j : Int)) = ((i + j : Nat) : Int) := by unfold wrap64; omega
theorem wsub {i j : Nat} (h : j ≤ i) (h2 : i ≤ 9000000000000000000) : wrap64 ((i : Int) - (j : Int)) = ((i - j : Nat) : Int) := by unfold wrap64; omega
theorem wsub1 {i : Nat} (h : 1 ≤ i) (h2 : i ≤ 9000000000000000000) : wrap64 ((i : Int) - 1) = ((i - 1 : Nat) : Int) := by unfold wrap64; omega
theorem j8_ev {X X1 X2 : List S50} {a b mid t e : Int} {c : Bool} (h1 : Ev (fun k => if c = true then batch_Change_96.f k X a t mid else some X) X1) (h2 : Ev (fun k => if mid < e ∧ e < b then batch_Change_96.f k X1 mid e b else some X1) X2) : Ev (fun k => batch_Change_96.j8 k X a b mid t e c) X2 := by
 obtain ⟨K1, h1⟩ := h1
 obtain ⟨K2, h2⟩ := h2
 refine ⟨K1 + K2 + 1, fun k hk => ?_⟩
 obtain ⟨k, rfl⟩ : ∃ m, k = m + 1 := ⟨k - 1, by omega⟩
 have h1 := h1 k (by omega); have h2 := h2 k (by omega); dsimp only at h1 h2
 have tail : (if mid < e then (if e < b then (batch_Change_96.f k X1 mid e b).bind fun t155 => some t155 else some X1) else some X1) = some X2 := by
  by_cases q : mid < e ∧ e < b
  ·rw [if_pos q] at h2; rw [if_pos q.1, if_pos q.2, h2]; rfl
  ·rw [if_neg q] at h2
   by_cases q1 : mid < e
   ·rw [if_pos q1, if_neg (fun q2 => q ⟨q1, q2⟩), h2]
   ·rw [if_neg q1, h2]
 show batch_Change_96.j8 (k + 1) _ _ _ _ _ _ _ = _
 rw [batch_Change_96.j8]
 by_cases q : c = true
 ·rw [if_pos q] at h1 ⊢; rw [h1, Option.bind_some]; exact tail
 ·rw [if_neg q] at h1 ⊢; rw [Option.some.inj h1]; exact tail
theorem j7_ev {X R : List S50} {a b mid t e : Int} (h : Ev (fun k => batch_Change_96.j8 k X a b mid t e (decide (a < t ∧ t < mid))) R) : Ev (fun k => batch_Change_96.j7 k X a b mid t e) R := by
 refine Ev.step (fun k => ?_) h
 show batch_Change_96.j7 (k + 1) _ _ _ _ _ _ = _
 rw [batch_Change_96.j7]
 by_cases q : a < t
 ·rw [if_pos q]; congr 1; apply decide_eq_decide.2; exact ⟨fun x => ⟨q, x⟩, fun x => x.2⟩
 ·rw [if_neg q, decide_eq_false (fun x => q x.1)]
theorem j6_ev {X X1 R : List S50} {a m b mid t e : Int} {c : Bool} (h1 : Ev (fun k => if c = true then batch_Change_98.f k X t m e else some X) X1) (h2 : Ev (fun k => batch_Change_96.j7 k X1 a b mid t e) R) : Ev (fun k => batch_Change_96.j6 k X a m b mid t e c) R := by
 obtain ⟨K1, h1⟩ := h1
 obtain ⟨K2, h2⟩ := h2
 refine ⟨K1 + K2 + 1, fun k hk => ?_⟩
 obtain ⟨k, rfl⟩ : ∃ m, k = m + 1 := ⟨k - 1, by omega⟩
 have h1 := h1 k (by omega); have h2 := h2 k (by omega); dsimp only at h1 h2
 show batch_Change_96.j6 (k + 1) _ _ _ _ _ _ _ _ = _
 rw [batch_Change_96.j6]
 by_cases q : c = true
 ·rw [if_pos q] at h1 ⊢; rw [h1, Option.bind_some]; exact h2
 ·rw [if_neg q] at h1 ⊢; rw [Option.some.inj h1]; exact h2
theorem l4_ev {X R : List S50} {a m b mid nn t e p : Int} (he : wrap64 (nn - t) = e) (h : Ev (fun k => batch_Change_96.j6 k X a m b mid t e (decide (t < m ∧ m < e))) R) : Ev (fun k => batch_Change_96.l4 k X a m b mid nn t t p) R := by
 refine Ev.step (fun k => ?_) h
 show batch_Change_96.l4 (k + 1) _ _ _ _ _ _ _ _ _ = _
 rw [batch_Change_96.l4, if_neg (Int.lt_irrefl t), he]
 by_cases q : t < m
 ·rw [if_pos q]; congr 1; apply decide_eq_decide.2; exact ⟨fun x => ⟨q, x⟩, fun x => x.2⟩
 ·rw [if_neg q, decide_eq_false (fun x => q x.1)]
def Merges (n : Nat) : Prop := ∀ (P L R D : List S50), L.length + R.length ≤ n → L ≠ [] → R ≠ [] → Srt L → Srt R → Fits (P.length + L.length + R.length + D.length + 4) →
  ∃ S : List S50, S.Perm (L ++ R) ∧ Srt S ∧ Ev (fun k => batch_Change_96.f k (P ++ (L ++ (R ++ D))) (P.length : Int) ((P.length + L.length : Nat) : Int) ((P.length + L.length + R.length : Nat) : Int)) (P ++ (S ++ D))
theorem ne_nil {A : List S50} : A ≠ [] ↔ 0 < A.length := List.length_pos_iff.symm
theorem half {n : Nat} (ih : Merges n) (P L R D : List S50) (hn : L.length + R.length ≤ n) (hL : Srt L) (hR : Srt R) (hf : Fits (P.length + L.length + R.length + D.length + 4)) {a m b : Nat} (ha : P.length = a) (hm : a + L.length = m) (hb : m + R.length = b) :
  ∃ S : List S50, S.Perm (L ++ R) ∧ Srt S ∧ Ev (fun k => if (a : Int) < m ∧ (m : Int) < b then batch_Change_96.f k (P ++ (L ++ (R ++ D))) a m b else some (P ++ (L ++ (R ++ D)))) (P ++ (S ++ D)) := by
 subst ha hm hb
 by_cases h : L ≠ [] ∧ R ≠ []
 ·obtain ⟨S, p, s, K, e⟩ := ih P L R D hn h.1 h.2 hL hR hf
  have h1 := ne_nil.1 h.1
  have h2 := ne_nil.1 h.2
  exact ⟨S, p, s, K, fun k hk => by
   show (if _ then _ else _) = _
   rw [if_pos (by omega)]; exact e k hk⟩
 ·have h' : L = [] ∨ R = [] := by
   by_cases h1 : L = []
   ·exact .inl h1
   ·exact .inr (Classical.byContradiction fun h2 => h ⟨h1, h2⟩)
  refine ⟨L ++ R, List.Perm.refl _, srt_one hL hR h', 0, fun k _ => ?_⟩
  show (if _ then _ else _) = _
  have : ¬ (((P.length : Nat) : Int) < ((P.length + L.length : Nat) : Int) ∧ ((P.length + L.length : Nat) : Int) < ((P.length + L.length + R.length : Nat) : Int)) := by
   rcases h' with rfl | rfl
   ·simp
   ·simp
  rw [if_neg this]
  simp
theorem turn (P L R D : List S50) {a m b : Nat} (ha : P.length = a) (hm : a + L.length = m) (hb : m + R.length = b) (hf : Fits (b + D.length)) :
  Ev (fun k => if decide ((a : Int) < m ∧ (m : Int) < b) = true then batch_Change_98.f k (P ++ (L ++ (R ++ D))) a m b else some (P ++ (L ++ (R ++ D)))) (P ++ (R ++ (L ++ D))) := by
 subst ha hm hb
 by_cases h : L ≠ [] ∧ R ≠ []
 ·have h1 := ne_nil.1 h.1
  have h2 := ne_nil.1 h.2
  obtain ⟨K, e⟩ := rot_ev P L R D h.1 h.2 (by unfold Fits at *; omega) (a := (P.length : Int)) (m := ((P.length + L.length : Nat) : Int)) (b := ((P.length + L.length + R.length : Nat) : Int)) rfl (by omega) (by omega)
  exact ⟨K, fun k hk => by
   show (if _ then _ else _) = _
   rw [if_pos (decide_eq_true (by omega))]; exact e k hk⟩
 ·have h' : L = [] ∨ R = [] := by
   by_cases h1 : L = []
   ·exact .inl h1
   ·exact .inr (Classical.byContradiction fun h2 => h ⟨h1, h2⟩)
  refine ⟨0, fun k _ => ?_⟩
  show (if _ then _ else _) = _
  have : ¬ (((P.length : Nat) : Int) < ((P.length + L.length : Nat) : Int) ∧ ((P.length + L.length : Nat) : Int) < ((P.length + L.length + R.length : Nat) : Int)) := by
   rcases h' with rfl | rfl
   ·simp
   ·simp
  rw [if_neg (fun x => this (of_decide_eq_true x))]
  rcases h' with rfl | rfl <;> simp
theorem run_tail {n : Nat} (ih : Merges n) (P L1 L2 R1 R2 D : List S50) {a m b mid t e : Nat} {nn p : Int} (ea : P.length = a) (et : a + L1.length = t) (em : t + L2.length = m) (ei : t + R1.length = mid) (ee : m + R1.length = e) (eb : e + R2.length = b) (hb : b + D.length + 4 ≤ 1000000000000000000)
  (n1 : L1.length + R1.length ≤ n) (n2 : L2.length + R2.length ≤ n) (sl1 : Srt L1) (sl2 : Srt L2) (sr1 : Srt R1) (sr2 : Srt R2) (hn : wrap64 (nn - t) = e) :
  ∃ S1 S2 : List S50, S1.Perm (L1 ++ R1) ∧ Srt S1 ∧ S2.Perm (L2 ++ R2) ∧ Srt S2 ∧ Ev (fun k => batch_Change_96.l4 k (P ++ (L1 ++ (L2 ++ (R1 ++ (R2 ++ D))))) a m b mid nn t t p) (P ++ (S1 ++ (S2 ++ D))) := by
 obtain ⟨S1, p1, s1, h1⟩ := half ih P L1 R1 (L2 ++ (R2 ++ D)) n1 sl1 sr1 (by unfold Fits; simp only [List.length_append]; omega) ea et ei
 have z1 : S1.length = L1.length + R1.length := by rw [p1.length_eq]; simp
 obtain ⟨S2, p2, s2, h2⟩ := half ih (P ++ S1) L2 R2 D n2 sl2 sr2 (by unfold Fits; simp only [List.length_append]; omega) (a := mid) (m := e) (b := b) (by simp only [List.length_append]; omega) (by omega) eb
 refine ⟨S1, S2, p1, s1, p2, s2, l4_ev hn ?_⟩
 have h0 := turn (P ++ L1) L2 R1 (R2 ++ D) (a := t) (m := m) (b := e) (by simp only [List.length_append]; omega) em ee (by unfold Fits; simp only [List.length_append]; omega)
 refine j6_ev (X1 := P ++ (L1 ++ (R1 ++ (L2 ++ (R2 ++ D))))) ?_ (j7_ev (j8_ev (X1 := P ++ (S1 ++ (L2 ++ (R2 ++ D)))) ?_ ?_))
 ·simpa only [List.append_assoc] using h0
 ·obtain ⟨K, h1⟩ := h1
  exact ⟨K, fun k hk => by
   have h1 := h1 k hk; dsimp only at h1 ⊢
   by_cases q : (a : Int) < t ∧ (t : Int) < mid
   ·rw [if_pos q] at h1; rw [if_pos (decide_eq_true q)]; exact h1
   ·rw [if_neg q] at h1; rw [if_neg (fun x => q (of_decide_eq_true x))]; exact h1⟩
 ·simpa only [List.append_assoc] using h2
theorem places (a m b : Nat) (h1 : a + 2 ≤ m) (h2 : m + 2 ≤ b) (h3 : b ≤ 1000000000000000000) : ∃ mi s0 r0 : Nat, a < mi ∧ mi < b ∧
  wrap64 ((IntKind.u64.wrap (wrap64 ((a : Int) + (b : Int)))) / 2) = (mi : Int) ∧ wrap64 ((mi : Int) + (m : Int)) = ((mi + m : Nat) : Int) ∧ wrap64 (((mi + m : Nat) : Int) - 1) = ((mi + m - 1 : Nat) : Int) ∧
  (s0 ≤ r0 ∧ a ≤ s0 ∧ r0 ≤ m ∧ r0 ≤ mi ∧ mi + m ≤ s0 + b) ∧ ((m > mi ∧ s0 = mi + m - b ∧ s0 + b = mi + m ∧ r0 = mi) ∨ (¬ m > mi ∧ s0 = a ∧ r0 = m)) := by
 have hm := mid (i := a) (j := b) (by omega) (by omega)
 generalize e : a + (b - a) / 2 = c at hm
 have c1 : a < c ∧ c < b ∧ 2 * c ≤ a + b ∧ a + b ≤ 2 * c + 1 := by omega
 clear e
 have w1 := wadd (i := c) (j := m) (by omega)
 have w2 := wsub1 (i := c + m) (by omega) (by omega)
 by_cases h : m > c
 ·exact ⟨c, c + m - b, c, c1.1, c1.2.1, hm, w1, w2, by omega, .inl ⟨h, rfl, by omega, rfl⟩⟩
 ·exact ⟨c, a, m, c1.1, c1.2.1, hm, w1, w2, by omega, .inr ⟨h, rfl, rfl⟩⟩
theorem cut (A : List S50) (i : Nat) (h : i ≤ A.length) : ∃ B C : List S50, A = B ++ C ∧ B.length = i ∧ C.length = A.length - i := ⟨A.take i, A.drop i, by simp, by simp; omega, by simp⟩
theorem across (P L1 L2 R1 R2 D : List S50) {t e n1 : Nat} (et : P.length + L1.length = t) (ee : t + L2.length + R1.length = e) (hp : n1 + 1 = t + e) (sL : Srt (L1 ++ L2)) (sR : Srt (R1 ++ R2))
  (t3 : L1 = [] ∨ R2 = [] ∨ ¬ kl (g (P ++ (L1 ++ (L2 ++ (R1 ++ (R2 ++ D))))) (n1 - (t - 1))) (g (P ++ (L1 ++ (L2 ++ (R1 ++ (R2 ++ D))))) (t - 1))) (t4 : L2 = [] ∨ R1 = [] ∨ kl (g (P ++ (L1 ++ (L2 ++ (R1 ++ (R2 ++ D))))) (n1 - t)) (g (P ++ (L1 ++ (L2 ++ (R1 ++ (R2 ++ D))))) t)) :
  Le L1 R2 ∧ Le R1 L2 := by
 obtain ⟨sl1, sl2⟩ := srt_split sL
 obtain ⟨sr1, sr2⟩ := srt_split sR
 constructor
 ·refine le_join sl1 sr2 (fun A' z y B' f1 f2 => ?_)
  subst f1 f2
  simp only [List.length_append, List.length_cons, List.length_nil] at et ee
  have gz : g (P ++ (A' ++ [z] ++ (L2 ++ (R1 ++ (y :: B' ++ D))))) (t - 1) = z := by
   have := g_at (P ++ A') z (L2 ++ (R1 ++ (y :: B' ++ D))) (i := t - 1) (by simp only [List.length_append]; omega)
   simpa only [List.append_assoc, List.cons_append, List.nil_append] using this
  have gy : g (P ++ (A' ++ [z] ++ (L2 ++ (R1 ++ (y :: B' ++ D))))) (n1 - (t - 1)) = y := by
   have := g_at (P ++ (A' ++ ([z] ++ (L2 ++ R1)))) y (B' ++ D) (i := n1 - (t - 1)) (by simp only [List.length_append, List.length_cons, List.length_nil]; omega)
   simpa only [List.append_assoc, List.cons_append, List.nil_append] using this
  rcases t3 with t3 | t3 | t3
  ·simp at t3
  ·cases t3
  ·rw [gz, gy] at t3; exact t3
 ·refine le_join sr1 sl2 (fun A' z w B' f1 f2 => ?_)
  subst f1 f2
  simp only [List.length_append, List.length_cons, List.length_nil] at et ee
  have gz : g (P ++ (L1 ++ (w :: B' ++ (A' ++ [z] ++ (R2 ++ D))))) (n1 - t) = z := by
   have := g_at (P ++ (L1 ++ (w :: (B' ++ A')))) z (R2 ++ D) (i := n1 - t) (by simp only [List.length_append, List.length_cons]; omega)
   simpa only [List.append_assoc, List.cons_append, List.nil_append] using this
  have gw : g (P ++ (L1 ++ (w :: B' ++ (A' ++ [z] ++ (R2 ++ D))))) t = w := by
   have := g_at (P ++ L1) w (B' ++ (A' ++ [z] ++ (R2 ++ D))) (i := t) (by simp only [List.length_append]; omega)
   simpa only [List.append_assoc, List.cons_append, List.nil_append] using this
  rcases t4 with t4 | t4 | t4
  ·simp at t4
  ·simp at t4
  ·rw [gz, gw] at t4; unfold kl at *; omega
theorem search4 (X : List S50) {x1 x2 x3 x18 x19 : Int} (s0 r0 n1 : Nat) (hX : Fits X.length) (h1 : s0 ≤ r0) (h2 : r0 ≤ X.length) (h3 : r0 ≤ n1 + 1) (h4 : n1 < X.length + s0) :
  ∃ t : Nat, s0 ≤ t ∧ t ≤ r0 ∧ (t = s0 ∨ ¬ kl (g X (n1 - (t - 1))) (g X (t - 1))) ∧ (t = r0 ∨ kl (g X (n1 - t)) (g X t)) ∧
   ∀ res, Ev (fun k => batch_Change_96.l4 k X x1 x2 x3 x18 x19 (t : Int) (t : Int) (n1 : Int)) res → Ev (fun k => batch_Change_96.l4 k X x1 x2 x3 x18 x19 (s0 : Int) (r0 : Int) (n1 : Int)) res :=
 bsearch (fun k i j => batch_Change_96.l4 k X x1 x2 x3 x18 x19 i j (n1 : Int)) (fun h => kl (g X (n1 - h)) (g X h)) s0 r0
  (fun i j h a1 a2 a3 a4 a5 res y1 y2 => by
   have c1 : j ≤ X.length := Nat.le_trans a4 h2
   have c2 : h ≤ n1 ∧ n1 - h < X.length := by omega
   exact s4_step X n1 hX i j h a2 a3 c1 c2 a5 res y1 y2) (r0 - s0) s0 r0 (Nat.le_refl _) (Nat.le_refl _) h1 (Nat.le_refl _)
set_option maxHeartbeats 4000000 in
theorem merges : ∀ n, Merges n := by
 intro n
 induction n with
 | zero => intro P L R D h hL; exact absurd (List.eq_nil_of_length_eq_zero (by omega)) hL
 | succ n ih =>
  intro P L R D hn hL hR sL sR hf
  unfold Fits at hf
  have L0 := ne_nil.1 hL
  have R0 := ne_nil.1 hR
  by_cases c1 : L.length = 1
  ·obtain ⟨x, rfl⟩ := List.length_eq_one_iff.1 c1
   obtain ⟨S, p, s, K, h⟩ := sym1 P x R D sR (by unfold Fits; simp at hf; omega)
   refine ⟨S, by simpa using p, s, K + 1, fun k hk => ?_⟩
   obtain ⟨k, rfl⟩ : ∃ m, k = m + 1 := ⟨k - 1, by omega⟩
   have h := h k (by omega); dsimp only at h
   show batch_Change_96.f (k + 1) _ _ _ _ = _
   rw [batch_Change_96.f, if_pos (by unfold wrap64; omega)]
   exact h
  by_cases c2 : R.length = 1
  ·obtain ⟨y, rfl⟩ := List.length_eq_one_iff.1 c2
   obtain ⟨S, p, s, K, h⟩ := sym2 P L y D sL (by unfold Fits; simp at hf; omega)
   refine ⟨S, p, s, K + 1, fun k hk => ?_⟩
   obtain ⟨k, rfl⟩ : ∃ m, k = m + 1 := ⟨k - 1, by omega⟩
   have h := h k (by omega); dsimp only at h
   show batch_Change_96.f (k + 1) _ _ _ _ = _
   rw [batch_Change_96.f, if_neg (by unfold wrap64; omega), if_pos (by unfold wrap64; omega)]
   exact h
  obtain ⟨a, ea⟩ : ∃ a, P.length = a := ⟨_, rfl⟩
  obtain ⟨m, em⟩ : ∃ m, a + L.length = m := ⟨_, rfl⟩
  obtain ⟨b, eb⟩ : ∃ b, m + R.length = b := ⟨_, rfl⟩
  rw [ea, em, eb]
  have lX : (P ++ (L ++ (R ++ D))).length = b + D.length := by simp only [List.length_append]; omega
  obtain ⟨mi, s0, r0, hma, hmb, hmid, hnn, hp, hord, hs0⟩ := places a m b (by omega) (by omega) (by omega)
  have HMI := Aside0.mk hmid
  have HNN := Aside0.mk hnn
  have HP := Aside0.mk hp
  have HF := Aside0.mk hf
  have hb18 : b ≤ 1000000000000000000 := by omega
  have hbD : b + D.length + 4 ≤ 1000000000000000000 := by omega
  clear hmid hnn hp hf
  obtain ⟨t, t1, t2, t3, t4, t5⟩ := search4 (P ++ (L ++ (R ++ D))) (x1 := (a : Int)) (x2 := (m : Int)) (x3 := (b : Int)) (x18 := (mi : Int)) (x19 := ((mi + m : Nat) : Int)) s0 r0 (mi + m - 1) (by unfold Fits; omega) (by omega) (by omega) (by omega) (by omega)
  have hta : a ≤ t ∧ t ≤ m ∧ m + t ≤ mi + m ∧ mi + m ≤ t + b := by omega
  obtain ⟨L1, L2, eL, l1, l2⟩ := cut L (t - a) (by omega)
  obtain ⟨R1, R2, eR, r1, r2⟩ := cut R (mi - t) (by omega)
  have q : Le L1 R2 ∧ Le R1 L2 := by
   subst eL eR
   simp only [List.append_assoc] at t3 t4
   refine across P L1 L2 R1 R2 D (t := t) (e := mi + m - t) (n1 := mi + m - 1) (by omega) (by omega) (by omega) sL sR ?_ ?_
   ·rcases t3 with t3 | t3
    ·rcases hs0 with ⟨_, h2, h2', _⟩ | ⟨_, h2, _⟩
     ·exact .inr (.inl (List.eq_nil_of_length_eq_zero (by omega)))
     ·exact .inl (List.eq_nil_of_length_eq_zero (by omega))
    ·exact .inr (.inr t3)
   ·rcases t4 with t4 | t4
    ·rcases hs0 with ⟨_, _, _, h3⟩ | ⟨_, _, h3⟩
     ·exact .inr (.inl (List.eq_nil_of_length_eq_zero (by omega)))
     ·exact .inl (List.eq_nil_of_length_eq_zero (by omega))
    ·exact .inr (.inr t4)
  have s12 := srt_split (A := L1) (B := L2) (by rw [← eL]; exact sL)
  have r12 := srt_split (A := R1) (B := R2) (by rw [← eR]; exact sR)
  have lL : L.length = L1.length + L2.length := by rw [eL]; simp
  have lR : R.length = R1.length + R2.length := by rw [eR]; simp
  obtain ⟨S1, S2, p1, s1, p2, s2, h4⟩ := run_tail ih P L1 L2 R1 R2 D (a := a) (m := m) (b := b) (mid := mi) (t := t) (e := mi + m - t) (nn := ((mi + m : Nat) : Int)) (p := ((mi + m - 1 : Nat) : Int)) ea (by omega) (by omega) (by omega) (by omega) (by omega) (by omega) (by omega) (by omega) s12.1 s12.2 r12.1 r12.2 (wsub (by omega) (by omega))
  have eX : P ++ (L1 ++ (L2 ++ (R1 ++ (R2 ++ D)))) = P ++ (L ++ (R ++ D)) := by rw [eL, eR]; simp
  rw [eX] at h4
  refine ⟨S1 ++ S2, ?_, List.pairwise_append.2 ⟨s1, s2, fun x hx y hy => ?_⟩, ?_⟩
  ·rw [eL, eR]
   refine (p1.append p2).trans ?_
   simp only [List.append_assoc]
   refine List.Perm.append_left L1 ?_
   rw [← List.append_assoc, ← List.append_assoc]
   exact List.Perm.append_right R2 List.perm_append_comm
  ·rw [eL] at sL
   rw [eR] at sR
   rcases List.mem_append.1 (p1.mem_iff.1 hx) with h | h <;> rcases List.mem_append.1 (p2.mem_iff.1 hy) with h' | h'
   ·exact (List.pairwise_append.1 sL).2.2 x h y h'
   ·exact q.1 x h y h'
   ·exact q.2 x h y h'
   ·exact (List.pairwise_append.1 sR).2.2 x h y h'
  ·obtain ⟨K, h4⟩ := t5 _ h4
   refine ⟨K + 2, fun k hk => ?_⟩
   obtain ⟨k, rfl⟩ : ∃ m, k = m + 2 := ⟨k - 2, by omega⟩
   have h4 := h4 k (by omega); dsimp only at h4
   show batch_Change_96.f (k + 2) _ _ _ _ = _
   have n1 : ¬ wrap64 ((m : Int) - (a : Int)) = 1 := by rw [wsub (by omega) (by omega)]; omega
   have n2 : ¬ wrap64 ((b : Int) - (m : Int)) = 1 := by rw [wsub (by omega) (by omega)]; omega
   rw [List.append_assoc, batch_Change_96.f, if_neg n1, if_neg n2, HMI.out, HNN.out]
   rcases hs0 with ⟨h1, h2, h2', h3⟩ | ⟨h1, h2, h3⟩
   ·have ws : wrap64 (((mi + m : Nat) : Int) - (b : Int)) = (s0 : Int) := by rw [wsub (by omega) (by omega), h2]
    rw [if_pos (by omega), ws, batch_Change_96.j4, HP.out, ← h3]
    rw [h3] at h4 ⊢
    exact h4
   ·rw [if_neg (by omega), batch_Change_96.j4, HP.out]
    rw [h2, h3] at h4
    exact h4
inductive Bl (n : Nat) : List S50 → Prop
 | last (X : List S50) : X.length ≤ n → Srt X → Bl n X
 | more (A X : List S50) : A.length = n → Srt A → Bl n X → Bl n (A ++ X)
theorem bl_srt {n : Nat} {X : List S50} (h : Bl n X) (hl : X.length ≤ n) : Srt X := by
 cases h with
 | last _ _ s => exact s
 | more A Y ha sa _ =>
  have : Y = [] := List.eq_nil_of_length_eq_zero (by simp only [List.length_append] at hl; omega)
  subst this; simpa using sa
theorem l0_ev (len : Int) : ∀ (n : Nat) (X P : List S50), X.length ≤ n → len = P.length + X.length → Fits (P.length + X.length + 40) →
  ∃ X' : List S50, X'.Perm X ∧ Bl 20 X' ∧ ∀ res, Ev (fun k => batch_Change_88.l1 k (P ++ X') len 20) res → Ev (fun k => batch_Change_88.l0 k (P ++ X) len 20 (P.length : Int) ((P.length + 20 : Nat) : Int)) res := by
 intro n
 induction n with
 | zero =>
  intro X P hX hlen hf
  obtain rfl : X = [] := List.eq_nil_of_length_eq_zero (by omega)
  unfold Fits at hf
  simp only [List.length_nil] at hlen hf
  refine ⟨[], List.Perm.refl _, .last _ (by simp) List.Pairwise.nil, fun res ⟨K, h⟩ => ?_⟩
  obtain ⟨S, p, s, K1, h1⟩ := ins95 P [] [] (by simp; omega) (a := (P.length : Int)) (b := len) rfl (by simp; omega)
  obtain rfl : S = [] := List.eq_nil_of_length_eq_zero (by rw [p.length_eq]; rfl)
  refine ⟨K + K1 + 1, fun k hk => ?_⟩
  obtain ⟨k, rfl⟩ : ∃ m, k = m + 1 := ⟨k - 1, by omega⟩
  have h := h k (by omega); have h1 := h1 k (by omega); dsimp only at h h1
  show batch_Change_88.l0 (k + 1) _ _ _ _ _ = _
  simp only [List.append_nil, List.nil_append] at h h1 ⊢
  rw [batch_Change_88.l0, if_neg (by omega), h1, Option.bind_some]
  exact h
 | succ n ih =>
  intro X P hX hlen hf
  have hf0 := hf
  unfold Fits at hf
  by_cases c : 20 ≤ X.length
  ·obtain ⟨A, Y, rfl, ha, hy⟩ := cut X 20 c
   obtain ⟨S, p, s, K1, h1⟩ := ins95 P Y A (by simp only [List.length_append] at hf; omega) (a := (P.length : Int)) (b := ((P.length + 20 : Nat) : Int)) rfl (by omega)
   have ls : S.length = 20 := by rw [p.length_eq, ha]
   simp only [List.length_append] at hX hlen hf
   obtain ⟨Y', p2, b2, g2⟩ := ih Y (P ++ S) (by omega) (by simp only [List.length_append]; omega) (by unfold Fits; simp only [List.length_append]; omega)
   refine ⟨S ++ Y', p.append p2, .more S Y' ls s b2, fun res hr => ?_⟩
   obtain ⟨K2, h2⟩ := g2 res (by simpa only [List.append_assoc] using hr)
   refine ⟨K1 + K2 + 1, fun k hk => ?_⟩
   obtain ⟨k, rfl⟩ : ∃ m, k = m + 1 := ⟨k - 1, by omega⟩
   have h1 := h1 k (by omega); have h2 := h2 k (by omega); dsimp only at h1 h2
   show batch_Change_88.l0 (k + 1) _ _ _ _ _ = _
   rw [batch_Change_88.l0, if_pos (by omega), h1, Option.bind_some]
   rw [show wrap64 (((P.length + 20 : Nat) : Int) + 20) = (((P ++ S).length + 20 : Nat) : Int) by simp only [List.length_append]; unfold wrap64; omega]
   have e : ((P ++ S).length : Int) = ((P.length + 20 : Nat) : Int) := by simp only [List.length_append]; omega
   rw [e, List.append_assoc] at h2
   exact h2
  ·obtain ⟨S, p, s, K1, h1⟩ := ins95 P [] X (by omega) (a := (P.length : Int)) (b := len) rfl (by omega)
   refine ⟨S, p, .last S (by rw [p.length_eq]; omega) s, fun res ⟨K, h⟩ => ?_⟩
   refine ⟨K + K1 + 1, fun k hk => ?_⟩
   obtain ⟨k, rfl⟩ : ∃ m, k = m + 1 := ⟨k - 1, by omega⟩
   have h := h k (by omega); have h1 := h1 k (by omega); dsimp only at h h1
   simp only [List.append_nil] at h1
   show batch_Change_88.l0 (k + 1) _ _ _ _ _ = _
   rw [batch_Change_88.l0, if_neg (by omega), h1, Option.bind_some]
   exact h
theorem l2_ev (len : Int) (n : Nat) (n0 : 1 ≤ n) (n1 : n ≤ 1000000000000000000) : ∀ (d : Nat) (X P : List S50), X.length ≤ d → len = P.length + X.length → Fits (P.length + X.length + 40) → Bl n X →
  ∃ X' : List S50, X'.Perm X ∧ Bl (2 * n) X' ∧ ∀ res, Ev (fun k => batch_Change_88.l1 k (P ++ X') len ((2 * n : Nat) : Int)) res → Ev (fun k => batch_Change_88.l2 k (P ++ X) len (n : Int) (P.length : Int) ((P.length + 2 * n : Nat) : Int)) res := by
 have w2 : wrap64 ((n : Int) * 2) = ((2 * n : Nat) : Int) := by unfold wrap64; omega
 have w2' : wrap64 (2 * (n : Int)) = ((2 * n : Nat) : Int) := by unfold wrap64; omega
 intro d
 induction d with
 | zero =>
  intro X P hX hlen hf hb
  obtain rfl : X = [] := List.eq_nil_of_length_eq_zero (by omega)
  unfold Fits at hf
  simp only [List.length_nil] at hlen hf
  refine ⟨[], List.Perm.refl _, .last _ (by simp) List.Pairwise.nil, fun res ⟨K, h⟩ => ⟨K + 1, fun k hk => ?_⟩⟩
  obtain ⟨k, rfl⟩ : ∃ m, k = m + 1 := ⟨k - 1, by omega⟩
  have h := h k (by omega); dsimp only at h
  show batch_Change_88.l2 (k + 1) _ _ _ _ _ = _
  rw [batch_Change_88.l2, if_neg (by omega), show wrap64 ((P.length : Int) + (n : Int)) = ((P.length + n : Nat) : Int) by unfold wrap64; omega, if_neg (by omega), w2]
  exact h
 | succ d ih =>
  intro X P hX hlen hf hb
  have hf0 := hf
  unfold Fits at hf
  have wp : wrap64 ((P.length : Int) + (n : Int)) = ((P.length + n : Nat) : Int) := by unfold wrap64; omega
  by_cases c : 2 * n ≤ X.length
  ·obtain ⟨A, B, Y, rfl, ha, hb', sa, sb, hy⟩ : ∃ A B Y : List S50, X = A ++ (B ++ Y) ∧ A.length = n ∧ B.length = n ∧ Srt A ∧ Srt B ∧ Bl n Y := by
    cases hb with
    | last _ h _ => omega
    | more A X1 ha sa h1 =>
     simp only [List.length_append] at c
     cases h1 with
     | last _ h s => exact ⟨A, X1, [], by simp, ha, by omega, sa, s, .last _ (by simp) List.Pairwise.nil⟩
     | more B Y hb sb h2 => exact ⟨A, B, Y, rfl, ha, hb, sa, sb, h2⟩
   simp only [List.length_append] at hX hlen hf
   obtain ⟨S, p, s, K1, h1⟩ := merges (A.length + B.length) P A B Y (Nat.le_refl _) (ne_nil.2 (by omega)) (ne_nil.2 (by omega)) sa sb (by unfold Fits; omega)
   have ls : S.length = 2 * n := by rw [p.length_eq]; simp only [List.length_append]; omega
   obtain ⟨Y', p2, b2, g2⟩ := ih Y (P ++ S) (by omega) (by simp only [List.length_append]; omega) (by unfold Fits; simp only [List.length_append]; omega) hy
   refine ⟨S ++ Y', ?_, .more S Y' ls s b2, fun res hr => ?_⟩
   ·rw [← List.append_assoc]; exact p.append p2
   obtain ⟨K2, h2⟩ := g2 res (by simpa only [List.append_assoc] using hr)
   refine ⟨K1 + K2 + 1, fun k hk => ?_⟩
   obtain ⟨k, rfl⟩ : ∃ m, k = m + 1 := ⟨k - 1, by omega⟩
   have h1 := h1 k (by omega); have h2 := h2 k (by omega); dsimp only at h1 h2
   have e1 : ((P.length + A.length : Nat) : Int) = ((P.length + n : Nat) : Int) := by omega
   have e2 : ((P.length + A.length + B.length : Nat) : Int) = ((P.length + 2 * n : Nat) : Int) := by omega
   rw [e1, e2] at h1
   show batch_Change_88.l2 (k + 1) _ _ _ _ _ = _
   rw [batch_Change_88.l2, if_pos (by omega), wp, h1, Option.bind_some, w2']
   rw [show wrap64 (((P.length + 2 * n : Nat) : Int) + ((2 * n : Nat) : Int)) = (((P ++ S).length + 2 * n : Nat) : Int) by simp only [List.length_append]; unfold wrap64; omega]
   have e : ((P ++ S).length : Int) = ((P.length + 2 * n : Nat) : Int) := by simp only [List.length_append]; omega
   rw [e, List.append_assoc] at h2
   exact h2
  ·by_cases c2 : n < X.length
   ·obtain ⟨A, B, rfl, ha, sa, sb⟩ : ∃ A B : List S50, X = A ++ B ∧ A.length = n ∧ Srt A ∧ Srt B := by
     cases hb with
     | last _ h _ => omega
     | more A X1 ha sa h1 =>
      simp only [List.length_append] at c
      exact ⟨A, X1, rfl, ha, sa, bl_srt h1 (by omega)⟩
    simp only [List.length_append] at hX hlen hf c c2
    obtain ⟨S, p, s, K1, h1⟩ := merges (A.length + B.length) P A B [] (Nat.le_refl _) (ne_nil.2 (by omega)) (ne_nil.2 (by omega)) sa sb (by unfold Fits; simp only [List.length_nil]; omega)
    have ls : S.length = A.length + B.length := by rw [p.length_eq]; simp only [List.length_append]
    refine ⟨S, p, .last S (by omega) s, fun res ⟨K, h⟩ => ⟨K + K1 + 1, fun k hk => ?_⟩⟩
    obtain ⟨k, rfl⟩ : ∃ m, k = m + 1 := ⟨k - 1, by omega⟩
    have h := h k (by omega); have h1 := h1 k (by omega); dsimp only at h h1
    simp only [List.append_nil] at h1
    have e1 : ((P.length + A.length : Nat) : Int) = ((P.length + n : Nat) : Int) := by omega
    have e2 : ((P.length + A.length + B.length : Nat) : Int) = len := by omega
    rw [e1, e2] at h1
    show batch_Change_88.l2 (k + 1) _ _ _ _ _ = _
    rw [batch_Change_88.l2, if_neg (by omega), wp, if_pos (by omega), h1, Option.bind_some, w2]
    exact h
   ·refine ⟨X, List.Perm.refl _, .last X (by omega) (bl_srt hb (by omega)), fun res ⟨K, h⟩ => ⟨K + 1, fun k hk => ?_⟩⟩
    obtain ⟨k, rfl⟩ : ∃ m, k = m + 1 := ⟨k - 1, by omega⟩
    have h := h k (by omega); dsimp only at h
    show batch_Change_88.l2 (k + 1) _ _ _ _ _ = _
    rw [batch_Change_88.l2, if_neg (by omega), wp, if_neg (by omega), w2]
    exact h
theorem l1_ev (X0 : List S50) (len : Int) : ∀ (d n : Nat) (X : List S50), X.length - n ≤ d → 1 ≤ n → len = X.length → Fits (X.length + 40) → X.Perm X0 → Bl n X → ∃ S : List S50, S.Perm X0 ∧ Srt S ∧ Ev (fun k => batch_Change_88.l1 k X len (n : Int)) S := by
 intro d
 induction d with
 | zero =>
  intro n X hd n0 hlen hf hp hb
  refine ⟨X, hp, bl_srt hb (by omega), 1, fun k hk => ?_⟩
  obtain ⟨k, rfl⟩ : ∃ m, k = m + 1 := ⟨k - 1, by omega⟩
  show batch_Change_88.l1 (k + 1) _ _ _ = _
  rw [batch_Change_88.l1, if_neg (by omega)]
 | succ d ih =>
  intro n X hd n0 hlen hf hp hb
  have hf0 := hf
  unfold Fits at hf
  by_cases c : n < X.length
  ·obtain ⟨X', p, b, g⟩ := l2_ev len n n0 (by omega) X.length X [] (Nat.le_refl _) (by simp; omega) (by unfold Fits; simp; omega) hb
   have lx := p.length_eq
   obtain ⟨S, p2, s2, h2⟩ := ih (2 * n) X' (by omega) (by omega) (by omega) (by unfold Fits; omega) (p.trans hp) b
   obtain ⟨K, h⟩ := g S (by simpa using h2)
   refine ⟨S, p2, s2, K + 1, fun k hk => ?_⟩
   obtain ⟨k, rfl⟩ : ∃ m, k = m + 1 := ⟨k - 1, by omega⟩
   have h := h k (by omega); dsimp only at h
   simp only [List.nil_append, List.length_nil, Nat.zero_add] at h
   show batch_Change_88.l1 (k + 1) _ _ _ = _
   rw [batch_Change_88.l1, if_pos (by omega), show wrap64 (2 * (n : Int)) = ((2 * n : Nat) : Int) by unfold wrap64; omega]
   exact h
  ·refine ⟨X, hp, bl_srt hb (by omega), 1, fun k hk => ?_⟩
   obtain ⟨k, rfl⟩ : ∃ m, k = m + 1 := ⟨k - 1, by omega⟩
   show batch_Change_88.l1 (k + 1) _ _ _ = _
   rw [batch_Change_88.l1, if_neg (by omega)]
theorem sorts_all (l : List S50) (hl : l.length ≤ 900000000000000000) : Sorts l := by
 obtain ⟨X', p, b, g⟩ := l0_ev (l.length : Int) l.length l [] (Nat.le_refl _) (by simp) (by unfold Fits; simp; omega)
 have lx := p.length_eq
 obtain ⟨S, p2, s2, h2⟩ := l1_ev l (l.length : Int) X'.length 20 X' (by omega) (by omega) (by omega) (by unfold Fits; omega) p b
 obtain ⟨K, h⟩ := g S (by simpa using h2)
 refine ⟨S, p2, s2, K, fun k hk => ?_⟩
 have h := h k hk; dsimp only at h
 simp only [List.nil_append, List.length_nil, Nat.zero_add] at h
 show batch_Change_74.f k l = _
 rw [batch_Change_74.f, batch_Change_88.f]
 have h' : batch_Change_88.l0 k l (l.length : Int) 20 0 20 = some S := h
 rw [h']; rfl
def cnt : List S50 → S50 → Int
 | [], _ => 0
 | x :: l, q => (if ke x q then x.f2 else 0) + cnt l q
def mass : List S50 → Nat
 | [] => 0
 | x :: l => x.f2.natAbs + mass l
theorem cnt_append (a b : List S50) (q : S50) : cnt (a ++ b) q = cnt a q + cnt b q := by
 induction a with
 | nil => simp [cnt]
 | cons x a ih => simp only [List.cons_append, cnt, ih]; omega
theorem mass_append (a b : List S50) : mass (a ++ b) = mass a + mass b := by
 induction a with
 | nil => simp [mass]
 | cons x a ih => simp only [List.cons_append, mass, ih]; omega
theorem cnt_mass (a : List S50) (q : S50) : (cnt a q).natAbs ≤ mass a := by
 induction a with
 | nil => simp [cnt]
 | cons x a ih => simp only [cnt, mass]; split <;> omega
theorem ofv_nil (q : S50) : ofv [] q = 0 := rfl
theorem ofv_cons (y : S50) (l : List S50) (q : S50) : ofv (y :: l) q = if ke y q then y.f2 else ofv l q := by
 unfold ofv
 rw [List.find?_cons]
 by_cases h : ke y q
 ·rw [if_pos h]; simp [h]
 ·rw [if_neg h]; simp [h]
theorem ofv_none {l : List S50} {q : S50} (h : ∀ y ∈ l, ¬ ke y q) : ofv l q = 0 := by
 unfold ofv
 rw [List.find?_eq_none.2 (fun y hy => by simpa using h y hy)]
theorem ofv_key {q q' : S50} (h : ke q q') (l : List S50) : ofv l q = ofv l q' := by
 induction l with
 | nil => rfl
 | cons y l ih =>
  rw [ofv_cons, ofv_cons, ih]
  have : ke y q ↔ ke y q' := by unfold ke at *; omega
  by_cases c : ke y q
  ·rw [if_pos c, if_pos (this.1 c)]
  ·rw [if_neg c, if_neg (fun k => c (this.2 k))]
theorem ofv_ins {x : S50} (q : S50) : ∀ {G : List S50}, Str G → (ofv G x + x.f2).natAbs ≤ 1000000000 → ofv (ins x G) q = ofv G q + if ke x q then x.f2 else 0 := by
 intro G
 induction G with
 | nil => intro _ _; simp only [ins, ofv_cons, ofv_nil]; omega
 | cons y G ih =>
  intro hs hb
  obtain ⟨h1, h2⟩ := List.pairwise_cons.1 hs
  simp only [ins]
  by_cases e : ke y x
  ·rw [if_pos e, ofv_cons, ofv_cons]
   rw [ofv_cons, if_pos e] at hb
   have w : (plus y x).f2 = y.f2 + x.f2 := by show wrap64 (y.f2 + x.f2) = _; unfold wrap64; omega
   have k1 : ke (plus y x) q ↔ ke y q := Iff.rfl
   by_cases c : ke y q
   ·have c' : ke x q := by unfold ke at *; omega
    rw [if_pos (k1.2 c), if_pos c, if_pos c', w]
   ·have c' : ¬ ke x q := by unfold ke at *; omega
    rw [if_neg (fun k => c (k1.1 k)), if_neg c, if_neg c']; omega
  ·rw [if_neg e]
   by_cases c : kl x y
   ·rw [if_pos c, ofv_cons]
    by_cases d : ke x q
    ·have nn : ∀ z ∈ y :: G, ¬ ke z q := fun z hz => by
      rcases List.mem_cons.1 hz with rfl | hz
      ·unfold kl ke at *; omega
      ·have := h1 z hz; unfold kl ke at *; omega
     rw [if_pos d, if_pos d, ofv_none nn]; omega
    ·rw [if_neg d, if_neg d]; omega
   ·rw [if_neg c, ofv_cons, ofv_cons]
    rw [ofv_cons, if_neg e] at hb
    by_cases d : ke y q
    ·have d' : ¬ ke x q := by unfold ke at *; omega
     rw [if_pos d, if_pos d, if_neg d']; omega
    ·rw [if_neg d, if_neg d]; exact ih h2 hb
theorem ofv_fold : ∀ (l G : List S50), Str G → (∀ q, (ofv G q).natAbs + mass l ≤ 1000000000) → ∀ q, ofv (l.foldl (fun a x => ins x a) G) q = ofv G q + cnt l q := by
 intro l
 induction l with
 | nil => intro G _ _ q; simp [cnt]
 | cons x l ih =>
  intro G hs hb q
  have hx := hb x
  simp only [mass] at hx hb
  have o : ∀ q, ofv (ins x G) q = ofv G q + if ke x q then x.f2 else 0 := fun q => ofv_ins q hs (by omega)
  rw [List.foldl_cons, ih (ins x G) (ins_str hs) (fun q => by rw [o q]; have := hb q; split <;> omega) q, o q, cnt]
  omega
theorem ofv_tot {l : List S50} (h : mass l ≤ 1000000000) (q : S50) : ofv (tot l) q = cnt l q := by
 have := ofv_fold l [] List.Pairwise.nil (fun q => by rw [ofv_nil]; simpa using h) q
 rw [ofv_nil] at this
 unfold tot
 omega
theorem ofv_self {X : List S50} (hs : Str X) {y : S50} (hy : y ∈ X) : ofv X y = y.f2 := by
 have := ofv_of_mem hs hy y.f2
 exact this
theorem small_good {l : List S50} (h : mass l ≤ 1000000000) : good (tot l) = true := by
 unfold good
 rw [List.all_eq_true]
 intro y hy
 have e := ofv_self (tot_str l) hy
 rw [ofv_tot h] at e
 have := cnt_mass l y
 exact decide_eq_true (by unfold wi; omega)
def K (l : List S50) : List S50 := fin (tot l)
theorem ofv_fin {G : List S50} (hs : Str G) (q : S50) : ofv (fin G) q = ofv G q := by
 induction G with
 | nil => rfl
 | cons y G ih =>
  obtain ⟨h1, h2⟩ := List.pairwise_cons.1 hs
  by_cases z : y.f2 = 0
  ·have e : fin (y :: G) = fin G := by simp [fin, z]
   rw [e, ih h2, ofv_cons]
   by_cases c : ke y q
   ·rw [if_pos c, z]
    exact ofv_none (fun w hw => by have := h1 w hw; unfold kl ke at *; omega)
   ·rw [if_neg c]
  ·have e : fin (y :: G) = y :: fin G := by simp [fin, z]
   rw [e, ofv_cons, ofv_cons, ih h2]
theorem ofv_K {l : List S50} (h : mass l ≤ 1000000000) (q : S50) : ofv (K l) q = cnt l q := by unfold K; rw [ofv_fin (tot_str l), ofv_tot h]
theorem cnt_str {A : List S50} (hs : Str A) (q : S50) : cnt A q = ofv A q := by
 induction A with
 | nil => rfl
 | cons y A ih =>
  obtain ⟨h1, h2⟩ := List.pairwise_cons.1 hs
  rw [cnt, ofv_cons, ih h2]
  by_cases c : ke y q
  ·rw [if_pos c, if_pos c, ofv_none (fun w hw => by have := h1 w hw; unfold kl ke at *; omega)]; omega
  ·rw [if_neg c, if_neg c]; omega
theorem wrap_abs (z : Int) : (wrap64 z).natAbs ≤ z.natAbs := by unfold wrap64; omega
theorem mass_ins (x : S50) : ∀ G : List S50, mass (ins x G) ≤ x.f2.natAbs + mass G := by
 intro G
 induction G with
 | nil => simp [ins, mass]
 | cons y G ih =>
  simp only [ins]
  split
  ·have := wrap_abs (y.f2 + x.f2); simp only [mass, plus]; omega
  ·split
   ·simp only [mass]; omega
   ·simp only [mass]; omega
theorem mass_fold : ∀ (l G : List S50), mass (l.foldl (fun a x => ins x a) G) ≤ mass G + mass l := by
 intro l
 induction l with
 | nil => intro G; simp [mass]
 | cons x l ih => intro G; have := ih (ins x G); have := mass_ins x G; simp only [List.foldl_cons, mass]; omega
theorem mass_fin : ∀ G : List S50, mass (fin G) ≤ mass G := by
 intro G
 induction G with
 | nil => exact Nat.le_refl _
 | cons y G ih =>
  rw [fin_cons, mass_append]
  have : mass (fin [y]) ≤ y.f2.natAbs := by simp only [fin, List.filter_cons]; split <;> simp [mass]
  simp only [mass]; omega
theorem mass_K (l : List S50) : mass (K l) ≤ mass l := by
 have h1 := mass_fin (tot l)
 have h2 := mass_fold l []
 simp only [mass, Nat.zero_add] at h2
 unfold K tot at *
 omega
theorem K_len (l : List S50) : (K l).length ≤ l.length := by have h1 := fin_len (tot l); have h2 := tot_len l; unfold K; omega
theorem sumv_K {l : List S50} (h : mass l ≤ 1000000000) : sumv l = (K l, 0) := by unfold sumv K; rw [if_pos (small_good h)]
theorem sumk_K {l : List S50} (h : mass l ≤ 1000000000) : sumk l = K l := by unfold sumk K; rw [if_pos (small_good h)]
theorem mass_mem {l : List S50} {x : S50} (h : x ∈ l) : x.f2.natAbs ≤ mass l := by
 induction l with
 | nil => cases h
 | cons y l ih => simp only [mass]; rcases List.mem_cons.1 h with rfl | h; omega; have := ih h; omega
def bel (A B : List S50) : Bool := B.any (fun x => decide (wrap64 (ofv A ⟨x.f0, x.f1, 0⟩ + x.f2) < 0))
theorem applyv_small {A B : List S50} (hm : mass (A ++ B) ≤ 1000000000) : applyv A B = if bel A B = true then ([], 11) else (K (A ++ B), 0) := by
 unfold applyv bel
 rw [sumv_K hm]
theorem mass_le {B : Nat} : ∀ {l : List S50}, (∀ x ∈ l, x.f2.natAbs ≤ B) → mass l ≤ B * l.length := by
 intro l
 induction l with
 | nil => intro _; simp [mass]
 | cons x l ih =>
  intro h
  have h1 := h x (by simp)
  have h2 := ih (fun y hy => h y (by simp [hy]))
  simp only [mass, List.length_cons, Nat.mul_add, Nat.mul_one]
  omega
theorem fix1_abs (x : S40) : (fix1 x).f2.natAbs ≤ 999 := by
 show (Int.tmod x.f2 1000).natAbs ≤ 999
 rw [Int.natAbs_tmod]
 have := Nat.mod_lt x.f2.natAbs (show 0 < (1000 : Int).natAbs by decide)
 have e : (1000 : Int).natAbs = 1000 := rfl
 omega
structure Sm (A : List S50) (n : Nat) : Prop where
 rt : Rt A
 len : A.length ≤ n
 ms : mass A ≤ 1000 * n
theorem fix4_sm {X : List S40} (h : ∀ y ∈ X, wfC y) : Sm (sumk (((X.take 12).map fix4).map fix1)) 12 := by
 have lm : (((X.take 12).map fix4).map fix1).length ≤ 12 := by rw [List.length_map, List.length_map, List.length_take]; omega
 have m : mass (((X.take 12).map fix4).map fix1) ≤ 12000 := by
  have := mass_le (B := 999) (l := ((X.take 12).map fix4).map fix1) (fun x hx => by obtain ⟨y, _, rfl⟩ := List.mem_map.1 hx; exact fix1_abs y)
  omega
 refine ⟨fix4_rt h, fix4_len X, ?_⟩
 rw [sumk_K (by omega)]; have := mass_K (((X.take 12).map fix4).map fix1); omega
theorem mass_two {A B : List S50} {n m : Nat} (hA : Sm A n) (hB : Sm B m) (hn : n + m ≤ 1000) : mass (A ++ B) ≤ 1000000000 := by rw [mass_append]; have := hA.ms; have := hB.ms; omega
theorem ap_ev {A B : List S50} (ha : Str A) (hl : A.length + B.length ≤ 1000000) : Ev (fun k => bag_Apply.f k A B) (applyv A B) := apply_ev ha (sorts_all _ (by simp only [List.length_append]; omega)) (by unfold Short; omega)
def Pos (A : List S50) : Prop := ∀ x ∈ A, 1 ≤ x.f2
theorem ofv_small {A : List S50} (hs : Str A) (q : S50) : (ofv A q).natAbs ≤ mass A := by rw [← cnt_str hs]; exact cnt_mass _ _
theorem bel_of {A B : List S50} (hs : Str A) (hm : mass (A ++ B) ≤ 1000000000) (h : ∀ x ∈ B, 0 ≤ ofv A x + x.f2) : bel A B = false := by
 refine List.any_eq_false.2 fun x hx => ?_
 have e : ofv A ⟨x.f0, x.f1, 0⟩ = ofv A x := ofv_key ⟨rfl, rfl⟩ A
 have h0 := h x hx
 have h1 := ofv_small hs x
 have h2 := mass_mem hx
 rw [mass_append] at hm
 rw [e]
 simp only [decide_eq_true_eq]
 unfold wrap64
 omega
theorem fix1_f1 {x : S40} (h : wfC x) : (fix1 x).f1 < 18446744073709551615 := by
 obtain ⟨_, ⟨a, b⟩, _⟩ := h
 exact Int.tmod_lt_of_pos _ (by omega)
theorem sumk_f1 {l : List S50} (h : ∀ x ∈ l, x.f1 < 18446744073709551615) : ∀ x ∈ sumk l, x.f1 < 18446744073709551615 := by
 intro x hx
 unfold sumk at hx; split at hx
 ·obtain ⟨hm, _⟩ := List.mem_filter.1 hx
  obtain ⟨y, hy, ek⟩ := tot_mem hm
  rw [ek.2]; exact h y hy
 ·cases hx
theorem fix4_f1 {X : List S40} (h : ∀ y ∈ X, wfC y) : ∀ x ∈ sumk (((X.take 12).map fix4).map fix1), x.f1 < 18446744073709551615 := sumk_f1 (fun x hx => by
 obtain ⟨y, hy, rfl⟩ := List.mem_map.1 hx
 obtain ⟨w, hw, rfl⟩ := List.mem_map.1 hy
 exact fix1_f1 (fix4_wf (h w (List.mem_of_mem_take hw))))
open FW
theorem fix4_in {X : List S40} (h : ∀ y ∈ X, wfC y) : ∀ x ∈ sumk (((X.take 12).map fix4).map fix1), In x.f1 := by
  intro x hx
  refine ⟨?_, by have := fix4_f1 h x hx; unfold N; omega⟩
  unfold sumk at hx; split at hx
  · obtain ⟨hm, _⟩ := List.mem_filter.1 hx
    obtain ⟨y, hy, ek⟩ := tot_mem hm
    rw [ek.2]
    obtain ⟨z, hz, rfl⟩ := List.mem_map.1 hy
    obtain ⟨w, hw, rfl⟩ := List.mem_map.1 hz
    exact Int.tmod_nonneg _ (h w (List.mem_of_mem_take hw)).2.1.1
  · cases hx
theorem fr_mem (b : List S50) (W : Mat) (c : Nat) : ∀ f, fr b W f c = N ∨ ∃ g, g < f ∧ fr b W f c = pl (leastv (g : Int) b) (W g c)
  | 0 => Or.inl rfl
  | f + 1 => by
    show min _ _ = N ∨ _
    rcases Int.le_total (fr b W f c) (pl (leastv (f : Int) b) (W f c)) with q | q
    · rcases fr_mem b W c f with h | ⟨g, h1, h2⟩
      · left; omega
      · right; refine ⟨g, by omega, ?_⟩; show min _ _ = _; omega
    · right; refine ⟨f, by omega, ?_⟩; show min _ _ = _; omega
theorem fr_tri {n : Nat} {E : List Ed} (hE : EOk n E) {b : List S50} (hb : ∀ x ∈ b, In x.f1) {i j : Nat} (hi : i < n) (hj : j < n) : fr b (wk E n) n j ≤ pl (fr b (wk E n) n i) (wk E n i j) := by
  have G := good_wk hE n (Nat.le_refl n)
  obtain ⟨h0, h1⟩ := (le_fr b (wk E n) _ j n).1 (Int.le_refl _)
  rcases fr_mem b (wk E n) i n with e | ⟨g, hg, e⟩
  · rw [e]
    exact Int.le_trans h0 (le_pl in_N (G.inn i j hi hj))
  · rw [e, pl_assoc (leastm_in hb _) (G.inn g i hg hi) (G.inn i j hi hj)]
    exact Int.le_trans (h1 g hg) (pl_mono (Int.le_refl _) (wk_tri hE n (Nat.le_refl n) i g j hi hg hj))
theorem fr_self {n : Nat} {E : List Ed} (hE : EOk n E) {b : List S50} (hb : ∀ x ∈ b, In x.f1) {i : Nat} (hi : i < n) : fr b (wk E n) n i ≤ leastv (i : Int) b := by
  have G := good_wk hE n (Nat.le_refl n)
  have := ((le_fr b (wk E n) _ i n).1 (Int.le_refl _)).2 i hi
  rwa [G.diag i hi, pl_zero (leastm_in hb _)] at this
theorem fr_anti {a b : List S50} (h : ∀ p : Int, leastv p b ≤ leastv p a) (W : Mat) (c : Nat) : ∀ f, fr b W f c ≤ fr a W f c
  | 0 => Int.le_refl _
  | f + 1 => by
    have h1 := fr_anti h W c f
    have h2 := pl_mono (h (f : Int)) (Int.le_refl (W f c))
    show min _ _ ≤ min _ _
    omega
theorem cnt_pos' : ∀ {B : List S50}, Pos B → ∀ q, 0 ≤ cnt B q
  | [], _, q => Int.le_refl _
  | x :: B, h, q => by
    have h1 := cnt_pos' (fun y hy => h y (List.mem_cons_of_mem _ hy) : Pos B) q
    have h2 := h x List.mem_cons_self
    simp only [cnt]; split <;> omega
theorem K_str' (l : List S50) : Str (K l) := (tot_str l).sublist List.filter_sublist
theorem least_anti {A B : List S50} (hs : Str A) (hA : Pos A) (hB : Pos B) (hm : mass (A ++ B) ≤ 1000000000) (hi : ∀ x ∈ K (A ++ B), In x.f1) (p : Int) : leastv p (K (A ++ B)) ≤ leastv p A := by
  rcases leastm_mem p A with e | ⟨x, hx, e0, e1⟩
  · rw [e]; exact (leastm_in hi p).2
  · have h1 : ofv (K (A ++ B)) x ≠ 0 := by
      rw [ofv_K hm, cnt_append, cnt_str hs, ofv_self hs hx]
      have := hA x hx
      have := cnt_pos' hB x
      omega
    obtain ⟨y, hy, k, _⟩ := ofv_mem h1
    rw [e1, ← k.2]
    exact leastm_le (K_str' _) y hy (k.1.trans e0)
section
variable {n : Nat} {E0 : List Ed} {a m : List S50} {E : List S90} {I : List Int}
theorem sinks_l1 (hn : n ≤ 1000) (hE : EOk n E0) (ha : ∀ x ∈ a, In x.f1) {i : Nat} (hi : i < n) (h : Ev (fun k => marchlandlaw06_FrontSinks.l0 k (a.map v) (mat n (wk E0 n)) (Ls n (fr a (wk E0 n) n)) (Ls n (fr m (wk E0 n) n)) ((i + 1 : Nat) : Int) (n : Int) E I) true) :
    ∀ d j : Nat, j + d = n → Ev (fun k => marchlandlaw06_FrontSinks.l1 k (a.map v) (mat n (wk E0 n)) (Ls n (fr a (wk E0 n) n)) (Ls n (fr m (wk E0 n) n)) (i : Int) (j : Int) (n : Int) E I) true
  | 0, j, hj => by
    refine Ev.s (fun k => ?_) h
    show marchlandlaw06_FrontSinks.l1 (k + 1) _ _ _ _ _ _ _ _ _ = _
    rw [marchlandlaw06_FrontSinks.l1, if_neg (by omega), w64 (by omega)]
  | d + 1, j, hj => by
    have hjn : j < n := by omega
    have G := good_wk hE n (Nat.le_refl n)
    have ht := fr_tri hE ha hi hjn
    refine Ev.s (fun k => ?_) (sinks_l1 hn hE ha hi h d (j + 1) (by omega))
    show marchlandlaw06_FrontSinks.l1 (k + 1) _ _ _ _ _ _ _ _ _ = _
    rw [marchlandlaw06_FrontSinks.l1, if_pos (by omega), if_pos (by omega), ls_len, if_pos (by omega), if_pos (by omega), if_pos (by omega), mat_len, if_pos (by omega), mat_row n _ hi, ls_len, if_pos (by omega), ls_rd n _ hi, ls_rd n _ hjn, plus1_eq (fr_in ha G.inn hi n (Nat.le_refl n)) (G.inn i j hi hjn), Option.bind_some, ls_rd n _ hjn, if_neg (by omega), w64 (by omega)]
theorem sinks_l0 (hn : n ≤ 1000) (hE : EOk n E0) (ha : ∀ x ∈ a, In x.f1) (hl : a.length ≤ 1000000) (hm : ∀ p : Int, leastv p m ≤ leastv p a) : ∀ d i : Nat, i + d = n → Ev (fun k => marchlandlaw06_FrontSinks.l0 k (a.map v) (mat n (wk E0 n)) (Ls n (fr a (wk E0 n) n)) (Ls n (fr m (wk E0 n) n)) (i : Int) (n : Int) E I) true
  | 0, i, hi => by
    refine Ev.o (fun k => ?_)
    show marchlandlaw06_FrontSinks.l0 (k + 1) _ _ _ _ _ _ _ _ = _
    rw [marchlandlaw06_FrontSinks.l0, if_neg (by omega)]
  | d + 1, i, hi => by
    have hin : i < n := by omega
    have h1 := fr_anti hm (wk E0 n) i n
    have h2 := fr_self hE ha hin
    obtain ⟨K1, g1⟩ := sinks_l1 (m := m) (E := E) (I := I) hn hE ha hin (sinks_l0 hn hE ha hl hm d (i + 1) (by omega)) n 0 (by omega)
    obtain ⟨K2, g2⟩ := to_ev a (by unfold Short; omega)
    obtain ⟨K3, g3⟩ := least_ev a (by omega) (i : Int)
    refine ⟨K1 + K2 + K3 + 2, fun k hk => ?_⟩
    obtain ⟨k, rfl⟩ : ∃ q, k = q + 2 := ⟨k - 2, by omega⟩
    have g1 := g1 k (by omega); have g2 := g2 (k + 1) (by omega); have g3 := g3 (k + 1) (by omega); dsimp only at g1 g2 g3
    show marchlandlaw06_FrontSinks.l0 (k + 2) _ _ _ _ _ _ _ _ = _
    rw [marchlandlaw06_FrontSinks.l0, if_pos (by omega), if_pos (by omega), ls_len, if_pos (by omega), ls_len, if_pos (by omega), ls_rd n _ hin, ls_rd n _ hin, if_neg (by omega), g2, Option.bind_some, g3, Option.bind_some, if_neg (by omega), mat_len, if_pos (by omega), mat_row n _ hin, ls_len, bne_self_eq_false, marchlandlaw06_FrontSinks.j2, if_neg (by decide)]
    exact g1
end
theorem FrontSinks : ∀ a0 : Int, ∀ l1 : List S90, (∀ y ∈ l1, 0 ≤ y.f2 ∧ y.f2 ≤ 18446744073709551615) → ∀ l2 : List Int, ∀ l3 : List S40, (∀ y ∈ l3, wfC y) → ∀ l4 : List S40, (∀ y ∈ l4, wfC y) → ∃ k, marchlandlaw06_FrontSinks.f k a0 l1 l2 l3 l4 = some true := by
  intro a0 l1 q1 l2 l3 q3 l4 q4
  obtain ⟨n, E, I, hn, hE, hl, hI, hI0, hI8, K1, h1⟩ := fix5_ev a0 l1 l2 (fun x hx => q1 x hx)
  obtain ⟨K2, h2⟩ := fix4_ev l3
  obtain ⟨K3, h3⟩ := fix4_ev l4
  have sa := fix4_sm q3
  have sb := fix4_sm q4
  have ia := fix4_in q3
  have ib := fix4_in q4
  have pa : Pos (sumk (((l3.take 12).map fix4).map fix1)) := fun x hx => (fix4_pos l3 x hx).1
  have pb : Pos (sumk (((l4.take 12).map fix4).map fix1)) := fun x hx => (fix4_pos l4 x hx).1
  generalize sumk (((l3.take 12).map fix4).map fix1) = a at h2 sa ia pa
  generalize sumk (((l4.take 12).map fix4).map fix1) = b at h3 sb ib pb
  have la := sa.len; have lb := sb.len
  have hs : Str a := sa.rt.1
  have hm : mass (a ++ b) ≤ 1000000000 := mass_two sa sb (by omega)
  have hb : bel a b = false := bel_of hs hm (fun x hx => by
    have h1 := pb x hx
    have h2 : 0 ≤ ofv a x := by rw [← cnt_str hs]; exact cnt_pos' pa x
    omega)
  have hv : applyv a b = (K (a ++ b), 0) := by rw [applyv_small hm, hb]; rfl
  have ik : ∀ x ∈ K (a ++ b), In x.f1 := fun x hx => by
    unfold K at hx
    obtain ⟨hm, _⟩ := List.mem_filter.1 hx
    obtain ⟨y, hy, ek⟩ := tot_mem hm
    rw [ek.2]
    rcases List.mem_append.1 hy with h | h
    · exact ia y h
    · exact ib y h
  have lk := K_len (a ++ b)
  rw [List.length_append] at lk
  have G := good_wk (we9_ok hE.ok) n (Nat.le_refl n)
  obtain ⟨K4, h4⟩ := to5_ev (n := n) (E := E) (I := I) (by omega) (by omega)
  obtain ⟨K5, h5⟩ := paths_ev hn hE hl hI hI0 hI8
  obtain ⟨K6, h6⟩ := to_ev a (by unfold Short; omega)
  obtain ⟨K7, h7⟩ := to_ev b (by unfold Short; omega)
  obtain ⟨K8, h8⟩ := ap_ev (A := a) (B := b) hs (by omega)
  rw [hv] at h8
  obtain ⟨K9, h9⟩ := of6_ev (n := n) (W := wk (E.map ed9) n) (b := a) (by omega) ia (by omega) G.inn
  obtain ⟨K10, h10⟩ := of6_ev (n := n) (W := wk (E.map ed9) n) (b := K (a ++ b)) (by omega) ik (by omega) G.inn
  obtain ⟨K11, h11⟩ := sinks_l0 (n := n) (E0 := E.map ed9) (a := a) (m := K (a ++ b)) (E := E) (I := I) (by omega) (we9_ok hE.ok) ia (by omega) (least_anti hs pa pb hm ik) n 0 (by omega)
  let j := K1 + K2 + K3 + K4 + K5 + K6 + K7 + K8 + K9 + K10 + K11
  refine ⟨j + 1, ?_⟩
  have h1 := h1 (j + 1) (by omega); have h2 := h2 (j + 1) (by omega); have h3 := h3 (j + 1) (by omega); have h4 := h4 (j + 1) (by omega); have h5 := h5 (j + 1) (by omega); have h6 := h6 (j + 1) (by omega); have h7 := h7 (j + 1) (by omega); have h8 := h8 (j + 1) (by omega); have h9 := h9 (j + 1) (by omega); have h10 := h10 (j + 1) (by omega); have h11 := h11 j (by omega)
  dsimp only at h1 h2 h3 h4 h5 h6 h7 h8 h9 h10 h11
  have ht : marchlandlaw06_told.f = some true := rfl
  rw [marchlandlaw06_FrontSinks.f, h1, Option.bind_some, h2, Option.bind_some, h3, Option.bind_some, h4, Option.bind_some, h5, Option.bind_some, h6, Option.bind_some, h7, Option.bind_some, h8, Option.bind_some, Option.bind_some, h9, Option.bind_some, h10, Option.bind_some, ht, Option.bind_some, if_pos rfl, if_pos rfl, ls_len, if_pos rfl, ls_len, if_pos rfl, mat_len, bne_self_eq_false, marchlandlaw06_FrontSinks.j0, if_neg (by decide)]
  exact h11
end Go.Proofs.Ytgeldmhgbnamcaa.Pure
end
