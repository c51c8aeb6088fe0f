/- Walks and laws of several statements of this seat, joined into one text; no condition. -/
import Derived.Test.YtgeldmhgbnamcaaDoorProg
import Derived.Below
import Derived.Deep.Draws
import Derived.Deep.AppendLies
import Derived.Maps.AppendAt
import Derived.OwnWalk
import Derived.Laws.BytesArg
import Derived.Laws.MakeOwn
import Derived.Laws.OwnMore
import Derived.Deep.OwnRows
import Derived.Tactics
import Derived.Lib.ConvBytes
import Derived.Laws.Slices
import Derived.WalkKit
import Derived.KernelRfl
import Derived.RowKit3
import Derived.Deep.LoopGhost
import Derived.Deep.QuietTactic
import Derived.BigQuiet
import Derived.WideLaws
import Derived.Deep.DeepCutAuto
import Derived.Deep.CutBlock
import Derived.Deep.RegionHeld3
import Derived.Laws.Rows
import Derived.Lib.AppendStr
import Derived.ArgAppend
import Derived.Laws.IdiomCopy
import Derived.OrdersHeld
import Derived.Laws.BitsLemmas
import Derived.RowKit
import Derived.Laws.StructEq
import Derived.Laws.CopyOwn
import Derived.Deep.RegionLaw
import Derived.LoopTactic
import Derived.Outline
import Derived.IntWalk
import Derived.LaidEql
import Derived.Stop.Asserts
import Derived.RowKitTokens
import Derived.Elder7
import Derived.Test.YtgeldmhgbnamcaaDoorGPa0
import Derived.Test.YtgeldmhgbnamcaaDoorGPa1
import Derived.Test.YtgeldmhgbnamcaaDoorGPa3
import Derived.Test.YtgeldmhgbnamcaaDoorGPa2
import Derived.Test.YtgeldmhgbnamcaaDoorGPa4
section
set_option linter.unusedVariables false
namespace Go.Proofs.YtgeldmhgbnamcaaDoor.Pure.FW
def N : Int := 18446744073709551615
def pl (t s : Int) : Int := if N ≤ t + s then N else t + s
def In (x : Int) : Prop := 0 ≤ x ∧ x ≤ N
theorem pl_in {a b : Int} (ha : In a) (hb : In b) : In (pl a b) := by unfold In pl N at *; split <;> omega
theorem pl_zero {a : Int} (ha : In a) : pl a 0 = a := by unfold In pl N at *; split <;> omega
theorem zero_pl {a : Int} (ha : In a) : pl 0 a = a := by unfold In pl N at *; split <;> omega
theorem pl_mono {a b c d : Int} (h : a ≤ b) (h' : c ≤ d) : pl a c ≤ pl b d := by unfold pl N; split <;> split <;> omega
theorem pl_assoc {a b c : Int} (ha : In a) (hb : In b) (hc : In c) : pl (pl a b) c = pl a (pl b c) := by unfold In pl N at *; repeat' split <;> omega
theorem le_pl {a b : Int} (ha : In a) (hb : In b) : a ≤ pl a b := by unfold In pl N at *; split <;> omega
theorem le_pl' {a b : Int} (ha : In a) (hb : In b) : b ≤ pl a b := by unfold In pl N at *; split <;> omega
theorem in_zero : In 0 := by unfold In N; omega
theorem in_N : In N := by unfold In N; omega
structure Ed where
 f : Nat
 t : Nat
 a : Int
def EOk (n : Nat) (E : List Ed) : Prop := ∀ e ∈ E, e.f < n ∧ e.t < n ∧ In e.a
def D0 (i j : Nat) : Int := if i = j then 0 else N
theorem d0_in (i j : Nat) : In (D0 i j) := by unfold D0; split; exact in_zero; exact in_N
structure Pot (n : Nat) (E : List Ed) (y : Nat → Int) : Prop where
 inn : ∀ v, v < n → In (y v)
 edge : ∀ e ∈ E, y e.t ≤ pl (y e.f) e.a
abbrev Mat := Nat → Nat → Int
def addE (M : Mat) (e : Ed) : Mat := fun i j => if e.f ≠ e.t ∧ i = e.f ∧ j = e.t then min (M i j) e.a else M i j
def fw (M : Mat) (k : Nat) : Mat := fun i j => min (M i j) (pl (M i k) (M k j))
def wk (E : List Ed) : Nat → Mat
 | 0 => E.foldl addE D0
 | k + 1 => fw (wk E k) k
structure Good (n : Nat) (E : List Ed) (M : Mat) : Prop where
 inn : ∀ i j, i < n → j < n → In (M i j)
 diag : ∀ i, i < n → M i i = 0
 pot : ∀ y, Pot n E y → ∀ i j, i < n → j < n → y j ≤ pl (y i) (M i j)
theorem good_d0 (n : Nat) (E : List Ed) : Good n E D0 := by
 refine ⟨fun i j _ _ => d0_in i j, fun i _ => by simp [D0], fun y hy i j hi hj => ?_⟩
 unfold D0
 by_cases c : i = j
 ·subst c; rw [if_pos rfl, pl_zero (hy.inn i hi)]; exact Int.le_refl _
 ·rw [if_neg c]
  have := hy.inn i hi; have := hy.inn j hj
  exact Int.le_trans (hy.inn j hj).2 (le_pl' (hy.inn i hi) in_N)
theorem good_addE {n : Nat} {E : List Ed} (hE : EOk n E) {M : Mat} (h : Good n E M) {e : Ed} (he : e ∈ E) : Good n E (addE M e) := by
 obtain ⟨e1, e2, e3⟩ := hE e he
 refine ⟨fun i j hi hj => ?_, fun i hi => ?_, fun y hy i j hi hj => ?_⟩
 ·unfold addE; have := h.inn i j hi hj; unfold In at *; split <;> omega
 ·unfold addE; rw [if_neg (by rintro ⟨a, b, c⟩; exact a (b.symm.trans c))]; exact h.diag i hi
 ·unfold addE
  have h1 := h.pot y hy i j hi hj
  split
  next c =>
   obtain ⟨_, rfl, rfl⟩ := c
   have h2 := hy.edge e he
   rcases Int.le_total (M e.f e.t) e.a with q | q
   ·rw [Int.min_eq_left q]; exact h1
   ·rw [Int.min_eq_right q]; exact h2
  next c => exact h1
theorem good_foldE {n : Nat} {E : List Ed} (hE : EOk n E) : ∀ (F : List Ed), (∀ e ∈ F, e ∈ E) → ∀ M, Good n E M → Good n E (F.foldl addE M)
 | [], _, M, h => h
 | e :: F, hF, M, h => good_foldE hE F (fun x hx => hF x (List.mem_cons_of_mem _ hx)) _ (good_addE hE h (hF e List.mem_cons_self))
theorem addE_le (M : Mat) (e : Ed) (i j : Nat) : addE M e i j ≤ M i j := by unfold addE; split <;> omega
theorem foldE_le : ∀ (F : List Ed) (M : Mat) (i j : Nat), F.foldl addE M i j ≤ M i j
 | [], M, i, j => Int.le_refl _
 | e :: F, M, i, j => Int.le_trans (foldE_le F _ i j) (addE_le M e i j)
theorem foldE_edge : ∀ (F : List Ed) (M : Mat) (e : Ed), e ∈ F → e.f ≠ e.t → F.foldl addE M e.f e.t ≤ e.a
 | d :: F, M, e, h, hn => by
  rcases List.mem_cons.1 h with rfl | h
  ·refine Int.le_trans (foldE_le F _ _ _) ?_
   unfold addE; rw [if_pos ⟨hn, rfl, rfl⟩]; omega
  ·exact foldE_edge F _ e h hn
theorem good_fw {n : Nat} {E : List Ed} {M : Mat} (h : Good n E M) {k : Nat} (hk : k < n) : Good n E (fw M k) := by
 refine ⟨fun i j hi hj => ?_, fun i hi => ?_, fun y hy i j hi hj => ?_⟩
 ·unfold fw; have := h.inn i j hi hj; have := pl_in (h.inn i k hi hk) (h.inn k j hk hj); unfold In at *; omega
 ·unfold fw; rw [h.diag i hi]; have := pl_in (h.inn i k hi hk) (h.inn k i hk hi); unfold In at this; omega
 ·unfold fw
  have h1 := h.pot y hy i j hi hj
  have h2 := h.pot y hy i k hi hk
  have h3 := h.pot y hy k j hk hj
  have h4 : y j ≤ pl (y i) (pl (M i k) (M k j)) := by
   rw [← pl_assoc (hy.inn i hi) (h.inn i k hi hk) (h.inn k j hk hj)]
   exact Int.le_trans h3 (pl_mono h2 (Int.le_refl _))
  rcases Int.le_total (M i j) (pl (M i k) (M k j)) with q | q
  ·rw [Int.min_eq_left q]; exact h1
  ·rw [Int.min_eq_right q]; exact h4
theorem good_wk {n : Nat} {E : List Ed} (hE : EOk n E) : ∀ k, k ≤ n → Good n E (wk E k)
 | 0, _ => good_foldE hE E (fun _ h => h) _ (good_d0 n E)
 | k + 1, h => good_fw (good_wk hE k (by omega)) (by omega)
theorem wk_edge {n : Nat} {E : List Ed} (hE : EOk n E) : ∀ k, k ≤ n → ∀ e ∈ E, wk E k e.f e.t ≤ e.a
 | 0, h, e, he => by
  by_cases c : e.f = e.t
  ·have := (good_wk hE 0 h).diag e.f (hE e he).1
   rw [← c, this]; exact (hE e he).2.2.1
  ·exact foldE_edge E D0 e he c
 | k + 1, h, e, he => by
  have := wk_edge hE k (by omega) e he
  show fw (wk E k) k e.f e.t ≤ e.a
  unfold fw; omega
theorem wk_tri {n : Nat} {E : List Ed} (hE : EOk n E) : ∀ k, k ≤ n → ∀ q i j, q < k → i < n → j < n → wk E k i j ≤ pl (wk E k i q) (wk E k q j)
 | 0, _, q, _, _, h, _, _ => by omega
 | k + 1, hk, q, i, j, hq, hi, hj => by
  have G := good_wk hE k (by omega)
  have hkn : k < n := by omega
  have hqn : q < n := by omega
  have iik := G.inn i k hi hkn; have ikj := G.inn k j hkn hj; have iij := G.inn i j hi hj
  have iiq := G.inn i q hi hqn; have iqj := G.inn q j hqn hj; have ikq := G.inn k q hkn hqn; have iqk := G.inn q k hqn hkn
  show fw (wk E k) k i j ≤ pl (fw (wk E k) k i q) (fw (wk E k) k q j)
  by_cases c : q = k
  ·subst c
   have e1 : fw (wk E q) q i q = wk E q i q := by unfold fw; rw [G.diag q hqn, pl_zero iik]; omega
   have e2 : fw (wk E q) q q j = wk E q q j := by unfold fw; rw [G.diag q hqn, zero_pl ikj]; omega
   rw [e1, e2]; unfold fw; omega
  ·have hq' : q < k := by omega
   have T1 := wk_tri hE k (by omega) q i j hq' hi hj
   have T2 := wk_tri hE k (by omega) q k j hq' hkn hj
   have T3 := wk_tri hE k (by omega) q i k hq' hi hkn
   have L1 : fw (wk E k) k i j ≤ wk E k i j := by unfold fw; omega
   have L2 : fw (wk E k) k i j ≤ pl (wk E k i k) (wk E k k j) := by unfold fw; omega
   generalize fw (wk E k) k i j = R at L1 L2 ⊢
   unfold fw
   rcases Int.le_total (wk E k i q) (pl (wk E k i k) (wk E k k q)) with a | a <;> rcases Int.le_total (wk E k q j) (pl (wk E k q k) (wk E k k j)) with b | b
   ·rw [Int.min_eq_left a, Int.min_eq_left b]; exact Int.le_trans L1 T1
   ·rw [Int.min_eq_left a, Int.min_eq_right b, ← pl_assoc iiq iqk ikj]
    exact Int.le_trans L2 (pl_mono T3 (Int.le_refl _))
   ·rw [Int.min_eq_right a, Int.min_eq_left b, pl_assoc iik ikq iqj]
    exact Int.le_trans L2 (pl_mono (Int.le_refl _) T2)
   ·rw [Int.min_eq_right a, Int.min_eq_right b]
    refine Int.le_trans L2 (pl_mono (le_pl iik ikq) (le_pl' iqk ikj))
theorem ways_pot {n : Nat} {E : List Ed} (hE : EOk n E) {i : Nat} (hi : i < n) : Pot n E (wk E n i) := by
 have G := good_wk hE n (Nat.le_refl n)
 refine ⟨fun v hv => G.inn i v hi hv, fun e he => ?_⟩
 obtain ⟨h1, h2, h3⟩ := hE e he
 exact Int.le_trans (wk_tri hE n (Nat.le_refl n) e.f i e.t h1 hi h2) (pl_mono (Int.le_refl _) (wk_edge hE n (Nat.le_refl n) e he))
theorem ways_most {n : Nat} {E : List Ed} (hE : EOk n E) {i j : Nat} (hi : i < n) (hj : j < n) {y : Nat → Int} (hy : Pot n E y) (h0 : y i = 0) : y j ≤ wk E n i j := by
 have G := good_wk hE n (Nat.le_refl n)
 have := G.pot y hy i j hi hj
 rwa [h0, zero_pl (G.inn i j hi hj)] at this
theorem no_round {n : Nat} {E : List Ed} (hE : EOk n E) (hb : ∀ e ∈ E, e.t ≤ e.f → 1 ≤ e.a) {f t : Nat} (hf : f < n) (ht : t < n) (h : f < t) : wk E n t f ≠ 0 := by
 intro c
 let y : Nat → Int := fun v => if t ≤ v then 0 else 1
 have hy : Pot n E y := by
  refine ⟨fun v _ => ?_, fun e he => ?_⟩
  ·by_cases c : t ≤ v
   ·rw [show y v = 0 from if_pos c]; exact in_zero
   ·rw [show y v = 1 from if_neg c]; unfold In N; omega
  ·obtain ⟨h1, h2, h3⟩ := hE e he
   have hb := hb e he
   by_cases c1 : t ≤ e.t
   ·rw [show y e.t = 0 from if_pos c1]
    by_cases c2 : t ≤ e.f
    ·rw [show y e.f = 0 from if_pos c2, zero_pl h3]; exact h3.1
    ·rw [show y e.f = 1 from if_neg c2]; unfold In pl N at *; split <;> omega
   ·rw [show y e.t = 1 from if_neg c1]
    by_cases c2 : t ≤ e.f
    ·rw [show y e.f = 0 from if_pos c2, zero_pl h3]; exact hb (by omega)
    ·rw [show y e.f = 1 from if_neg c2]; unfold In pl N at *; split <;> omega
 have := ways_most hE ht hf hy (if_pos (Nat.le_refl t))
 rw [show y f = 1 from if_neg (by omega), c] at this
 omega
theorem last_edge {n : Nat} {E : List Ed} (hE : EOk n E) {i j : Nat} (hi : i < n) (hj : j < n) (hij : i ≠ j) (hN : wk E n i j ≠ N) : ∃ e ∈ E, e.t = j ∧ pl (wk E n i e.f) e.a = wk E n i j := by
 refine Classical.byContradiction fun c => ?_
 have P := ways_pot hE hi
 have hz := (good_wk hE n (Nat.le_refl n)).diag i hi
 let y : Nat → Int := fun v => if v = j then wk E n i j + 1 else wk E n i v
 have lo : ∀ v, wk E n i v ≤ y v := fun v => by
  by_cases c : v = j
  ·rw [show y v = wk E n i j + 1 from if_pos c, c]; omega
  ·rw [show y v = wk E n i v from if_neg c]; exact Int.le_refl _
 have hy : Pot n E y := by
  refine ⟨fun v hv => ?_, fun e he => ?_⟩
  ·by_cases c : v = j
   ·rw [show y v = wk E n i j + 1 from if_pos c]
    have := P.inn j hj; unfold In at *; omega
   ·rw [show y v = wk E n i v from if_neg c]; exact P.inn v hv
  ·have pe := P.edge e he
   by_cases c1 : e.t = j
   ·rw [show y e.t = wk E n i j + 1 from if_pos c1]
    have q : pl (wk E n i e.f) e.a ≠ wk E n i j := fun q => c ⟨e, he, c1, q⟩
    rw [c1] at pe
    have := pl_mono (lo e.f) (Int.le_refl e.a)
    omega
   ·rw [show y e.t = wk E n i e.t from if_neg c1]
    exact Int.le_trans pe (pl_mono (lo e.f) (Int.le_refl _))
 have := ways_most hE hi hj hy ((if_neg hij : y i = wk E n i i).trans hz)
 rw [show y j = wk E n i j + 1 from if_pos rfl] at this
 omega
end Go.Proofs.YtgeldmhgbnamcaaDoor.Pure.FW
end
section
namespace Go.Proofs.YtgeldmhgbnamcaaDoor.Pure
open Go.RowKit Go.Proofs.YtgeldmhgbnamcaaDoor.P Go.Proofs.YtgeldmhgbnamcaaDoorW.PrintWords Go.Proofs.YtgeldmhgbnamcaaDoorW.PrintLast Go.Proofs.YtgeldmhgbnamcaaDoorW.PrintMore
open FW
set_option linter.unusedVariables false
set_option linter.unusedSimpArgs false
theorem Ev.id {α : Type} {g f : Nat → Option α} {r : α} (k : Ev f r) (h : ∀ k, f k = g k) : Ev g r := Ev.congr (fun k => (h k).symm) k
def Ls {α : Type} (n : Nat) (g : Nat → α) : List α := (List.range n).map g
theorem ls_len {α : Type} (n : Nat) (g : Nat → α) : (Ls n g).length = n := by simp [Ls]
theorem ls_get {α : Type} (n : Nat) (g : Nat → α) (d : α) {i : Nat} (h : i < n) : (Ls n g).getD i d = g i := by
 simp [Ls, List.getD, h]
theorem ls_set {α : Type} (n : Nat) (g : Nat → α) (i : Nat) (x : α) : (Ls n g).set i x = Ls n (fun a => if a = i then x else g a) := by
 apply List.ext_getElem
 ·simp [Ls]
 ·intro j h1 h2
  simp only [Ls, List.getElem_set, List.getElem_map, List.getElem_range]
  by_cases c : i = j
  ·rw [if_pos c, if_pos c.symm]
  ·rw [if_neg c, if_neg (fun q => c q.symm)]
theorem ls_congr {α : Type} {n : Nat} {f g : Nat → α} (h : ∀ i, i < n → f i = g i) : Ls n f = Ls n g := by
 unfold Ls; exact List.map_congr_left fun i hi => h i (List.mem_range.1 hi)
theorem ls_rep {α : Type} (n : Nat) (x : α) : List.replicate n x = Ls n (fun _ => x) := by
 apply List.ext_getElem <;> simp [Ls]
theorem ls_snoc {α : Type} (n : Nat) (g : Nat → α) : Ls n g ++ [g n] = Ls (n + 1) g := by simp [Ls, List.range_succ]
theorem ls_rd (n : Nat) (g : Nat → Int) {i : Nat} (h : i < n) : rd (Ls n g) (i : Int) = g i := by unfold rd; rw [Int.toNat_natCast, ls_get n g 0 h]
theorem ls_rdL (n : Nat) (g : Nat → List Int) {i : Nat} (h : i < n) : rd_L5 (Ls n g) (i : Int) = g i := by unfold rd_L5; rw [Int.toNat_natCast, ls_get n g [] h]
def mat (n : Nat) (M : Mat) : List (List Int) := Ls n fun i => Ls n (M i)
theorem mat_len (n : Nat) (M : Mat) : (mat n M).length = n := ls_len n _
theorem mat_row (n : Nat) (M : Mat) {i : Nat} (h : i < n) : rd_L5 (mat n M) (i : Int) = Ls n (M i) := ls_rdL n _ h
theorem mat_congr {n : Nat} {M W : Mat} (h : ∀ i j, i < n → j < n → M i j = W i j) : mat n M = mat n W := ls_congr fun i hi => ls_congr fun j hj => h i j hi hj
def upd (M : Mat) (i j : Nat) (x : Int) : Mat := fun a b => if a = i ∧ b = j then x else M a b
theorem mat_set (n : Nat) (M : Mat) (i j : Nat) (x : Int) : (mat n M).set i ((Ls n (M i)).set j x) = mat n (upd M i j x) := by
 unfold mat
 rw [ls_set, ls_set]
 refine ls_congr fun a _ => ?_
 by_cases c : a = i
 ·rw [if_pos c]; refine ls_congr fun b _ => ?_
  unfold upd; subst c
  by_cases d : b = j
  ·rw [if_pos d, if_pos ⟨rfl, d⟩]
  ·rw [if_neg d, if_neg (fun q => d q.2)]
 ·rw [if_neg c]; refine ls_congr fun b _ => ?_
  unfold upd; rw [if_neg (fun q => c q.1)]
theorem mn_eq (a b : Int) : mn a b = min a b := by unfold mn; split <;> omega
theorem plus_eq {a b : Int} (ha : In a) (hb : In b) : stamp_Plus.f a b = some (pl a b) := by
 unfold In N at ha hb
 have e : IntKind.u64.wrap (18446744073709551615 - b) = 18446744073709551615 - b := by rw [IntKind.wrap_u64]; omega
 unfold stamp_Plus.f pl N
 rw [e]
 by_cases c : 18446744073709551615 ≤ a + b
 ·rw [if_pos (by omega), if_pos c]
 ·rw [if_neg (by omega), if_neg c, show IntKind.u64.wrap (a + b) = a + b by rw [IntKind.wrap_u64]; omega]
theorem w64 {n : Nat} (h : n < 1000000) : wrap64 ((n : Int) + 1) = ((n + 1 : Nat) : Int) := by unfold wrap64; omega
def ed (e : S127) : Ed := ⟨e.f0.toNat, e.f1.toNat, e.f2⟩
def WE (n : Nat) (E : List S127) : Prop := ∀ e ∈ E, 0 ≤ e.f0 ∧ e.f0 < n ∧ 0 ≤ e.f1 ∧ e.f1 < n ∧ In e.f2
theorem we_ok {n : Nat} {E : List S127} (h : WE n E) : EOk n (E.map ed) := by
 intro e he
 obtain ⟨x, hx, rfl⟩ := List.mem_map.1 he
 obtain ⟨h1, h2, h3, h4, h5⟩ := h x hx
 exact ⟨by show x.f0.toNat < n; omega, by show x.f1.toNat < n; omega, h5⟩
theorem rep_eq {n : Nat} (h : n ≤ 1000000) : slices_Repeat.f [18446744073709551615] (n : Int) = some (List.replicate n 18446744073709551615) := by
 unfold slices_Repeat.f
 rw [if_pos ⟨rfl, by omega, by omega⟩, Int.toNat_natCast]
 rfl
def St (M : Mat) (k i j : Nat) : Mat := fun a b => if a < i ∨ (a = i ∧ b < j) then fw M k a b else M a b
theorem st_next {n : Nat} {E : List Ed} {M : Mat} (G : FW.Good n E M) {k i j : Nat} (hk : k < n) (hi : i < n) (hj : j < n) :
  (mat n (St M k i j)).set i ((Ls n (St M k i j i)).set j (mn (St M k i j i j) (pl (St M k i j i k) (St M k i j k j)))) = mat n (St M k i (j + 1)) := by
 have e1 : fw M k i k = M i k := by unfold fw; rw [G.diag k hk, pl_zero (G.inn i k hi hk)]; omega
 have e2 : fw M k k j = M k j := by unfold fw; rw [G.diag k hk, zero_pl (G.inn k j hk hj)]; omega
 have a1 : St M k i j i j = M i j := by unfold St; rw [if_neg (by omega)]
 have a2 : St M k i j i k = M i k := by unfold St; split; exact e1; rfl
 have a3 : St M k i j k j = M k j := by unfold St; split; exact e2; rfl
 rw [a1, a2, a3, mn_eq, mat_set]
 refine mat_congr fun a b ha hb => ?_
 unfold upd
 by_cases c : a = i ∧ b = j
 ·obtain ⟨rfl, rfl⟩ := c
  rw [if_pos ⟨rfl, rfl⟩]; unfold St; rw [if_pos (by omega)]; rfl
 ·rw [if_neg c]; unfold St
  by_cases d : a < i ∨ a = i ∧ b < j
  ·rw [if_pos d, if_pos (by omega)]
  ·rw [if_neg d, if_neg (by omega)]
section
variable {n : Nat} {E : List S127} {I : List Int}
theorem ways_l4 {M : Mat} (G : FW.Good n (E.map ed) M) (hn : n ≤ 1000) {k i : Nat} (hk : k < n) (hi : i < n) (a : Int) (R : List (List Int)) (h : Ev (fun q => graph_Graph_ways.l3 q (mat n (St M k i n)) k (n : Int) a (n : Int) (wrap64 ((i : Int) + 1)) (n : Int) E I) R) :
  ∀ d j : Nat, j + d = n → Ev (fun q => graph_Graph_ways.l4 q (mat n (St M k i j)) k i (n : Int) a (n : Int) (i : Int) (n : Int) (j : Int) (n : Int) E I) R
 | 0, j, hj => by
  obtain rfl : j = n := by omega
  obtain ⟨K, h⟩ := h
  refine ⟨K + 1, fun q hq => ?_⟩
  obtain ⟨q, rfl⟩ : ∃ m, q = m + 1 := ⟨q - 1, by omega⟩
  show graph_Graph_ways.l4 (q + 1) _ _ _ _ _ _ _ _ _ _ _ _ = _
  rw [graph_Graph_ways.l4, if_neg (by omega)]
  exact h q (by omega)
 | d + 1, j, hj => by
  obtain ⟨K, h⟩ := ways_l4 G hn hk hi a R h d (j + 1) (by omega)
  have hjn : j < n := by omega
  refine ⟨K + 1, fun q hq => ?_⟩
  obtain ⟨q, rfl⟩ : ∃ m, q = m + 1 := ⟨q - 1, by omega⟩
  have h := h q (by omega)
  dsimp only at h
  have r1 := mat_row n (St M k i j) hi
  have r2 := mat_row n (St M k i j) hk
  have i1 : In (St M k i j i k) := by unfold St; split; exact (good_fw G hk).inn i k hi hk; exact G.inn i k hi hk
  have i2 : In (St M k i j k j) := by unfold St; split; exact (good_fw G hk).inn k j hk hjn; exact G.inn k j hk hjn
  show graph_Graph_ways.l4 (q + 1) _ _ _ _ _ _ _ _ _ _ _ _ = _
  rw [graph_Graph_ways.l4, if_pos (by omega), if_pos (by omega), mat_len, if_pos (by omega), if_pos (by omega), r1, ls_len, if_pos (by omega), if_pos (by omega), if_pos (by omega), if_pos (by omega), r2, ls_len, if_pos (by omega), ls_rd n _ hk, ls_rd n _ hjn, plus_eq i1 i2, Option.bind_some, ls_rd n _ hjn, Int.toNat_natCast, Int.toNat_natCast, st_next G hk hi hjn, w64 (by omega)]
  exact h
theorem ways_l3 {M : Mat} (G : FW.Good n (E.map ed) M) (hn : n ≤ 1000) {k : Nat} (hk : k < n) (a : Int) (R : List (List Int)) (h : Ev (fun q => graph_Graph_ways.l2 q (mat n (fw M k)) (n : Int) (wrap64 (a + 1)) (n : Int) E I) R) :
  ∀ d i : Nat, i + d = n → Ev (fun q => graph_Graph_ways.l3 q (mat n (St M k i 0)) k (n : Int) a (n : Int) (i : Int) (n : Int) E I) R
 | 0, i, hi => by
  obtain rfl : i = n := by omega
  have e : mat i (St M k i 0) = mat i (fw M k) := mat_congr fun x y hx hy => by unfold St; rw [if_pos (by omega)]
  obtain ⟨K, h⟩ := h
  refine ⟨K + 1, fun q hq => ?_⟩
  obtain ⟨q, rfl⟩ : ∃ m, q = m + 1 := ⟨q - 1, by omega⟩
  show graph_Graph_ways.l3 (q + 1) _ _ _ _ _ _ _ _ _ = _
  rw [graph_Graph_ways.l3, if_neg (by omega), e]
  exact h q (by omega)
 | d + 1, i, hi => by
  have hin : i < n := by omega
  have e : mat n (St M k i n) = mat n (St M k (i + 1) 0) := mat_congr fun x y hx hy => by
   unfold St
   by_cases c : x < i + 1
   ·rw [if_pos (by omega), if_pos (by omega)]
   ·rw [if_neg (by omega), if_neg (by omega)]
  have ih := ways_l3 G hn hk a R h d (i + 1) (by omega)
  rw [← e] at ih
  have h4 := ways_l4 G hn hk hin a R (by rw [w64 (by omega)]; exact ih) n 0 (by omega)
  obtain ⟨K, h4⟩ := h4
  refine ⟨K + 1, fun q hq => ?_⟩
  obtain ⟨q, rfl⟩ : ∃ m, q = m + 1 := ⟨q - 1, by omega⟩
  show graph_Graph_ways.l3 (q + 1) _ _ _ _ _ _ _ _ _ = _
  rw [graph_Graph_ways.l3, if_pos (by omega)]
  exact h4 q (by omega)
theorem ways_l2 (hE : WE n E) (hn : n ≤ 1000) : ∀ d k : Nat, k + d = n → Ev (fun q => graph_Graph_ways.l2 q (mat n (wk (E.map ed) k)) (n : Int) (k : Int) (n : Int) E I) (mat n (wk (E.map ed) n))
 | 0, k, hk => by
  obtain rfl : k = n := by omega
  refine ⟨1, fun q hq => ?_⟩
  obtain ⟨q, rfl⟩ : ∃ m, q = m + 1 := ⟨q - 1, by omega⟩
  show graph_Graph_ways.l2 (q + 1) _ _ _ _ _ _ = _
  rw [graph_Graph_ways.l2, if_neg (by omega)]
 | d + 1, k, hk => by
  have ih := ways_l2 hE hn d (k + 1) (by omega)
  have h3 := ways_l3 (good_wk (we_ok hE) k (by omega)) hn (show k < n by omega) (k : Int) _ (by rw [w64 (by omega)]; exact ih) n 0 (by omega)
  have e : mat n (St (wk (E.map ed) k) k 0 0) = mat n (wk (E.map ed) k) := mat_congr fun x y hx hy => by unfold St; rw [if_neg (by omega)]
  rw [e] at h3
  obtain ⟨K, h3⟩ := h3
  refine ⟨K + 1, fun q hq => ?_⟩
  obtain ⟨q, rfl⟩ : ∃ m, q = m + 1 := ⟨q - 1, by omega⟩
  show graph_Graph_ways.l2 (q + 1) _ _ _ _ _ _ = _
  rw [graph_Graph_ways.l2, if_pos (by omega)]
  exact h3 q (by omega)
theorem rd95 (p : List S127) (x : S127) (q : List S127) {i : Int} (h : i = p.length) : rd_T127 (p ++ x :: q) i = x := by subst h; simp [rd_T127]
theorem addE_set (n : Nat) (M : Mat) (x : S127) (h0 : 0 ≤ x.f0) (h1 : 0 ≤ x.f1) (hne : ¬ x.f0 = x.f1) : (mat n M).set x.f0.toNat ((Ls n (M x.f0.toNat)).set x.f1.toNat (mn (M x.f0.toNat x.f1.toNat) x.f2)) = mat n (addE M (ed x)) := by
 rw [mat_set, mn_eq]
 refine mat_congr fun a b _ _ => ?_
 unfold upd addE ed
 by_cases c : a = x.f0.toNat ∧ b = x.f1.toNat
 ·rw [if_pos c, if_pos ⟨by show x.f0.toNat ≠ x.f1.toNat; omega, c.1, c.2⟩, c.1, c.2]
 ·rw [if_neg c, if_neg (fun q => c q.2)]
theorem addE_self (M : Mat) (x : S127) (h : x.f0 = x.f1) : addE M (ed x) = M := by
 funext a b
 unfold addE ed
 rw [if_neg (by rintro ⟨q, _⟩; exact q (congrArg Int.toNat h))]
theorem ways_l1 (hE : WE n E) (hn : n ≤ 1000) (hl : E.length ≤ 1000) : ∀ (rest pre : List S127), E = pre ++ rest → Ev (fun q => graph_Graph_ways.l1 q (mat n ((pre.map ed).foldl addE D0)) E (E.length : Int) (pre.length : Int) (n : Int) E I) (mat n (wk (E.map ed) n))
 | [], pre, h => by
  rw [List.append_nil] at h
  subst h
  obtain ⟨K, h2⟩ := ways_l2 (I := I) hE hn n 0 (by omega)
  refine ⟨K + 1, fun q hq => ?_⟩
  obtain ⟨q, rfl⟩ : ∃ m, q = m + 1 := ⟨q - 1, by omega⟩
  show graph_Graph_ways.l1 (q + 1) _ _ _ _ _ _ _ = _
  rw [graph_Graph_ways.l1, if_neg (by omega)]
  exact h2 q (by omega)
 | x :: rest, pre, h => by
  have ih := ways_l1 hE hn hl rest (pre ++ [x]) (by rw [h]; simp)
  have hlen : pre.length + 1 ≤ E.length := by rw [h, List.length_append, List.length_cons]; omega
  obtain ⟨x0, x1, x2, x3, x4⟩ := hE x (by rw [h]; simp)
  have hr : rd_T127 E (pre.length : Int) = x := by rw [h]; exact rd95 pre x rest rfl
  rw [List.map_append, List.foldl_append] at ih
  simp only [List.map_cons, List.map_nil, List.foldl_cons, List.foldl_nil, List.length_append, List.length_cons, List.length_nil, Nat.zero_add] at ih
  obtain ⟨K, ih⟩ := ih
  generalize hM : (pre.map ed).foldl addE D0 = M at ih ⊢
  refine ⟨K + 1, fun q hq => ?_⟩
  obtain ⟨q, rfl⟩ : ∃ m, q = m + 1 := ⟨q - 1, by omega⟩
  have ih := ih q (by omega)
  dsimp only at ih
  have f0 : x.f0 = ((x.f0.toNat : Nat) : Int) := by omega
  have f1 : x.f1 = ((x.f1.toNat : Nat) : Int) := by omega
  have r1 : rd_L5 (mat n M) x.f0 = Ls n (M x.f0.toNat) := by rw [f0]; exact mat_row n M (by omega)
  have r2 : rd (Ls n (M x.f0.toNat)) x.f1 = M x.f0.toNat x.f1.toNat := by rw [f1]; exact ls_rd n _ (by omega)
  show graph_Graph_ways.l1 (q + 1) _ _ _ _ _ _ _ = _
  rw [graph_Graph_ways.l1, if_pos (by omega), if_pos (by omega), if_pos (by omega), hr]
  by_cases c : x.f0 = x.f1
  ·rw [if_pos c, w64 (by omega)]
   rw [addE_self M x c] at ih
   exact ih
  ·rw [if_neg c, if_pos x0, mat_len, if_pos x1, if_pos x2, r1, ls_len, if_pos x3, r2, addE_set n M x x0 x2 c, w64 (by omega)]
   exact ih
theorem ways_l0 (hE : WE n E) (hn : n ≤ 1000) (hl : E.length ≤ 1000) : ∀ d p : Nat, p + d = n → Ev (fun q => graph_Graph_ways.l0 q (Ls p fun i => Ls n (D0 i)) (n : Int) (p : Int) (n : Int) E I) (mat n (wk (E.map ed) n))
 | 0, p, hp => by
  obtain rfl : p = n := by omega
  obtain ⟨K, h⟩ := ways_l1 (I := I) hE hn hl E [] rfl
  refine ⟨K + 1, fun q hq => ?_⟩
  obtain ⟨q, rfl⟩ : ∃ m, q = m + 1 := ⟨q - 1, by omega⟩
  show graph_Graph_ways.l0 (q + 1) _ _ _ _ _ _ = _
  rw [graph_Graph_ways.l0, if_neg (by omega)]
  exact h q (by omega)
 | d + 1, p, hp => by
  obtain ⟨K, ih⟩ := ways_l0 hE hn hl d (p + 1) (by omega)
  refine ⟨K + 1, fun q hq => ?_⟩
  obtain ⟨q, rfl⟩ : ∃ m, q = m + 1 := ⟨q - 1, by omega⟩
  have ih := ih q (by omega)
  dsimp only at ih
  have e : (List.replicate n (18446744073709551615 : Int)).set p 0 = Ls n (D0 p) := by
   rw [ls_rep, ls_set]
   refine ls_congr fun a _ => ?_
   unfold D0 N
   by_cases c : a = p
   ·rw [if_pos c, if_pos c.symm]
   ·rw [if_neg c, if_neg (fun q => c q.symm)]
  show graph_Graph_ways.l0 (q + 1) _ _ _ _ _ _ = _
  rw [graph_Graph_ways.l0, if_pos (by omega), rep_eq (by omega), Option.bind_some, if_pos (by omega), List.length_replicate, if_pos (by omega), ls_len, if_pos (by omega), Int.toNat_natCast, e, ls_snoc p (fun i => Ls n (D0 i)), w64 (by omega)]
  exact ih
end
theorem ways_ev {n : Nat} {E : List S127} (I : List Int) (hE : WE n E) (hn : n ≤ 1000) (hl : E.length ≤ 1000) : Ev (fun q => graph_Graph_ways.f q (n : Int) E I) (mat n (wk (E.map ed) n)) := ways_l0 hE hn hl n 0 (by omega)
theorem plus1_eq {a b : Int} (ha : In a) (hb : In b) : marchlandref01_Plus.f a b = some (pl a b) := by
 unfold In N at ha hb
 have e : IntKind.u64.wrap (18446744073709551615 - a) = 18446744073709551615 - a := by rw [IntKind.wrap_u64]; omega
 unfold marchlandref01_Plus.f pl N
 rw [e]
 by_cases c : 18446744073709551615 ≤ a + b
 ·rw [if_pos (by omega), if_pos c]
 ·rw [if_neg (by omega), if_neg c, show IntKind.u64.wrap (a + b) = a + b by rw [IntKind.wrap_u64]; omega]
def ed9 (e : S75) : Ed := ⟨e.f0.toNat, e.f1.toNat, e.f2⟩
def WE9 (n : Nat) (E : List S75) : Prop := ∀ e ∈ E, 0 ≤ e.f0 ∧ e.f0 < n ∧ 0 ≤ e.f1 ∧ e.f1 < n ∧ In e.f2
theorem we9_ok {n : Nat} {E : List S75} (h : WE9 n E) : EOk n (E.map ed9) := by
 intro e he
 obtain ⟨x, hx, rfl⟩ := List.mem_map.1 he
 obtain ⟨h1, h2, h3, h4, h5⟩ := h x hx
 exact ⟨by show x.f0.toNat < n; omega, by show x.f1.toNat < n; omega, h5⟩
theorem rd90 (p : List S75) (x : S75) (q : List S75) {i : Int} (h : i = p.length) : rd_T75 (p ++ x :: q) i = x := by subst h; simp [rd_T75]
structure EGood (n : Nat) (E : List S75) : Prop where
 ok : WE9 n E
 back : ∀ e ∈ E, e.f1 ≤ e.f0 → 1 ≤ e.f2
structure IGood (n : Nat) (I : List Int) : Prop where
 ok : ∀ p ∈ I, 0 ≤ p ∧ p < n
 once : I.Nodup
theorem egood_snoc {n : Nat} {E : List S75} (h : EGood n E) {x : S75} (h0 : 0 ≤ x.f0 ∧ x.f0 < n ∧ 0 ≤ x.f1 ∧ x.f1 < n ∧ In x.f2) (h1 : x.f1 ≤ x.f0 → 1 ≤ x.f2) : EGood n (E ++ [x]) := by
 refine ⟨fun e he => ?_, fun e he => ?_⟩ <;> rcases List.mem_append.1 he with he | he
 ·exact h.ok e he
 ·rw [List.mem_singleton.1 he]; exact h0
 ·exact h.back e he
 ·rw [List.mem_singleton.1 he]; exact h1
theorem igood_snoc {n : Nat} {I : List Int} (h : IGood n I) {p : Int} (h0 : 0 ≤ p ∧ p < n) (h1 : p ∉ I) : IGood n (I ++ [p]) := by
 refine ⟨fun q hq => ?_, ?_⟩
 ·rcases List.mem_append.1 hq with hq | hq
  ·exact h.ok q hq
  ·rw [List.mem_singleton.1 hq]; exact h0
 ·rw [List.nodup_append]
  exact ⟨h.once, by simp, fun a ha b hb e => h1 (by rw [← List.mem_singleton.1 hb, ← e]; exact ha)⟩
theorem modn (p : Int) {n : Nat} (h : 1 ≤ n) (h6 : n ≤ 6) : IntKind.u64.wrap (n : Int) = (n : Int) ∧ 0 ≤ Int.tmod (IntKind.u64.wrap p) (n : Int) ∧ Int.tmod (IntKind.u64.wrap p) (n : Int) < n ∧ wrap64 (Int.tmod (IntKind.u64.wrap p) (n : Int)) = Int.tmod (IntKind.u64.wrap p) (n : Int) := by
 have hp : 0 ≤ IntKind.u64.wrap p := by rw [IntKind.wrap_u64]; omega
 have h1 := Int.tmod_nonneg (n : Int) hp
 have h2 := Int.tmod_lt_of_pos (IntKind.u64.wrap p) (show (0 : Int) < n by omega)
 exact ⟨by rw [IntKind.wrap_u64]; omega, h1, h2, by unfold wrap64; omega⟩
section
variable {n : Nat} {a0 : Int} {l1 : List S75} {l2 : List Int} {E : List S75}
theorem fix5_l2 {I : List Int} {i : Nat} (hi : i < 1000) (p : Int) (hl : I.length ≤ 1000) (R : Int × List S75 × List Int) (h : Ev (fun k => marchlandref05_Fix.l1 k ((i + 1 : Nat) : Int) a0 l1 l2 (n : Int) E (if p ∈ I then I else I ++ [p])) R) :
  ∀ rest pre : List Int, I = pre ++ rest → Ev (fun k => marchlandref05_Fix.l2 k (i : Int) p (decide (p ∈ pre)) (pre.length : Int) a0 l1 l2 (n : Int) E I) R
 | [], pre, hp => by
  rw [List.append_nil] at hp
  subst hp
  obtain ⟨K, h⟩ := h
  refine ⟨K + 1, fun k hk => ?_⟩
  obtain ⟨k, rfl⟩ : ∃ m, k = m + 1 := ⟨k - 1, by omega⟩
  have h := h k (by omega)
  dsimp only at h
  show marchlandref05_Fix.l2 (k + 1) _ _ _ _ _ _ _ _ _ _ = _
  rw [marchlandref05_Fix.l2, if_neg (by omega), w64 (by omega)]
  by_cases c : p ∈ I
  ·rw [if_pos c] at h; rw [if_pos (decide_eq_true c)]; exact h
  ·rw [if_neg c] at h; rw [if_neg (by simp [c]), if_pos (by omega)]; exact h
 | x :: rest, pre, hp => by
  obtain ⟨K, ih⟩ := fix5_l2 hi p hl R h rest (pre ++ [x]) (by rw [hp]; simp)
  have hlen : pre.length + 1 ≤ I.length := by rw [hp, List.length_append, List.length_cons]; omega
  have hr : rd I (pre.length : Int) = x := by rw [hp]; simp [rd]
  refine ⟨K + 1, fun k hk => ?_⟩
  obtain ⟨k, rfl⟩ : ∃ m, k = m + 1 := ⟨k - 1, by omega⟩
  have ih := ih k (by omega)
  simp only [List.length_append, List.length_cons, List.length_nil, Nat.zero_add] at ih
  show marchlandref05_Fix.l2 (k + 1) _ _ _ _ _ _ _ _ _ _ = _
  rw [marchlandref05_Fix.l2, if_pos (by omega), hr, w64 (by omega)]
  by_cases c : p ∈ pre
  ·rw [if_pos (decide_eq_true c)]
   rw [decide_eq_true (show p ∈ pre ++ [x] from List.mem_append_left _ c)] at ih; exact ih
  ·rw [if_neg (by simp [c]), if_pos (by omega)]
   have e : decide (p ∈ pre ++ [x]) = (x == p) := by
    by_cases d : x = p
    ·subst d; simp
    ·have : ¬ p = x := fun q => d q.symm
     simp [c, d, this]
   rw [e] at ih; exact ih
theorem fix5_l1 (hn : 1 ≤ n ∧ n ≤ 6) : ∀ d i : Nat, i + d = 8 → ∀ I : List Int, IGood n I → I.length ≤ i → ∃ I' : List Int, IGood n I' ∧ I' ≠ [] ∧ I'.length ≤ 8 ∧ Ev (fun k => marchlandref05_Fix.l1 k (i : Int) a0 l1 l2 (n : Int) E I) ((n : Int), E, I') := by
 have fin : ∀ (i : Nat), i ≤ 8 → ∀ I : List Int, IGood n I → I.length ≤ i → (¬ ((i : Int) < (l2.length : Int)) ∨ ¬ ((i : Int) < 8)) → ∃ I' : List Int, IGood n I' ∧ I' ≠ [] ∧ I'.length ≤ 8 ∧ Ev (fun k => marchlandref05_Fix.l1 k (i : Int) a0 l1 l2 (n : Int) E I) ((n : Int), E, I') := by
  intro i hi I hI hl hc
  have st : ∀ k, marchlandref05_Fix.l1 (k + 2) (i : Int) a0 l1 l2 (n : Int) E I = if (I.length : Int) = 0 then some ((n : Int), E, [0]) else some ((n : Int), E, I) := by
   intro k
   rw [marchlandref05_Fix.l1]
   by_cases c : (i : Int) < (l2.length : Int)
   ·rw [if_pos c, decide_eq_false (by omega), marchlandref05_Fix.j3, if_neg (by decide)]
   ·rw [if_neg c, marchlandref05_Fix.j3, if_neg (by decide)]
  by_cases c : (I.length : Int) = 0
  ·refine ⟨[0], ⟨fun p hp => ?_, by simp⟩, by simp, by simp, 2, fun k hk => ?_⟩
   ·rw [List.mem_singleton.1 hp]; omega
   ·obtain ⟨k, rfl⟩ : ∃ m, k = m + 2 := ⟨k - 2, by omega⟩
    exact (st k).trans (if_pos c)
  ·refine ⟨I, hI, fun e => c (by rw [e]; rfl), by omega, 2, fun k hk => ?_⟩
   obtain ⟨k, rfl⟩ : ∃ m, k = m + 2 := ⟨k - 2, by omega⟩
   exact (st k).trans (if_neg c)
 intro d
 induction d with
 | zero => intro i hi I hI hl; exact fin i (by omega) I hI hl (Or.inr (by omega))
 | succ d IH =>
  intro i hi I hI hl
  by_cases c : (i : Int) < (l2.length : Int)
  ·obtain ⟨m1, m2, m3, m4⟩ := modn (rd l2 (i : Int)) hn.1 hn.2
   generalize hp : Int.tmod (IntKind.u64.wrap (rd l2 (i : Int))) (n : Int) = p at m2 m3 m4
   have hJ : IGood n (if p ∈ I then I else I ++ [p]) ∧ (if p ∈ I then I else I ++ [p]).length ≤ i + 1 := by
    by_cases q : p ∈ I
    ·rw [if_pos q]; exact ⟨hI, by omega⟩
    ·rw [if_neg q]; exact ⟨igood_snoc hI ⟨m2, m3⟩ q, by simp; omega⟩
   obtain ⟨I', g1, g2, g3, g4⟩ := IH (i + 1) (by omega) _ hJ.1 hJ.2
   refine ⟨I', g1, g2, g3, ?_⟩
   obtain ⟨K, h2⟩ := fix5_l2 (by omega) p (by omega) _ g4 I [] rfl
   refine ⟨K + 2, fun k hk => ?_⟩
   obtain ⟨k, rfl⟩ : ∃ m, k = m + 2 := ⟨k - 2, by omega⟩
   show marchlandref05_Fix.l1 (k + 2) _ _ _ _ _ _ _ = _
   rw [marchlandref05_Fix.l1, if_pos c, decide_eq_true (by omega), marchlandref05_Fix.j3, if_pos rfl, if_pos (by omega), if_pos c, m1, if_neg (by omega), hp, m4]
   exact h2 k (by omega)
  ·exact fin i (by omega) I hI hl (Or.inl c)
theorem fix5_l0 (hn : 1 ≤ n ∧ n ≤ 6) (hw : ∀ x ∈ l1, In x.f2) : ∀ d i : Nat, i + d = 12 → ∀ E : List S75, EGood n E → E.length ≤ i → ∃ (E' : List S75) (I' : List Int), EGood n E' ∧ E'.length ≤ 12 ∧ IGood n I' ∧ I' ≠ [] ∧ I'.length ≤ 8 ∧ Ev (fun k => marchlandref05_Fix.l0 k (i : Int) a0 l1 l2 (n : Int) E) ((n : Int), E', I') := by
 have fin : ∀ (i : Nat), i ≤ 12 → ∀ E : List S75, EGood n E → E.length ≤ i → (¬ ((i : Int) < (l1.length : Int)) ∨ ¬ ((i : Int) < 12)) → ∃ (E' : List S75) (I' : List Int), EGood n E' ∧ E'.length ≤ 12 ∧ IGood n I' ∧ I' ≠ [] ∧ I'.length ≤ 8 ∧ Ev (fun k => marchlandref05_Fix.l0 k (i : Int) a0 l1 l2 (n : Int) E) ((n : Int), E', I') := by
  intro i hi E hE hl hc
  obtain ⟨I', g1, g2, g3, K, g4⟩ := fix5_l1 (a0 := a0) (l1 := l1) (l2 := l2) (E := E) hn 8 0 rfl [] ⟨by simp, by simp⟩ (by simp)
  refine ⟨E, I', hE, by omega, g1, g2, g3, K + 2, fun k hk => ?_⟩
  obtain ⟨k, rfl⟩ : ∃ m, k = m + 2 := ⟨k - 2, by omega⟩
  show marchlandref05_Fix.l0 (k + 2) _ _ _ _ _ _ = _
  rw [marchlandref05_Fix.l0]
  by_cases c : (i : Int) < (l1.length : Int)
  ·rw [if_pos c, decide_eq_false (by omega), marchlandref05_Fix.j1, if_neg (by decide)]; exact g4 k (by omega)
  ·rw [if_neg c, marchlandref05_Fix.j1, if_neg (by decide)]; exact g4 k (by omega)
 intro d
 induction d with
 | zero => intro i hi E hE hl; exact fin i (by omega) E hE hl (Or.inr (by omega))
 | succ d IH =>
  intro i hi E hE hl
  by_cases c : (i : Int) < (l1.length : Int)
  ·have hx : In (rd_T75 l1 (i : Int)).f2 := by
    unfold rd_T75
    rw [Int.toNat_natCast, List.getD_eq_getElem?_getD, List.getElem?_eq_getElem (by omega), Option.getD_some]
    exact hw _ (List.getElem_mem _)
   generalize hxe : rd_T75 l1 (i : Int) = x at hx
   obtain ⟨m1, a2, a3, a4⟩ := modn x.f0 hn.1 hn.2
   obtain ⟨_, b2, b3, b4⟩ := modn x.f1 hn.1 hn.2
   have step : ∀ y : S75, EGood n (E ++ [y]) → (∀ k, marchlandref05_Fix.j1 (k + 1) (i : Int) true a0 l1 l2 (n : Int) E = marchlandref05_Fix.l0 k (((i + 1 : Nat)) : Int) a0 l1 l2 (n : Int) (E ++ [y])) → ∃ (E' : List S75) (I' : List Int), EGood n E' ∧ E'.length ≤ 12 ∧ IGood n I' ∧ I' ≠ [] ∧ I'.length ≤ 8 ∧ Ev (fun k => marchlandref05_Fix.l0 k (i : Int) a0 l1 l2 (n : Int) E) ((n : Int), E', I') := by
    intro y hy hs
    obtain ⟨E', I', g1, g2, g3, g4, g5, K, g6⟩ := IH (i + 1) (by omega) (E ++ [y]) hy (by simp; omega)
    refine ⟨E', I', g1, g2, g3, g4, g5, K + 2, fun k hk => ?_⟩
    obtain ⟨k, rfl⟩ : ∃ m, k = m + 2 := ⟨k - 2, by omega⟩
    show marchlandref05_Fix.l0 (k + 2) _ _ _ _ _ _ = _
    rw [marchlandref05_Fix.l0, if_pos c, decide_eq_true (by omega), hs]
    exact g6 k (by omega)
   by_cases c1 : Int.tmod (IntKind.u64.wrap x.f1) (n : Int) ≤ Int.tmod (IntKind.u64.wrap x.f0) (n : Int)
   ·by_cases c2 : x.f2 = 0
    ·refine step ⟨Int.tmod (IntKind.u64.wrap x.f0) (n : Int), Int.tmod (IntKind.u64.wrap x.f1) (n : Int), 1⟩ (egood_snoc hE ⟨a2, a3, b2, b3, by show In 1; unfold In N; omega⟩ (fun _ => by show (1 : Int) ≤ 1; omega)) (fun k => ?_)
     rw [marchlandref05_Fix.j1, if_pos rfl, if_pos (by omega), if_pos c, m1, if_neg (by omega), hxe, a4, b4, if_pos c1, if_pos c2, if_pos (by omega), w64 (by omega)]
    ·refine step ⟨Int.tmod (IntKind.u64.wrap x.f0) (n : Int), Int.tmod (IntKind.u64.wrap x.f1) (n : Int), x.f2⟩ (egood_snoc hE ⟨a2, a3, b2, b3, hx⟩ (fun _ => by show (1 : Int) ≤ x.f2; have := hx.1; omega)) (fun k => ?_)
     rw [marchlandref05_Fix.j1, if_pos rfl, if_pos (by omega), if_pos c, m1, if_neg (by omega), hxe, a4, b4, if_pos c1, if_neg c2, if_pos (by omega), w64 (by omega)]
   ·refine step ⟨Int.tmod (IntKind.u64.wrap x.f0) (n : Int), Int.tmod (IntKind.u64.wrap x.f1) (n : Int), x.f2⟩ (egood_snoc hE ⟨a2, a3, b2, b3, hx⟩ (fun q => absurd q c1)) (fun k => ?_)
    rw [marchlandref05_Fix.j1, if_pos rfl, if_pos (by omega), if_pos c, m1, if_neg (by omega), hxe, a4, b4, if_neg c1, if_pos (by omega), w64 (by omega)]
  ·exact fin i (by omega) E hE hl (Or.inl c)
end
theorem fix5_ev (a0 : Int) (l1 : List S75) (l2 : List Int) (hw : ∀ x ∈ l1, In x.f2) : ∃ (n : Nat) (E : List S75) (I : List Int), (1 ≤ n ∧ n ≤ 6) ∧ EGood n E ∧ E.length ≤ 12 ∧ IGood n I ∧ I ≠ [] ∧ I.length ≤ 8 ∧ Ev (fun k => marchlandref05_Fix.f k a0 l1 l2) ((n : Int), E, I) := by
 obtain ⟨m1, a2, a3, a4⟩ := modn a0 (n := 6) (by omega) (by omega)
 have e : wrap64 (1 + wrap64 (Int.tmod (IntKind.u64.wrap a0) 6)) = (((1 + Int.tmod (IntKind.u64.wrap a0) 6).toNat : Nat) : Int) := by
  have : wrap64 (Int.tmod (IntKind.u64.wrap a0) 6) = Int.tmod (IntKind.u64.wrap a0) 6 := a4
  rw [this]
  have h1 : 0 ≤ Int.tmod (IntKind.u64.wrap a0) 6 := a2
  have h2 : Int.tmod (IntKind.u64.wrap a0) 6 < 6 := a3
  unfold wrap64; omega
 have h1 : 0 ≤ Int.tmod (IntKind.u64.wrap a0) 6 := a2
 have h2 : Int.tmod (IntKind.u64.wrap a0) 6 < 6 := a3
 generalize (1 + Int.tmod (IntKind.u64.wrap a0) 6).toNat = n at e
 have hn : 1 ≤ n ∧ n ≤ 6 := by
  have : wrap64 (1 + wrap64 (Int.tmod (IntKind.u64.wrap a0) 6)) = 1 + Int.tmod (IntKind.u64.wrap a0) 6 := by
   rw [show wrap64 (Int.tmod (IntKind.u64.wrap a0) 6) = Int.tmod (IntKind.u64.wrap a0) 6 from a4]; unfold wrap64; omega
  omega
 obtain ⟨E, I, g1, g2, g3, g4, g5, K, g6⟩ := fix5_l0 (a0 := a0) (l1 := l1) (l2 := l2) hn hw 12 0 rfl [] ⟨(fun e he => by simp at he), (fun e he => by simp at he)⟩ (by simp)
 refine ⟨n, E, I, hn, g1, g2, g3, g4, g5, K, fun k hk => ?_⟩
 show marchlandref05_Fix.f k a0 l1 l2 = _
 unfold marchlandref05_Fix.f
 rw [e]
 exact g6 k hk
theorem Ev.s {α : Type} {F G : Nat → Option α} {r : α} (h : ∀ k, F (k + 1) = G k) (g : Ev G r) : Ev F r := by
 obtain ⟨K, g⟩ := g
 refine ⟨K + 1, fun k hk => ?_⟩
 obtain ⟨k, rfl⟩ : ∃ m, k = m + 1 := ⟨k - 1, by omega⟩
 rw [h]; exact g k (by omega)
theorem Ev.o {α : Type} {F : Nat → Option α} {r : α} (h : ∀ k, F (k + 1) = some r) : Ev F r := by
 refine ⟨1, fun k hk => ?_⟩
 obtain ⟨k, rfl⟩ : ∃ m, k = m + 1 := ⟨k - 1, by omega⟩
 exact h k
def c95 (x : S75) : S127 := ⟨x.f0, x.f1, x.f2⟩
theorem ed_c95 (E : List S75) : (E.map c95).map ed = E.map ed9 := by rw [List.map_map]; rfl
theorem we_c95 {n : Nat} {E : List S75} (h : WE9 n E) : WE n (E.map c95) := by
 intro e he
 obtain ⟨x, hx, rfl⟩ := List.mem_map.1 he
 exact h x hx
section
variable {n : Nat} {E : List S75} {I : List Int}
theorem to5_l0 (hl : E.length ≤ 1000) : ∀ (rest pre : List S75), E = pre ++ rest → Ev (fun k => marchlandlaw05_To.l0 k (pre.length : Int) (n : Int) E I (n : Int) (pre.map c95) I) ((n : Int), E.map c95, I)
 | [], pre, h => by
  rw [List.append_nil] at h
  subst h
  refine Ev.o (fun k => ?_)
  show marchlandlaw05_To.l0 (k + 1) _ _ _ _ _ _ _ = _
  rw [marchlandlaw05_To.l0, if_neg (by omega)]
 | x :: rest, pre, h => by
  have ih := to5_l0 hl rest (pre ++ [x]) (by rw [h]; simp)
  have hlen : pre.length + 1 ≤ E.length := by rw [h, List.length_append, List.length_cons]; omega
  have hr : rd_T75 E (pre.length : Int) = x := by rw [h]; exact rd90 pre x rest rfl
  rw [List.map_append, List.length_append] at ih
  simp only [List.map_cons, List.map_nil, List.length_cons, List.length_nil, Nat.zero_add] at ih
  refine Ev.s (fun k => ?_) ih
  show marchlandlaw05_To.l0 (k + 1) _ _ _ _ _ _ _ = _
  rw [marchlandlaw05_To.l0, if_pos (by omega), if_pos (by omega), if_pos (by rw [List.length_map]; omega), hr, w64 (by omega)]
  rfl
theorem to5_ev (hl : E.length ≤ 1000) (hI : I.length ≤ 1000) : Ev (fun k => marchlandlaw05_To.f k (n : Int) E I) ((n : Int), E.map c95, I) := by
 have h := to5_l0 (n := n) (I := I) hl E [] rfl
 refine Ev.id h (fun k => ?_)
 show _ = marchlandlaw05_To.f k (n : Int) E I
 unfold marchlandlaw05_To.f
 rw [Option.bind_some, if_pos (by simp; omega)]
 rfl
theorem has_ok {E' : List S127} {p : Int} (h0 : 0 ≤ p) (h1 : p < n) : graph_Graph_has.f (n : Int) E' I p = some true := by
 unfold graph_Graph_has.f
 rw [if_pos h0, decide_eq_true h1]
theorem edges_l0 {E : List S127} (hE : WE n E) (hl : E.length ≤ 1000) : ∀ d i : Nat, i + d = E.length → Ev (fun k => graph_Graph_edges.l0 k E (E.length : Int) (i : Int) (n : Int) E I) none
 | 0, i, h => by
  refine Ev.o (fun k => ?_)
  show graph_Graph_edges.l0 (k + 1) _ _ _ _ _ _ = _
  rw [graph_Graph_edges.l0, if_neg (by omega)]
 | d + 1, i, h => by
  have ih := edges_l0 hE hl d (i + 1) (by omega)
  have hm : rd_T127 E (i : Int) ∈ E := by
   unfold rd_T127
   rw [Int.toNat_natCast, List.getD_eq_getElem?_getD, List.getElem?_eq_getElem (by omega), Option.getD_some]
   exact List.getElem_mem _
  obtain ⟨x0, x1, x2, x3, x4⟩ := hE _ hm
  refine Ev.s (fun k => ?_) ih
  show graph_Graph_edges.l0 (k + 1) _ _ _ _ _ _ = _
  rw [graph_Graph_edges.l0, if_pos (by omega), if_pos (by omega), if_pos (by omega), has_ok x0 x1, Option.bind_some, if_pos rfl, has_ok x2 x3, Option.bind_some, if_pos rfl, w64 (by omega)]
theorem index_none {p : Int} (L : List Int) (hl : L.length ≤ 1000) (hp : p ∉ L) : ∀ d i : Nat, i + d = L.length → Ev (fun k => slices_Index_int_int.l0 k L p (L.length : Int) (i : Int)) (-1)
 | 0, i, h => by
  refine Ev.o (fun k => ?_)
  show slices_Index_int_int.l0 (k + 1) _ _ _ _ = _
  rw [slices_Index_int_int.l0, if_neg (by omega)]
 | d + 1, i, h => by
  have ih := index_none L hl hp d (i + 1) (by omega)
  have hm : rd L (i : Int) ∈ L := by
   unfold rd
   rw [Int.toNat_natCast, List.getD_eq_getElem?_getD, List.getElem?_eq_getElem (by omega), Option.getD_some]
   exact List.getElem_mem _
  refine Ev.s (fun k => ?_) ih
  show slices_Index_int_int.l0 (k + 1) _ _ _ _ = _
  rw [slices_Index_int_int.l0, if_pos (by omega), if_pos (by omega), if_pos (by omega), if_neg (fun q => hp (by rw [q]; exact hm)), w64 (by omega)]
theorem contains_none {p : Int} (L : List Int) (hl : L.length ≤ 1000) (hp : p ∉ L) : Ev (fun k => slices_Contains_int_int.f k L p) false := by
 obtain ⟨K, h⟩ := index_none L hl hp L.length 0 (by omega)
 refine ⟨K, fun k hk => ?_⟩
 show slices_Contains_int_int.f k L p = _
 unfold slices_Contains_int_int.f slices_Index_int_int.f
 have h := h k hk
 dsimp only at h
 rw [show ((0 : Nat) : Int) = 0 from rfl] at h
 rw [h]; rfl
theorem inputs_l0 {E : List S127} (hI : IGood n I) (hl : I.length ≤ 1000) : ∀ d i : Nat, i + d = I.length → Ev (fun k => graph_Graph_inputs.l0 k I (I.length : Int) (i : Int) (n : Int) E I) none
 | 0, i, h => by
  refine Ev.o (fun k => ?_)
  show graph_Graph_inputs.l0 (k + 1) _ _ _ _ _ _ = _
  rw [graph_Graph_inputs.l0, if_neg (by omega)]
 | d + 1, i, h => by
  obtain ⟨K1, ih⟩ := inputs_l0 (E := E) hI hl d (i + 1) (by omega)
  have hlt : i < I.length := by omega
  have hg : rd I (i : Int) = I[i] := by unfold rd; rw [Int.toNat_natCast, List.getD_eq_getElem?_getD, List.getElem?_eq_getElem hlt, Option.getD_some]
  have hb := hI.ok (I[i]) (List.getElem_mem _)
  have hn : I[i] ∉ I.take i := by
   intro hm
   obtain ⟨j, hj, e⟩ := List.getElem_of_mem hm
   rw [List.length_take] at hj
   rw [List.getElem_take] at e
   have := (List.getElem_inj hI.once).1 e
   omega
  obtain ⟨K2, hc⟩ := contains_none (I.take i) (by rw [List.length_take]; omega) hn
  refine ⟨K1 + K2 + 1, fun k hk => ?_⟩
  obtain ⟨k, rfl⟩ : ∃ m, k = m + 1 := ⟨k - 1, by omega⟩
  have ih := ih k (by omega); have hc := hc k (by omega); dsimp only at ih hc
  show graph_Graph_inputs.l0 (k + 1) _ _ _ _ _ _ = _
  rw [graph_Graph_inputs.l0, if_pos (by omega), if_pos (by omega), if_pos (by omega), hg, has_ok hb.1 hb.2, Option.bind_some, if_pos rfl, if_pos (by omega), Int.toNat_natCast, hc, Option.bind_some, if_neg (by decide), w64 (by omega)]
  exact ih
theorem cycle_l0 {E : List S127} {W : Mat} (hE : WE n E) (hl : E.length ≤ 1000) (hW : ∀ e ∈ E, e.f2 = 0 → W e.f1.toNat e.f0.toNat ≠ 0) : ∀ d i : Nat, i + d = E.length → Ev (fun k => graph_Graph_cycle.l0 k (mat n W) (-1) E (E.length : Int) (i : Int)) (-1)
 | 0, i, h => by
  refine Ev.o (fun k => ?_)
  show graph_Graph_cycle.l0 (k + 1) _ _ _ _ _ = _
  rw [graph_Graph_cycle.l0, if_neg (by omega)]
 | d + 1, i, h => by
  have ih := cycle_l0 hE hl hW d (i + 1) (by omega)
  have hm : rd_T127 E (i : Int) ∈ E := by
   unfold rd_T127
   rw [Int.toNat_natCast, List.getD_eq_getElem?_getD, List.getElem?_eq_getElem (by omega), Option.getD_some]
   exact List.getElem_mem _
  generalize hx : rd_T127 E (i : Int) = x at hm
  obtain ⟨x0, x1, x2, x3, x4⟩ := hE _ hm
  have hw := hW x hm
  have f0 : x.f0 = ((x.f0.toNat : Nat) : Int) := by omega
  have f1 : x.f1 = ((x.f1.toNat : Nat) : Int) := by omega
  have r1 : rd_L5 (mat n W) x.f1 = Ls n (W x.f1.toNat) := by rw [f1]; exact mat_row n W (by omega)
  have r2 : rd (Ls n (W x.f1.toNat)) x.f0 = W x.f1.toNat x.f0.toNat := by rw [f0]; exact ls_rd n _ (by omega)
  refine Ev.s (fun k => ?_) ih
  show graph_Graph_cycle.l0 (k + 1) _ _ _ _ _ = _
  rw [graph_Graph_cycle.l0, if_pos (by omega), if_pos (by omega), if_pos (by omega), hx, w64 (by omega)]
  by_cases c : x.f2 = 0
  ·rw [if_pos c, if_pos x2, mat_len, if_pos x3, if_pos x0, r1, ls_len, if_pos x1, r2, if_neg (hw c)]
  ·rw [if_neg c]
theorem paths_ev (hn : 1 ≤ n ∧ n ≤ 6) (hE : EGood n E) (hl : E.length ≤ 12) (hI : IGood n I) (hI0 : I ≠ []) (hI8 : I.length ≤ 8) : Ev (fun k => graph_Paths.f k (n : Int) (E.map c95) I) (mat n (wk (E.map ed9) n)) := by
 have hW := we_c95 hE.ok
 have hll : (E.map c95).length ≤ 12 := by rw [List.length_map]; exact hl
 obtain ⟨K1, h1⟩ := ways_ev I hW (by omega) (by omega)
 obtain ⟨K2, h2⟩ := edges_l0 (I := I) hW (by omega) (E.map c95).length 0 (by omega)
 obtain ⟨K3, h3⟩ := inputs_l0 (E := E.map c95) hI (by omega) I.length 0 (by omega)
 rw [ed_c95] at h1
 obtain ⟨K4, h4⟩ := cycle_l0 (W := wk (E.map ed9) n) hW (by omega) (fun e he h0 => by
  obtain ⟨x, hx, rfl⟩ := List.mem_map.1 he
  obtain ⟨x0, x1, x2, x3, x4⟩ := hE.ok x hx
  have hb := hE.back x hx
  have h0 : x.f2 = 0 := h0
  show wk (E.map ed9) n x.f1.toNat x.f0.toNat ≠ 0
  have hlt : x.f0.toNat < x.f1.toNat := by
   rcases Int.lt_or_le x.f0 x.f1 with q | q
   ·omega
   ·have := hb q; omega
  exact no_round (we9_ok hE.ok) (fun e he hq => by
   obtain ⟨y, hy, rfl⟩ := List.mem_map.1 he
   obtain ⟨y0, y1, y2, y3, y4⟩ := hE.ok y hy
   have hq : y.f1.toNat ≤ y.f0.toNat := hq
   exact hE.back y hy (by omega)) (by omega) (by omega) hlt) (E.map c95).length 0 (by omega)
 have hpos : 1 ≤ I.length := by cases I with | nil => exact absurd rfl hI0 | cons a l => simp
 refine ⟨K1 + K2 + K3 + K4 + 3, fun k hk => ?_⟩
 obtain ⟨k, rfl⟩ : ∃ m, k = m + 2 := ⟨k - 2, by omega⟩
 have h1a := h1 (k + 1) (by omega); have h1b := h1 (k + 2) (by omega); have h2 := h2 (k + 1) (by omega); have h3 := h3 k (by omega); have h4 := h4 (k + 1) (by omega)
 dsimp only at h1a h1b h2 h3 h4
 have e2 : graph_Graph_edges.f (k + 1) (n : Int) (E.map c95) I = some none := h2
 have e3 : graph_Graph_inputs.f (k + 1) (n : Int) (E.map c95) I = some none := by
  unfold graph_Graph_inputs.f
  rw [if_neg (by omega), graph_Graph_inputs.j0, if_neg (by simp; omega)]
  exact h3
 have e4 : graph_Graph_cycle.f (k + 1) (n : Int) (E.map c95) I (mat n (wk (E.map ed9) n)) = some (-1) := h4
 have ec : graph_Check.f (k + 2) (n : Int) (E.map c95) I = some none := by
  unfold graph_Check.f
  rw [if_neg (by omega), decide_eq_false (by omega), graph_Check.j0, if_neg (by decide), if_neg (by omega), e2, Option.bind_some, if_pos (show (none : Option Int).isNone = true from rfl), e3, Option.bind_some, if_pos (show (none : Option Int).isNone = true from rfl), h1a, Option.bind_some, e4, Option.bind_some, if_neg (by decide)]
 show graph_Paths.f (k + 2) _ _ _ = _
 unfold graph_Paths.f
 rw [ec, Option.bind_some, if_pos (show (none : Option Int).isNone = true from rfl), h1b, Option.bind_some]
end
section
variable {n : Nat} {E : List S75} {I : List Int}
def lastB (W : Mat) (b : Bool) (i j : Nat) (pre : List S75) : Bool := b || pre.any fun e => decide (e.f1 = (j : Int)) && decide (pl (W i e.f0.toNat) e.f2 = W i j)
theorem paths_l3 (hn : 1 ≤ n ∧ n ≤ 6) (hE : WE9 n E) (hl : E.length ≤ 12) {i j : Nat} (hi : i < n) (hj : j < n) (b : Bool) (hb : b = true ∨ (i ≠ j ∧ wk (E.map ed9) n i j ≠ N))
    (h : Ev (fun k => marchlandlaw05_GraphPaths.l1 k (mat n (wk (E.map ed9) n)) (i : Int) ((j + 1 : Nat) : Int) (n : Int) E I) true) :
    ∀ (rest pre : List S75), E = pre ++ rest → Ev (fun k => marchlandlaw05_GraphPaths.l3 k (mat n (wk (E.map ed9) n)) (i : Int) (j : Int) (lastB (wk (E.map ed9) n) b i j pre) (pre.length : Int) (n : Int) E I) true
  | [], pre, hp => by
    rw [List.append_nil] at hp
    have hlast : lastB (wk (E.map ed9) n) b i j pre = true := by
      unfold lastB
      rcases hb with hb | ⟨h1, h2⟩
      · rw [hb]; rfl
      · rw [Bool.or_eq_true]
        right
        obtain ⟨e, he, e1, e2⟩ := last_edge (we9_ok hE) hi hj h1 h2
        obtain ⟨x, hx, rfl⟩ := List.mem_map.1 he
        rw [List.any_eq_true]
        have hb := hE x hx
        have e1 : x.f1.toNat = j := e1
        exact ⟨x, by rw [← hp]; exact hx, by rw [Bool.and_eq_true, decide_eq_true_iff, decide_eq_true_iff]; exact ⟨by omega, e2⟩⟩
    refine Ev.s (fun k => ?_) h
    rw [marchlandlaw05_GraphPaths.l3, if_neg (by rw [hp]; omega), if_pos hlast, w64 (by omega)]
  | e :: rest, pre, hp => by
    have ih := paths_l3 hn hE hl hi hj b hb h rest (pre ++ [e]) (by rw [hp]; simp)
    have elen : E.length = pre.length + (rest.length + 1) := by rw [hp]; simp
    have ee : rd_T75 E (pre.length : Int) = e := by
      have := rd90 pre e rest (i := (pre.length : Int)) rfl
      rw [← hp] at this; exact this
    have he : e ∈ E := by rw [hp]; simp
    obtain ⟨f0, f1, t0, t1, ai⟩ := hE e he
    have hlen : (((pre ++ [e]).length : Nat) : Int) = wrap64 ((pre.length : Int) + 1) := by rw [w64 (by omega)]; simp
    rw [hlen] at ih
    have G := good_wk (we9_ok hE) n (Nat.le_refl n)
    by_cases c : e.f1 = (j : Int)
    · have pw := ways_pot (we9_ok hE) hi
      have eg := pw.edge (ed9 e) (List.mem_map_of_mem he)
      have e1 : e.f1.toNat = j := by omega
      have eg : wk (E.map ed9) n i e.f1.toNat ≤ pl (wk (E.map ed9) n i e.f0.toNat) e.f2 := eg
      rw [e1] at eg
      have hf : e.f0.toNat < n := by omega
      have ef : ((e.f0.toNat : Nat) : Int) = e.f0 := by omega
      have r1 : rd (Ls n (wk (E.map ed9) n i)) e.f0 = wk (E.map ed9) n i e.f0.toNat := by rw [← ef]; exact ls_rd n _ hf
      have hl2 : lastB (wk (E.map ed9) n) b i j (pre ++ [e]) = (lastB (wk (E.map ed9) n) b i j pre || (pl (wk (E.map ed9) n i e.f0.toNat) e.f2 == wk (E.map ed9) n i j)) := by
        unfold lastB
        rw [List.any_append, ← Bool.or_assoc]
        simp [c]
        cases h : decide (pl (wk (E.map ed9) n i e.f0.toNat) e.f2 = wk (E.map ed9) n i j) <;> simp_all
      rw [hl2] at ih
      refine Ev.s (G := fun k => marchlandlaw05_GraphPaths.j9 k (mat n (wk (E.map ed9) n)) (i : Int) (j : Int) (lastB (wk (E.map ed9) n) b i j pre) (pre.length : Int) true (n : Int) E I e.f0 e.f1 e.f2) (fun k => ?_) (Ev.s (fun k => ?_) ih)
      · rw [marchlandlaw05_GraphPaths.l3, if_pos (by omega), if_pos (by omega), ee, if_pos c, if_pos (by omega), mat_len, if_pos (by omega), mat_row n _ hi, ls_len, decide_eq_true (by omega)]
      · rw [marchlandlaw05_GraphPaths.j9, if_pos rfl, if_pos (by omega), mat_len, if_pos (by omega), if_pos f0, mat_row n _ hi, ls_len, if_pos f1, r1, plus1_eq (G.inn i _ hi hf) ai, Option.bind_some, if_pos (by omega), if_pos (by omega), ls_rd n _ hj, if_neg (by omega)]
        cases lastB (wk (E.map ed9) n) b i j pre
        · rw [if_neg (by simp)]; simp
        · rw [if_pos rfl]; simp
    · have hl2 : lastB (wk (E.map ed9) n) b i j (pre ++ [e]) = lastB (wk (E.map ed9) n) b i j pre := by
        unfold lastB
        rw [List.any_append]
        simp [c]
      rw [hl2] at ih
      refine Ev.s (G := fun k => marchlandlaw05_GraphPaths.j9 k (mat n (wk (E.map ed9) n)) (i : Int) (j : Int) (lastB (wk (E.map ed9) n) b i j pre) (pre.length : Int) false (n : Int) E I e.f0 e.f1 e.f2) (fun k => ?_) (Ev.s (fun k => ?_) ih)
      · rw [marchlandlaw05_GraphPaths.l3, if_pos (by omega), if_pos (by omega), ee, if_neg c]
      · rw [marchlandlaw05_GraphPaths.j9, if_neg (by simp)]
theorem paths_l2 (hn : 1 ≤ n ∧ n ≤ 6) (hE : WE9 n E) {i j : Nat} (hi : i < n) (hj : j < n) (b : Bool) (h : Ev (fun k => marchlandlaw05_GraphPaths.l3 k (mat n (wk (E.map ed9) n)) (i : Int) (j : Int) b 0 (n : Int) E I) true) :
    ∀ d q : Nat, q + d = n → Ev (fun k => marchlandlaw05_GraphPaths.l2 k (mat n (wk (E.map ed9) n)) (i : Int) (j : Int) b (q : Int) (n : Int) E I) true
  | 0, q, hq => by
    refine Ev.s (G := fun k => marchlandlaw05_GraphPaths.j7 k (mat n (wk (E.map ed9) n)) (i : Int) (j : Int) b (q : Int) false (n : Int) E I) (fun k => ?_) (Ev.s (fun k => ?_) h)
    · rw [marchlandlaw05_GraphPaths.l2, if_neg (by omega)]
    · rw [marchlandlaw05_GraphPaths.j7, if_neg (by simp)]
  | d + 1, q, hq => by
    have ih := paths_l2 hn hE hi hj b h d (q + 1) (by omega)
    have hqn : q < n := by omega
    have G := good_wk (we9_ok hE) n (Nat.le_refl n)
    have tri := wk_tri (we9_ok hE) n (Nat.le_refl n) q i j hqn hi hj
    refine Ev.s (G := fun k => marchlandlaw05_GraphPaths.j7 k (mat n (wk (E.map ed9) n)) (i : Int) (j : Int) b (q : Int) true (n : Int) E I) (fun k => ?_) (Ev.s (fun k => ?_) ih)
    · rw [marchlandlaw05_GraphPaths.l2, if_pos (by omega), if_pos (by omega), mat_len, if_pos (by omega), mat_row n _ hqn, ls_len]; simp
    · rw [marchlandlaw05_GraphPaths.j7, if_pos rfl, if_pos (by omega), mat_len, if_pos (by omega), if_pos (by omega), mat_row n _ hi, ls_len, if_pos (by omega), if_pos (by omega), if_pos (by omega), mat_row n _ hqn, ls_len, if_pos (by omega), ls_rd n _ hqn, ls_rd n _ hj, plus1_eq (G.inn i q hi hqn) (G.inn q j hqn hj), Option.bind_some, if_pos (by omega), ls_rd n _ hj, if_neg (by omega), w64 (by omega)]
theorem paths_l1 (hn : 1 ≤ n ∧ n ≤ 6) (hE : WE9 n E) (hl : E.length ≤ 12) {i : Nat} (hi : i < n) (h : Ev (fun k => marchlandlaw05_GraphPaths.l0 k (mat n (wk (E.map ed9) n)) ((i + 1 : Nat) : Int) (n : Int) E I) true) :
    ∀ d j : Nat, j + d = n → Ev (fun k => marchlandlaw05_GraphPaths.l1 k (mat n (wk (E.map ed9) n)) (i : Int) (j : Int) (n : Int) E I) true
  | 0, j, hj => by
    refine Ev.s (G := fun k => marchlandlaw05_GraphPaths.j4 k (mat n (wk (E.map ed9) n)) (i : Int) (j : Int) false (n : Int) E I) (fun k => ?_) (Ev.s (fun k => ?_) h)
    · rw [marchlandlaw05_GraphPaths.l1, if_neg (by omega)]
    · rw [marchlandlaw05_GraphPaths.j4, if_neg (by simp), w64 (by omega)]
  | d + 1, j, hj => by
    have ih := paths_l1 hn hE hl hi h d (j + 1) (by omega)
    have hjn : j < n := by omega
    have key : ∀ b : Bool, (b = true ∨ (i ≠ j ∧ wk (E.map ed9) n i j ≠ N)) → Ev (fun k => marchlandlaw05_GraphPaths.j5 k (mat n (wk (E.map ed9) n)) (i : Int) (j : Int) b (n : Int) E I) true := fun b hb => by
      have h3 := paths_l3 hn hE hl hi hjn b hb ih E [] rfl
      have e0 : lastB (wk (E.map ed9) n) b i j [] = b := by unfold lastB; simp
      rw [e0] at h3
      refine Ev.s (fun k => ?_) (paths_l2 hn hE hi hjn b h3 n 0 (by omega))
      rw [marchlandlaw05_GraphPaths.j5]; rfl
    refine Ev.s (G := fun k => marchlandlaw05_GraphPaths.j4 k (mat n (wk (E.map ed9) n)) (i : Int) (j : Int) true (n : Int) E I) (fun k => ?_) ?_
    · rw [marchlandlaw05_GraphPaths.l1, if_pos (by omega), if_pos (by omega), mat_len, if_pos (by omega), mat_row n _ hjn, ls_len]; simp
    · by_cases c : i = j
      · refine Ev.s (fun k => ?_) (key true (Or.inl rfl))
        rw [marchlandlaw05_GraphPaths.j4, if_pos rfl, if_pos (by omega)]
      · refine Ev.s (fun k => ?_) (key (wk (E.map ed9) n i j == 18446744073709551615) ?_)
        · rw [marchlandlaw05_GraphPaths.j4, if_pos rfl, if_neg (by omega), if_pos (by omega), mat_len, if_pos (by omega), if_pos (by omega), mat_row n _ hi, ls_len, if_pos (by omega), ls_rd n _ hjn]
        · by_cases c2 : wk (E.map ed9) n i j = N
          · left; rw [c2]; rfl
          · exact Or.inr ⟨c, c2⟩
theorem paths_l0 (hn : 1 ≤ n ∧ n ≤ 6) (hE : WE9 n E) (hl : E.length ≤ 12) : ∀ d i : Nat, i + d = n → Ev (fun k => marchlandlaw05_GraphPaths.l0 k (mat n (wk (E.map ed9) n)) (i : Int) (n : Int) E I) true
  | 0, i, hi => by
    refine Ev.o (fun k => ?_)
    rw [marchlandlaw05_GraphPaths.l0, if_neg (by omega)]
  | d + 1, i, hi => by
    have hin : i < n := by omega
    have l1 := paths_l1 hn hE hl hin (paths_l0 hn hE hl d (i + 1) (by omega)) n 0 (by omega)
    have dg := (good_wk (we9_ok hE) n (Nat.le_refl n)).diag i hin
    refine Ev.s (G := fun k => marchlandlaw05_GraphPaths.j2 k (mat n (wk (E.map ed9) n)) (i : Int) false (n : Int) E I) (fun k => ?_) (Ev.s (fun k => ?_) l1)
    · rw [marchlandlaw05_GraphPaths.l0, if_pos (by omega), if_pos (by omega), mat_len, if_pos (by omega), mat_row n _ hin, ls_len, if_pos rfl, if_pos (by omega), ls_rd n _ hin, dg]; rfl
    · rw [marchlandlaw05_GraphPaths.j2, if_neg (by simp)]; rfl
end
theorem GraphPaths (a0 : Int) (l1 : List S75) (hq : ∀ x ∈ l1, In x.f2) (l2 : List Int) : ∃ k, marchlandlaw05_GraphPaths.f k a0 l1 l2 = some true := by
  obtain ⟨n, E, I, hn, hE, hl, hI, hI0, hI8, hfix⟩ := fix5_ev a0 l1 l2 hq
  have hp := paths_ev hn hE hl hI hI0 hI8
  have ht := to5_ev (n := n) (E := E) (I := I) (by omega) (by omega)
  refine (Ev.bind hfix (Ev.bind ht (Ev.bind hp ?_))).rounds
  have j0 : Ev (fun k => marchlandlaw05_GraphPaths.j0 k (mat n (wk (E.map ed9) n)) false (n : Int) E I) true := by
    refine Ev.s (fun k => ?_) (paths_l0 (I := I) hn hE.ok hl n 0 (by omega))
    rw [marchlandlaw05_GraphPaths.j0, if_neg (by simp)]; rfl
  refine Ev.congr (fun k => ?_) j0
  have ht5 : marchlandlaw05_told.f = some true := rfl
  dsimp only
  rw [ht5, Option.bind_some, if_pos rfl, mat_len]
  simp
end Go.Proofs.YtgeldmhgbnamcaaDoor.Pure
end
