/- Walks and laws of several statements of this seat, joined into one text; no condition. -/
import Derived.Test.YtgeldmhgbnamcaaDoorProg
import Derived.Below
import Derived.Deep.Draws
import Derived.Deep.AppendLies
import Derived.Maps.AppendAt
import Derived.OwnWalk
import Derived.Laws.BytesArg
import Derived.Laws.MakeOwn
import Derived.Laws.OwnMore
import Derived.Deep.OwnRows
import Derived.Tactics
import Derived.Lib.ConvBytes
import Derived.Laws.Slices
import Derived.WalkKit
import Derived.KernelRfl
import Derived.RowKit3
import Derived.Deep.LoopGhost
import Derived.Deep.QuietTactic
import Derived.BigQuiet
import Derived.WideLaws
import Derived.Deep.DeepCutAuto
import Derived.Deep.CutBlock
import Derived.Deep.RegionHeld3
import Derived.Laws.Rows
import Derived.Lib.AppendStr
import Derived.ArgAppend
import Derived.Laws.IdiomCopy
import Derived.OrdersHeld
import Derived.Laws.BitsLemmas
import Derived.RowKit
import Derived.Laws.StructEq
import Derived.Laws.CopyOwn
import Derived.Deep.RegionLaw
import Derived.LoopTactic
import Derived.Outline
import Derived.IntWalk
import Derived.Test.YtgeldmhgbnamcaaDoorGXa0
import Derived.Test.YtgeldmhgbnamcaaDoorGXa1
import Derived.Test.YtgeldmhgbnamcaaDoorGXa2
import Derived.Test.YtgeldmhgbnamcaaDoorGXa3
import Derived.Test.YtgeldmhgbnamcaaDoorGXa4
import Derived.Test.YtgeldmhgbnamcaaDoorGXa5
section
namespace Go.Proofs.YtgeldmhgbnamcaaDoor.PureQ
open Go.Proofs.YtgeldmhgbnamcaaDoor.P (slices_Repeat.f)
open Go.RowKit Go.Proofs.YtgeldmhgbnamcaaDoor.Q Go.Proofs.YtgeldmhgbnamcaaDoorW.PrintWords Go.Proofs.YtgeldmhgbnamcaaDoorW.PrintLast Go.Proofs.YtgeldmhgbnamcaaDoorW.PrintMore
open Go.Proofs.YtgeldmhgbnamcaaDoor.Pure.FW
set_option linter.unusedVariables false
set_option linter.unusedSimpArgs false
theorem plus1_eq {a b : Int} (ha : In a) (hb : In b) : marchlandref01_Plus.f a b = some (pl a b) := by
 unfold In N at ha hb
 have e : IntKind.u64.wrap (18446744073709551615 - a) = 18446744073709551615 - a := by rw [IntKind.wrap_u64]; omega
 unfold marchlandref01_Plus.f pl N
 rw [e]
 by_cases c : 18446744073709551615 ≤ a + b
 ·rw [if_pos (by omega), if_pos c]
 ·rw [if_neg (by omega), if_neg c, show IntKind.u64.wrap (a + b) = a + b by rw [IntKind.wrap_u64]; omega]
def ed9 (e : S75) : Ed := ⟨e.f0.toNat, e.f1.toNat, e.f2⟩
def WE9 (n : Nat) (E : List S75) : Prop := ∀ e ∈ E, 0 ≤ e.f0 ∧ e.f0 < n ∧ 0 ≤ e.f1 ∧ e.f1 < n ∧ In e.f2
theorem we9_ok {n : Nat} {E : List S75} (h : WE9 n E) : EOk n (E.map ed9) := by
 intro e he
 obtain ⟨x, hx, rfl⟩ := List.mem_map.1 he
 obtain ⟨h1, h2, h3, h4, h5⟩ := h x hx
 exact ⟨by show x.f0.toNat < n; omega, by show x.f1.toNat < n; omega, h5⟩
theorem rd90 (p : List S75) (x : S75) (q : List S75) {i : Int} (h : i = p.length) : rd_T75 (p ++ x :: q) i = x := by subst h; simp [rd_T75]
section
variable {n : Nat} {E : List S75} {I : List Int}
def Zf (E : List Ed) (r i : Nat) (ρ : Nat → Int) : Mat := fun a => if a = i then ρ else if a < i then cl E a (r + 1) else cl E a r
theorem zf_set (E : List Ed) (r i : Nat) (ρ : Nat → Int) (n j : Nat) (x : Int) : (mat n (Zf E r i ρ)).set i ((Ls n ρ).set j x) = mat n (Zf E r i (fun b => if b = j then x else ρ b)) := by
 have e : ρ = Zf E r i ρ i := by unfold Zf; rw [if_pos rfl]
 have h := mat_set n (Zf E r i ρ) i j x
 rw [← e] at h
 rw [h]
 refine mat_congr fun a b _ _ => ?_
 unfold upd Zf
 by_cases c : a = i
 ·rw [if_pos c, if_pos c]
  by_cases d : b = j
  ·rw [if_pos ⟨c, d⟩, if_pos d]
  ·rw [if_neg (fun q => d q.2), if_neg d]
 ·rw [if_neg (fun q => c q.1), if_neg c, if_neg c]
theorem closed_l4 (hE : WE9 n E) (hn : n ≤ 1000) (hl : E.length ≤ 1000) {r i : Nat} (hi : i < n) (R : List (List Int))
  (h : Ev (fun q => marchlandref05_closed.l3 q (mat n (Zf (E.map ed9) r i (cl (E.map ed9) i (r + 1)))) (r : Int) ((i + 1 : Nat) : Int) (n : Int) E I) R) :
  ∀ (rest pre : List S75), E = pre ++ rest → Ev (fun q => marchlandref05_closed.l4 q (mat n (Zf (E.map ed9) r i ((pre.map ed9).foldl rsx (cl (E.map ed9) i r)))) (r : Int) (i : Int) (pre.length : Int) (n : Int) E I) R
 | [], pre, hp => by
  rw [List.append_nil] at hp
  subst hp
  obtain ⟨K, h⟩ := h
  refine ⟨K + 1, fun q hq => ?_⟩
  obtain ⟨q, rfl⟩ : ∃ m, q = m + 1 := ⟨q - 1, by omega⟩
  show marchlandref05_closed.l4 (q + 1) _ _ _ _ _ _ _ = _
  rw [marchlandref05_closed.l4, if_neg (by omega), w64 (by omega)]
  exact h q (by omega)
 | x :: rest, pre, hp => by
  have ih := closed_l4 hE hn hl hi R h rest (pre ++ [x]) (by rw [hp]; simp)
  have hlen : pre.length + 1 ≤ E.length := by rw [hp, List.length_append, List.length_cons]; omega
  obtain ⟨x0, x1, x2, x3, x4⟩ := hE x (by rw [hp]; simp)
  have hr : rd_T75 E (pre.length : Int) = x := by rw [hp]; exact rd90 pre x rest rfl
  have hg : RGood n (E.map ed9) i ((pre.map ed9).foldl rsx (cl (E.map ed9) i r)) := rgood_fold (we9_ok hE) _ (fun e he => by rw [hp, List.map_append]; exact List.mem_append_left _ he) _ (rgood_cl (we9_ok hE) hi r)
  rw [List.map_append, List.foldl_append] at ih
  simp only [List.map_cons, List.map_nil, List.foldl_cons, List.foldl_nil, List.length_append, List.length_cons, List.length_nil, Nat.zero_add] at ih
  obtain ⟨K, ih⟩ := ih
  generalize (pre.map ed9).foldl rsx (cl (E.map ed9) i r) = ρ at ih hg ⊢
  refine ⟨K + 1, fun q hq => ?_⟩
  obtain ⟨q, rfl⟩ : ∃ m, q = m + 1 := ⟨q - 1, by omega⟩
  have ih := ih q (by omega)
  dsimp only at ih
  have f0 : x.f0 = ((x.f0.toNat : Nat) : Int) := by omega
  have f1 : x.f1 = ((x.f1.toNat : Nat) : Int) := by omega
  have r1 : rd_L8 (mat n (Zf (E.map ed9) r i ρ)) (i : Int) = Ls n ρ := by rw [mat_row n _ hi]; unfold Zf; rw [if_pos rfl]
  have r2 : rd (Ls n ρ) x.f0 = ρ x.f0.toNat := by rw [f0]; exact ls_rd n _ (by omega)
  have r3 : rd (Ls n ρ) x.f1 = ρ x.f1.toNat := by rw [f1]; exact ls_rd n _ (by omega)
  show marchlandref05_closed.l4 (q + 1) _ _ _ _ _ _ _ = _
  rw [marchlandref05_closed.l4, if_pos (by omega), if_pos (by omega), if_pos (by omega), mat_len, if_pos (by omega), hr, if_pos x0, r1, ls_len, if_pos x1, r2, plus1_eq (hg.inn _ (by omega)) x4, Option.bind_some, if_pos x2, if_pos x3, r3]
  by_cases c : pl (ρ x.f0.toNat) x.f2 < ρ x.f1.toNat
  ·rw [if_pos c, Int.toNat_natCast, zf_set, w64 (by omega)]
   have e : rsx ρ (ed9 x) = fun b => if b = x.f1.toNat then pl (ρ x.f0.toNat) x.f2 else ρ b := by
    funext b; unfold rsx ed9
    by_cases d : b = x.f1.toNat
    ·rw [if_pos ⟨d, c⟩, if_pos d]
    ·rw [if_neg (fun q => d q.1), if_neg d]
   rw [← e]; exact ih
  ·rw [if_neg c, w64 (by omega)]
   have e : rsx ρ (ed9 x) = ρ := by
    funext b; unfold rsx ed9
    rw [if_neg (fun q => c q.2)]
   rw [← e]; exact ih
theorem closed_l3 (hE : WE9 n E) (hn : n ≤ 1000) (hl : E.length ≤ 1000) {r : Nat} (R : List (List Int)) (h : Ev (fun q => marchlandref05_closed.l2 q (mat n (fun a => cl (E.map ed9) a (r + 1))) (wrap64 ((r : Int) + 1)) (n : Int) E I) R) :
  ∀ d i : Nat, i + d = n → Ev (fun q => marchlandref05_closed.l3 q (mat n (fun a => if a < i then cl (E.map ed9) a (r + 1) else cl (E.map ed9) a r)) (r : Int) (i : Int) (n : Int) E I) R
 | 0, i, hi => by
  obtain rfl : i = n := by omega
  have e : mat i (fun a => if a < i then cl (E.map ed9) a (r + 1) else cl (E.map ed9) a r) = mat i (fun a => cl (E.map ed9) a (r + 1)) := mat_congr fun x y hx hy => by rw [if_pos hx]
  obtain ⟨K, h⟩ := h
  refine ⟨K + 1, fun q hq => ?_⟩
  obtain ⟨q, rfl⟩ : ∃ m, q = m + 1 := ⟨q - 1, by omega⟩
  show marchlandref05_closed.l3 (q + 1) _ _ _ _ _ _ = _
  rw [marchlandref05_closed.l3, if_neg (by omega), e]
  exact h q (by omega)
 | d + 1, i, hi => by
  have hin : i < n := by omega
  have ih := closed_l3 hE hn hl R h d (i + 1) (by omega)
  have e1 : mat n (Zf (E.map ed9) r i (cl (E.map ed9) i (r + 1))) = mat n (fun a => if a < i + 1 then cl (E.map ed9) a (r + 1) else cl (E.map ed9) a r) := mat_congr fun x y hx hy => by
   unfold Zf
   by_cases c : x = i
   ·rw [if_pos c, if_pos (by omega), c]
   ·by_cases d : x < i
    ·rw [if_neg c, if_pos d, if_pos (by omega)]
    ·rw [if_neg c, if_neg d, if_neg (by omega)]
  have e2 : mat n (Zf (E.map ed9) r i (cl (E.map ed9) i r)) = mat n (fun a => if a < i then cl (E.map ed9) a (r + 1) else cl (E.map ed9) a r) := mat_congr fun x y hx hy => by
   unfold Zf
   by_cases c : x = i
   ·rw [if_pos c, if_neg (by omega), c]
   ·rw [if_neg c]
  rw [← e1] at ih
  obtain ⟨K, h4⟩ := closed_l4 hE hn hl hin R ih E [] rfl
  refine ⟨K + 1, fun q hq => ?_⟩
  obtain ⟨q, rfl⟩ : ∃ m, q = m + 1 := ⟨q - 1, by omega⟩
  show marchlandref05_closed.l3 (q + 1) _ _ _ _ _ _ = _
  rw [marchlandref05_closed.l3, if_pos (by omega), ← e2]
  exact h4 q (by omega)
theorem closed_l2 (hE : WE9 n E) (hn : n ≤ 1000) (hl : E.length ≤ 1000) : ∀ d r : Nat, r + d = n → Ev (fun q => marchlandref05_closed.l2 q (mat n (fun a => cl (E.map ed9) a r)) (r : Int) (n : Int) E I) (mat n (fun a => cl (E.map ed9) a n))
 | 0, r, hr => by
  obtain rfl : r = n := by omega
  refine ⟨1, fun q hq => ?_⟩
  obtain ⟨q, rfl⟩ : ∃ m, q = m + 1 := ⟨q - 1, by omega⟩
  show marchlandref05_closed.l2 (q + 1) _ _ _ _ _ = _
  rw [marchlandref05_closed.l2, if_neg (by omega)]
 | d + 1, r, hr => by
  have ih := closed_l2 hE hn hl d (r + 1) (by omega)
  have h3 := closed_l3 (r := r) hE hn hl _ (by rw [w64 (by omega)]; exact ih) n 0 (by omega)
  have e : mat n (fun a => if a < 0 then cl (E.map ed9) a (r + 1) else cl (E.map ed9) a r) = mat n (fun a => cl (E.map ed9) a r) := mat_congr fun x y hx hy => by rw [if_neg (Nat.not_lt_zero x)]
  rw [e] at h3
  obtain ⟨K, h3⟩ := h3
  refine ⟨K + 1, fun q hq => ?_⟩
  obtain ⟨q, rfl⟩ : ∃ m, q = m + 1 := ⟨q - 1, by omega⟩
  show marchlandref05_closed.l2 (q + 1) _ _ _ _ _ = _
  rw [marchlandref05_closed.l2, if_pos (by omega)]
  exact h3 q (by omega)
def Xr (i j : Nat) : Nat → Int := fun b => if b < j then D0 i b else 0
def Xs (n i j : Nat) : List (List Int) := Ls n fun a => if a = i then Ls n (Xr i j) else if a < i then Ls n (D0 a) else []
def Ys (n i : Nat) : List (List Int) := Ls n fun a => if a < i then Ls n (D0 a) else []
theorem closed_l1 (hn : n ≤ 1000) {i : Nat} (hi : i < n) (R : List (List Int)) (h : Ev (fun q => marchlandref05_closed.l0 q (Ys n (i + 1)) ((i + 1 : Nat) : Int) (n : Int) E I) R) :
  ∀ d j : Nat, j + d = n → Ev (fun q => marchlandref05_closed.l1 q (Xs n i j) (i : Int) (j : Int) (n : Int) E I) R
 | 0, j, hj => by
  obtain rfl : j = n := by omega
  have e : Xs j i j = Ys j (i + 1) := ls_congr fun a ha => by
   by_cases c : a = i
   ·rw [if_pos c, if_pos (by omega), c]; exact ls_congr fun b hb => if_pos hb
   ·rw [if_neg c]
    by_cases d : a < i
    ·rw [if_pos d, if_pos (by omega)]
    ·rw [if_neg d, if_neg (by omega)]
  obtain ⟨K, h⟩ := h
  refine ⟨K + 1, fun q hq => ?_⟩
  obtain ⟨q, rfl⟩ : ∃ m, q = m + 1 := ⟨q - 1, by omega⟩
  show marchlandref05_closed.l1 (q + 1) _ _ _ _ _ _ = _
  rw [marchlandref05_closed.l1, if_neg (by omega), e, w64 (by omega)]
  exact h q (by omega)
 | d + 1, j, hj => by
  have hjn : j < n := by omega
  obtain ⟨K, ih⟩ := closed_l1 hn hi R h d (j + 1) (by omega)
  refine ⟨K + 1, fun q hq => ?_⟩
  obtain ⟨q, rfl⟩ : ∃ m, q = m + 1 := ⟨q - 1, by omega⟩
  have ih := ih q (by omega)
  dsimp only at ih
  have r1 : rd_L8 (Xs n i j) (i : Int) = Ls n (Xr i j) := by unfold Xs; rw [ls_rdL n _ hi, if_pos rfl]
  have s1 : ∀ ρ : Nat → Int, (Xs n i j).set i (Ls n ρ) = Ls n fun a => if a = i then Ls n ρ else if a < i then Ls n (D0 a) else [] := fun ρ => by
   unfold Xs; rw [ls_set]; refine ls_congr fun a _ => ?_
   by_cases c : a = i
   ·rw [if_pos c, if_pos c]
   ·rw [if_neg c, if_neg c, if_neg c]
  have s2 : ∀ ρ σ : Nat → Int, (Ls n fun a => if a = i then Ls n ρ else if a < i then Ls n (D0 a) else []).set i (Ls n σ) = Ls n fun a => if a = i then Ls n σ else if a < i then Ls n (D0 a) else [] := fun ρ σ => by
   rw [ls_set]; refine ls_congr fun a _ => ?_
   by_cases c : a = i
   ·rw [if_pos c, if_pos c]
   ·rw [if_neg c, if_neg c, if_neg c]
  show marchlandref05_closed.l1 (q + 1) _ _ _ _ _ _ = _
  rw [marchlandref05_closed.l1, if_pos (by omega), if_pos (by omega), show (Xs n i j).length = n from ls_len n _, if_pos (by omega), if_pos (by omega), r1, ls_len, if_pos (by omega), Int.toNat_natCast, Int.toNat_natCast, ls_set, s1, Option.bind_some, w64 (by omega)]
  by_cases c : i = j
  ·rw [if_pos (by omega), ls_rdL n _ hi, if_pos rfl, ls_len, if_pos (by omega), ls_set n (fun b => if b = j then 18446744073709551615 else Xr i j b) j 0, s2]
   have e : (fun b => if b = j then 0 else if b = j then (18446744073709551615 : Int) else Xr i j b) = Xr i (j + 1) := by
    funext b; unfold Xr D0
    by_cases c1 : b = j
    ·have h1 : b < j + 1 := by omega
     have h2 : i = b := by omega
     rw [if_pos c1, if_pos h1, if_pos h2]
    ·rw [if_neg c1, if_neg c1]
     by_cases c2 : b < j
     ·rw [if_pos c2, if_pos (show b < j + 1 by omega)]
     ·rw [if_neg c2, if_neg (show ¬ b < j + 1 by omega)]
   rw [e]; exact ih
  ·rw [if_neg (by omega)]
   have e : (fun b => if b = j then (18446744073709551615 : Int) else Xr i j b) = Xr i (j + 1) := by
    funext b; unfold Xr D0 N
    by_cases c1 : b = j
    ·rw [if_pos c1, if_pos (show b < j + 1 by omega), if_neg (show ¬ i = b by omega)]
    ·rw [if_neg c1]
     by_cases c2 : b < j
     ·rw [if_pos c2, if_pos (show b < j + 1 by omega)]
     ·rw [if_neg c2, if_neg (show ¬ b < j + 1 by omega)]
   rw [e]; exact ih
theorem closed_l0 (hE : WE9 n E) (hn : n ≤ 1000) (hl : E.length ≤ 1000) : ∀ d i : Nat, i + d = n → Ev (fun q => marchlandref05_closed.l0 q (Ys n i) (i : Int) (n : Int) E I) (mat n (fun a => cl (E.map ed9) a n))
 | 0, i, hi => by
  obtain rfl : i = n := by omega
  have e : Ys i i = mat i (fun a => cl (E.map ed9) a 0) := ls_congr fun a ha => if_pos ha
  obtain ⟨K, h⟩ := closed_l2 (I := I) hE hn hl i 0 (by omega)
  refine ⟨K + 1, fun q hq => ?_⟩
  obtain ⟨q, rfl⟩ : ∃ m, q = m + 1 := ⟨q - 1, by omega⟩
  show marchlandref05_closed.l0 (q + 1) _ _ _ _ _ = _
  rw [marchlandref05_closed.l0, if_neg (by omega), e]
  exact h q (by omega)
 | d + 1, i, hi => by
  have hin : i < n := by omega
  obtain ⟨K, h⟩ := closed_l1 hn hin _ (closed_l0 hE hn hl d (i + 1) (by omega)) n 0 (by omega)
  have e : (Ys n i).set i (List.replicate n 0) = Xs n i 0 := by
   unfold Ys Xs
   rw [ls_rep, ls_set]
   refine ls_congr fun a _ => ?_
   by_cases c : a = i
   ·rw [if_pos c, if_pos c]; exact ls_congr fun b _ => by unfold Xr; rw [if_neg (by omega)]
   ·rw [if_neg c, if_neg c]
  refine ⟨K + 1, fun q hq => ?_⟩
  obtain ⟨q, rfl⟩ : ∃ m, q = m + 1 := ⟨q - 1, by omega⟩
  show marchlandref05_closed.l0 (q + 1) _ _ _ _ _ = _
  rw [marchlandref05_closed.l0, if_pos (by omega), if_pos (by omega), if_pos (by omega), if_pos (by omega), show (Ys n i).length = n from ls_len n _, if_pos (by omega), Int.toNat_natCast, Int.toNat_natCast, e]
  exact h q (by omega)
end
theorem closed_ev {n : Nat} {E : List S75} (I : List Int) (hE : WE9 n E) (hn : n ≤ 1000) (hl : E.length ≤ 1000) : Ev (fun q => marchlandref05_closed.f q (n : Int) E I) (mat n (wk (E.map ed9) n)) := by
 have e : mat n (fun a => cl (E.map ed9) a n) = mat n (wk (E.map ed9) n) := mat_congr fun i j hi hj => cl_ways (we9_ok hE) hi hj
 obtain ⟨K, h⟩ := closed_l0 (I := I) hE hn hl n 0 (by omega)
 rw [e] at h
 have e2 : List.replicate n ([] : List Int) = Ys n 0 := by unfold Ys; rw [ls_rep]; exact ls_congr fun a _ => by rw [if_neg (by omega)]
 refine ⟨K, fun q hq => ?_⟩
 show marchlandref05_closed.f q (n : Int) E I = _
 unfold marchlandref05_closed.f
 rw [if_pos (by omega), if_pos (by omega), Int.toNat_natCast, e2]
 exact h q hq
end Go.Proofs.YtgeldmhgbnamcaaDoor.PureQ
end
section
namespace Go.Proofs.YtgeldmhgbnamcaaDoor.Q
open Go.RowKit Go.Proofs.YtgeldmhgbnamcaaDoorW.PrintWords Go.Proofs.YtgeldmhgbnamcaaDoorW.PrintLast Go.Proofs.YtgeldmhgbnamcaaDoorW.PrintMore
attribute [local go_sem] max2_int min2_int max_two min_two max_three min_three max_four min_four
set_option linter.unusedVariables false
set_option linter.unusedSimpArgs false
def marchlandlaw05_To.l0 : Nat → Int → Int → List (S75) → List Int → Int → List (S127) → List Int → Option (Int × (List (S127)) × List Int)
  | 0, _, _, _, _, _, _, _ => none
  | k + 1, x4, x239000, x239001, x239002, x247000, x247001, x247002 => if x4 < (x239001.length : Int) then (if 0 ≤ x4 then (if x247001.length < 5864062014805 then (marchlandlaw05_To.l0 k (wrap64 (x4 + 1)) x239000 x239001 x239002 x247000 (x247001 ++ [(⟨(rd_T75 x239001 x4).f0, (rd_T75 x239001 x4).f1, (rd_T75 x239001 x4).f2⟩ : S127)]) x247002) else (none)) else (none)) else (some (x247000, x247001, x247002))
def marchlandlaw05_To.f (k : Nat) (a0_0 : Int) (l0_1 : List (S75)) (l0_2 : List Int) : Option (Int × (List (S127)) × List Int) := (some (([] : List Int) : List Int)).bind fun y240 => (if y240.length + l0_2.length < 17592186044416 then (marchlandlaw05_To.l0 k 0 a0_0 l0_1 l0_2 a0_0 ([] : List (S127)) (y240 ++ l0_2)) else (none))
def marchlandlaw05_To.T1 : Bool × List (List Nat × List Nat) := (true, [([], []), ([0], [0]), ([], []), ([], []), ([3], [3]), ([2, 4], [2, 4]), ([1, 5], [1, 5]), ([], []), ([7, 6, 5, 0, 1, 2, 3, 4, 5, 6, 7], [6, 7])])
def marchlandlaw05_To.B1 : List Nat := [0, 1, 0, 0, 8, 28, 63, 0, 255]
theorem marchlandlaw05_To.tab1 : rtab .any (opsOf Tryd.f35 1) = marchlandlaw05_To.T1 := by kernel_rfl
theorem marchlandlaw05_To.bits1 : waitsOk marchlandlaw05_To.T1.2 marchlandlaw05_To.B1 = true := by kernel_rfl
def marchlandlaw05_To.T5 : Bool × List (List Nat × List Nat) := (true, [([], []), ([0], [0]), ([], []), ([2], [2]), ([], []), ([3, 4], [3, 4]), ([5], [5]), ([6], [6]), ([], []), ([8], [8]), ([], []), ([9, 10], [9, 10]), ([11], [11]), ([12], [12]), ([], []), ([14], [14]), ([], []), ([15, 16], [15, 16]), ([17], [17]), ([18], [18]), ([7, 13, 19], [7, 13, 19]), ([20], [20]), ([1, 21], [1, 21]), ([0, 1, 2, 3, 4, 5, 6, 7, 8, 9, 10, 11, 12, 13, 14, 15, 16, 17, 18, 19, 20, 21, 22], []), ([23, 22, 22, 0, 1, 2, 3, 4, 5, 6, 7, 8, 9, 10, 11, 12, 13, 14, 15, 16, 17, 18, 19, 20, 21, 22], [22, 23])])
def marchlandlaw05_To.B5 : List Nat := [0, 1, 0, 4, 0, 28, 60, 124, 0, 256, 0, 1792, 3840, 7936, 0, 16384, 0, 114688, 245760, 507904, 1048572, 2097148, 4194303, 8388607, 16777215]
theorem marchlandlaw05_To.tab5 : rtab .any (opsOf Tryd.f35 5) = marchlandlaw05_To.T5 := by kernel_rfl
theorem marchlandlaw05_To.bits5 : waitsOk marchlandlaw05_To.T5.2 marchlandlaw05_To.B5 = true := by kernel_rfl
set_option maxHeartbeats 8000000 in
set_option maxRecDepth 100000 in
theorem marchlandlaw05_To.calls (k : Nat) (a0_0 : Int) (A0_1 : Option Addr) (c0_1 : Nat) (l0_1 : List (S75)) (A0_2 : Option Addr) (c0_2 : Nat) (l0_2 : List Int) (r1 : Int) (r2 : List (S127)) (r3 : List Int) (w : World) (hr0_1 : Kd.C k75 w A0_1 l0_1.length l0_1) (hc0_1 : l0_1.length ≤ c0_1) (hr0_2 : Kd.C (Kd.int .i64) w A0_2 l0_2.length l0_2) (hc0_2 : l0_2.length ≤ c0_2) (h : marchlandlaw05_To.f k a0_0 l0_1 l0_2 = some (r1, r2, r3)) :
    Calls Tryd.prog 35 #[.agg #[.int .i64 a0_0, .slice A0_1 l0_1.length c0_1, .slice A0_2 l0_2.length c0_2]] w fun e w' => ∃ v1_ v2_ : Value, e = .returned (.agg #[.int .i64 r1, v1_, v2_]) ∧ Kd.R k127 127 w' w.heap.size (fun _ => True) v1_ r2 ∧ Kd.R (Kd.int .i64) 3 w' w.heap.size (fun _ => True) v2_ r3 ∧ Below w.heap.size w w' := by
  have hu59 := Tryd.underlying59
  have hu64 := Tryd.underlying64
  have hu127 := Tryd.underlying127
  have HR0_1 := Aside0.mk hr0_1
  have HC0_1 := Aside0.mk hc0_1
  clear hr0_1 hc0_1
  have HR0_2 := Aside0.mk hr0_2
  have HC0_2 := Aside0.mk hc0_2
  clear hr0_2 hc0_2
  have HB := Aside0.mk (Below.refl w.heap.size w)
  have H : ((some (([] : List Int) : List Int)).bind fun y240 => (if y240.length + l0_2.length < 17592186044416 then (marchlandlaw05_To.l0 k 0 a0_0 l0_1 l0_2 a0_0 ([] : List (S127)) (y240 ++ l0_2)) else (none))) = some (r1, r2, r3) := h
  clear h
  obtain ⟨y240, hy240⟩ : ∃ y_ : List Int, y_ = (([] : List Int)) := ⟨_, rfl⟩
  replace H : (if y240.length + l0_2.length < 17592186044416 then (marchlandlaw05_To.l0 k 0 a0_0 l0_1 l0_2 a0_0 ([] : List (S127)) (y240 ++ l0_2)) else (none)) = some (r1, r2, r3) := by first | (rw [hy240]; with_reducible exact H) | (have H2_ := (Option.bind_some _ _).symm.trans H; rw [hy240]; with_reducible exact H2_) | (have H2_ := (Option.bind_some _ _).symm.trans H; with_reducible exact H2_) | with_reducible exact H | (rw [hy240]; exact H) | exact H
  have Ny240 := Aside0.mk hy240
  clear hy240
  by_cases c2 : y240.length + l0_2.length < 17592186044416
  · rw [if_pos c2] at H
    have LMc2 := Aside0.mk c2
    clear c2
    obtain ⟨y243, hy243⟩ : ∃ y_ : List Int, y_ = (y240 ++ l0_2) := ⟨_, rfl⟩
    replace H : (marchlandlaw05_To.l0 k 0 a0_0 l0_1 l0_2 a0_0 ([] : List (S127)) y243) = some (r1, r2, r3) := by first | (rw [hy243]; with_reducible exact H) | (have H2_ := (Option.bind_some _ _).symm.trans H; rw [hy243]; with_reducible exact H2_) | (have H2_ := (Option.bind_some _ _).symm.trans H; with_reducible exact H2_) | with_reducible exact H | (rw [hy243]; exact H) | exact H
    have Ny243 := Aside0.mk hy243
    clear hy243
    have H' := Aside0.mk H
    clear H
    go_enter Tryd.func35, Tryd.ntmps35
    try go_wp2_with (first | ((with_reducible refine gate_dst (N := 1) rfl ?_); refine box_event ?hg (N := 1) ?hd (cs := #[.int .i64 a0_0, .slice A0_1 l0_1.length c0_1, .slice A0_2 l0_2.length c0_2]) (t := 59) ?hr ?_; (case hd => rfl); (case hg => rfl); (case hr => first | (go_simp; done) | (go_simp; rfl)); intro gb238 hg w3 hbox hb; have n0_ := Aside0.mk (below_step (by repeat (first | (with_reducible first | exact HB.out | apply below_alloc | apply pw_below_drewN | apply below_drew1) | exact HB.out)) hb); have n1_ := Aside0.mk (hbox); have n2_ := Aside0.mk ((by rw [hg]; exact (below_size (by repeat (first | (with_reducible first | exact HB.out | apply below_alloc | apply pw_below_drewN | apply below_drew1) | exact HB.out))) : w.heap.size ≤ gb238)); have n3_ := Aside0.mk ((by rw [hg]; exact (below_size (by repeat (first | (with_reducible first | exact HB.out | apply below_alloc | apply pw_below_drewN | apply below_drew1) | exact HB.out))) : w.heap.size ≤ gb238)); clear HB; have HB := n0_; have BK238 := n1_; have GW238 := n2_; have GE238 := n3_; clear n0_ n1_ n2_ n3_; clear hb hbox hg) | ((with_reducible refine gate_dst (N := 2) rfl ?_); refine box_event ?hg (N := 2) ?hd (cs := #[.int .i64 0, .slice none 0 0, .slice none 0 0]) (t := 64) ?hr ?_; (case hd => rfl); (case hg => rfl); (case hr => first | (go_simp; done) | (go_simp; rfl)); intro gb239 hg w4 hbox hb; have n0_ := Aside0.mk (blk_below (g := gb238) (o := .cells #[.int .i64 a0_0, .slice A0_1 l0_1.length c0_1, .slice A0_2 l0_2.length c0_2] 59 (0, 0)) (by (with_reducible repeat (first | refine blk_drewN ?_ _ | refine blk_drew ?_ | refine blk_alloc ?_ _)); exact BK238.out) hb); have n1_ := Aside0.mk (below_step (by repeat (first | (with_reducible first | exact HB.out | apply below_alloc | apply pw_below_drewN | apply below_drew1 | refine below_set ?_ GE238.out) | exact HB.out)) hb); have n2_ := Aside0.mk (hbox); have n3_ := Aside0.mk ((by rw [hg]; exact (below_size (by repeat (first | (with_reducible first | exact HB.out | apply below_alloc | apply pw_below_drewN | apply below_drew1 | refine below_set ?_ GE238.out) | exact HB.out))) : w.heap.size ≤ gb239)); have n4_ := Aside0.mk ((by rw [hg]; exact (below_size (by repeat (first | (with_reducible first | exact HB.out | apply below_alloc | apply pw_below_drewN | apply below_drew1 | refine below_set ?_ GE238.out) | exact HB.out))) : w.heap.size ≤ gb239)); have n5_ := Aside0.mk ((by rw [hg]; exact Nat.ne_of_lt (blk_lt (g := gb238) (o := .cells #[.int .i64 a0_0, .slice A0_1 l0_1.length c0_1, .slice A0_2 l0_2.length c0_2] 59 (0, 0)) (by (with_reducible repeat (first | refine blk_drewN ?_ _ | refine blk_drew ?_ | refine blk_alloc ?_ _)); exact BK238.out)) : gb238 ≠ gb239)); have n6_ := Aside0.mk ((by rw [hg]; exact Nat.ne_of_gt (blk_lt (g := gb238) (o := .cells #[.int .i64 a0_0, .slice A0_1 l0_1.length c0_1, .slice A0_2 l0_2.length c0_2] 59 (0, 0)) (by (with_reducible repeat (first | refine blk_drewN ?_ _ | refine blk_drew ?_ | refine blk_alloc ?_ _)); exact BK238.out)) : gb239 ≠ gb238)); clear BK238; clear HB; have BK238 := n0_; have HB := n1_; have BK239 := n2_; have GW239 := n3_; have GE239 := n4_; have NB238_239 := n5_; have NB239_238 := n6_; clear n0_ n1_ n2_ n3_ n4_ n5_ n6_; clear hb hbox hg))
    have n0_ := Aside0.mk (blk_drew BK238.out)
    have n1_ := Aside0.mk (blk_drew BK239.out)
    have n2_ := Aside0.mk (below_drew1 HB.out)
    clear BK238
    clear BK239
    clear HB
    have BK238 := n0_
    have BK239 := n1_
    have HB := n2_
    clear n0_ n1_ n2_
    refine start_ (n := 9) (S := fun w' => w'.cell? ⟨gb238, 0, none⟩ = some (.int .i64 a0_0) ∧ w'.cell? ⟨gb238, 1, none⟩ = some (.slice A0_1 l0_1.length c0_1) ∧ w'.cell? ⟨gb238, 2, none⟩ = some (.slice A0_2 l0_2.length c0_2)) (ds := []) #[false, false, false, false, false, false, false, false, false] (by kernel_rfl) rfl rfl ⟨(blk_cell BK238.out 0).trans rfl, (blk_cell BK238.out 1).trans rfl, (blk_cell BK238.out 2).trans rfl⟩ (fun hHeld => ?_); refine with_tabW marchlandlaw05_To.tab1 marchlandlaw05_To.bits1 (fun HT_ HW_ => ?_)
    generalize w4.drew = w5 at BK238 BK239 HB hHeld ⊢
    refine pure_ (i := 0) (N := some 5) (v := ?_) (a' := ?_) #[true, false, false, false, false, false, false, false, false] rfl rfl (any_of HT_.out (by kernel_rfl)) (fun _ _ _ h => h) (Or.inl ⟨by rfl, ?_⟩) ?_ ?_
    rotate_left
    · intro w'
      go_simp
      with_reducible rfl
    rotate_left
    · simp only [Act.put, List.setIfInBounds_toArray, List.set_cons_zero, List.set_cons_succ, i64_w, i32_w]
      rfl
    refine pure_ (i := 3) (N := some 8) (v := ?_) (a' := ?_) #[true, false, false, true, false, false, false, false, false] rfl rfl (any_of HT_.out (by kernel_rfl)) (fun _ _ _ h => h) (Or.inl ⟨by rfl, ?_⟩) ?_ ?_
    rotate_left
    · intro w'
      go_simp
      with_reducible rfl
    rotate_left
    · simp only [Act.put, List.setIfInBounds_toArray, List.set_cons_zero, List.set_cons_succ, i64_w, i32_w]
      rfl
    refine take_ (i := 1) (N := some 6) (v := ?_) (a' := ?_) #[true, true, false, true, false, false, false, false, false] rfl rfl (take_ofW HT_.out HW_.out (by kernel_rfl)) (fun _ _ _ h => h) (Or.inl ⟨by rfl, ?_⟩) hHeld ?_ ?_
    rotate_left
    · rintro w' ⟨s0, s1, s2⟩
      go_simp
      with_reducible rfl
    rotate_left
    · simp only [Act.put, List.setIfInBounds_toArray, List.set_cons_zero, List.set_cons_succ, i64_w, i32_w]
      rfl
    refine take_ (i := 4) (N := some 9) (v := ?_) (a' := ?_) #[true, true, false, true, true, false, false, false, false] rfl rfl (take_ofW HT_.out HW_.out (by kernel_rfl)) (fun _ _ _ h => h) (Or.inl ⟨by rfl, ?_⟩) hHeld ?_ ?_
    rotate_left
    · rintro w' ⟨s0, s1, s2⟩
      go_simp
      with_reducible rfl
    rotate_left
    · simp only [Act.put, List.setIfInBounds_toArray, List.set_cons_zero, List.set_cons_succ, i64_w, i32_w]
      rfl
    refine join_ (σ := Value × Value × Nat) 1 #[true, true, true, true, true, true, true, true, false] (fun s_ => [(7, s_.1), (10, s_.2.1), (3, .pointer (some ⟨s_.2.2, 0, none⟩)), (11, .agg #[.int .i64 a0_0, .slice none 0 0, s_.2.1])]) (fun s_ w' => (w'.cell? ⟨gb238, 0, none⟩ = some (.int .i64 a0_0) ∧ w'.cell? ⟨gb238, 1, none⟩ = some (.slice A0_1 l0_1.length c0_1) ∧ w'.cell? ⟨gb238, 2, none⟩ = some (.slice A0_2 l0_2.length c0_2)) ∧ (Kd.R (Kd.int .i64) 3 w' w.heap.size (fun _ => True) s_.2.1 y243) ∧ (w'.heap[gb238]? = some (.cells #[.int .i64 a0_0, .slice A0_1 l0_1.length c0_1, .slice A0_2 l0_2.length c0_2] 59 (0, 0))) ∧ (w'.heap[gb239]? = some (.cells #[.int .i64 0, .slice none 0 0, .slice none 0 0] 64 (0, 0))) ∧ (w'.heap[s_.2.2]? = some (.cells #[.int .i64 0, .slice none 0 0, .slice none 0 0] 64 (0, 0))) ∧ (w.heap.size ≤ s_.2.2) ∧ (w.heap.size ≤ s_.2.2) ∧ (gb238 ≠ s_.2.2) ∧ (s_.2.2 ≠ gb238) ∧ (gb239 ≠ s_.2.2) ∧ (s_.2.2 ≠ gb239) ∧ (Below w.heap.size w w')) ?_ ?_
    rotate_left
    · intro hCont
      refine two_ (i := 2) (j := 7) (Ni := some 7) (Nj := some 3) #[true, true, true, true, true, false, false, false, false] #[true, true, false, true, true, false, false, true, false] rfl rfl rfl rfl (two_of HT_.out (by kernel_rfl)) (by decide) (by decide) (fun K hK => ?_) (fun K hK => ?_)
      · skip
        refine Kd.R_lit_step (Kd.int .i64) _ 3 ?hg (N := 7) ?hd (xs := ([] : List Int)) (inner := []) (ok := fun _ => True) (okp := fun _ => True) ?hr ?hp (fun _ hk => hk) trivial (Below.refl _ _) (Nat.le_refl _) (by simp) ?_; (case hd => rfl); (case hg => rfl); (case hr => first | (go_simp; done) | (go_simp; rfl)); (case hp => exact (Reps.none _ _))
        intro v241 w6 ho7 hb hg_ hnew_
        clear hg_ hnew_
        (first | rw [← Ny240.out] at ho7 | (simp only [Int.reduceToNat] at ho7; rw [← Ny240.out] at ho7))
        have n0_ := Aside0.mk (Kd.R_lower ho7 (below_size (by repeat (first | (with_reducible first | exact HB.out | apply below_alloc | apply pw_below_drewN | apply below_drew1 | refine below_set ?_ GE238.out | refine below_set ?_ GE239.out) | exact HB.out))))
        have n1_ := Aside0.mk (blk_below (g := gb238) (o := .cells #[.int .i64 a0_0, .slice A0_1 l0_1.length c0_1, .slice A0_2 l0_2.length c0_2] 59 (0, 0)) (by (with_reducible repeat (first | refine blk_drewN ?_ _ | refine blk_drew ?_ | refine blk_alloc ?_ _)); exact BK238.out) hb)
        have n2_ := Aside0.mk (blk_below (g := gb239) (o := .cells #[.int .i64 0, .slice none 0 0, .slice none 0 0] 64 (0, 0)) (by (with_reducible repeat (first | refine blk_drewN ?_ _ | refine blk_drew ?_ | refine blk_alloc ?_ _)); exact BK239.out) hb)
        have n3_ := Aside0.mk (below_step (by repeat (first | (with_reducible first | exact HB.out | apply below_alloc | apply pw_below_drewN | apply below_drew1 | refine below_set ?_ GE238.out | refine below_set ?_ GE239.out) | exact HB.out)) hb)
        clear BK238
        clear BK239
        clear HB
        have HO242 := n0_
        have BK238 := n1_
        have BK239 := n2_
        have HB := n3_
        clear n0_ n1_ n2_ n3_
        clear hb ho7
        refine hK.out _ _ ⟨(blk_cell BK238.out 0).trans rfl, (blk_cell BK238.out 1).trans rfl, (blk_cell BK238.out 2).trans rfl⟩ (fun hHeld => ?_)
        clear hK K
        refine norm_ (a' := ?_) ?_ ?_
        rotate_left
        · show Act.put _ (some 7) _ = _
          simp only [Act.put, List.setIfInBounds_toArray, List.set_cons_zero, List.set_cons_succ, i64_w, i32_w]
          rfl
        refine two_ (i := 5) (j := 7) (Ni := some 10) (Nj := some 3) #[true, true, true, true, true, true, false, false, false] #[true, true, true, true, true, false, false, true, false] rfl rfl rfl rfl (two_of HT_.out (by kernel_rfl)) (by decide) (by decide) (fun K hK => ?_) (fun K hK => ?_)
        · skip
          refine Kd.R_append_rows_step (Kd.int .i64) (w0 := w) w.heap.size (by rfl) (.tmp 7) (.tmp 9) 57 3 (.int .i64 0) 8 rfl Tryd.underlying57 info3 rfl (by decide) (by omega) v241 y240 l0_2 _ _ _ (fun _ => True) (fun _ => False) rfl rfl ?aO ?aR (fun _ _ h => h) (fun _ h => h.elim) ?aF ?aB ?aS ?aL ?_
          (case aR => repeat (first | exact (Kd.C_below HR0_2.out HB.out) | (with_reducible refine Kd.C_alloc ?_ _) | (with_reducible refine Kd.C_drewN ?_ _) | (with_reducible refine Kd.C_drew ?_)))
          (case aB => exact (by repeat (first | (with_reducible first | exact HB.out | apply below_alloc | apply pw_below_drewN | apply below_drew1 | refine below_set ?_ GE238.out | refine below_set ?_ GE239.out) | exact HB.out)))
          (case aF => exact (fun _ _ => trivial))
          (case aO => exact (by (with_reducible repeat (first | apply Kd.R_alloc | apply Kd.R_drewN | apply Kd.R_drew)); exact HO242.out))
          (case aS => exact (below_size (by repeat (first | (with_reducible first | exact HB.out | apply below_alloc | apply pw_below_drewN | apply below_drew1 | refine below_set ?_ GE238.out | refine below_set ?_ GE239.out) | exact HB.out))))
          (case aL => have := LMc2.out; omega)
          intro v244 w8 ho hb hg hat
          rw [← Ny243.out] at ho
          have n0_ := Aside0.mk (blk_grown (g := gb238) (o := .cells #[.int .i64 a0_0, .slice A0_1 l0_1.length c0_1, .slice A0_2 l0_2.length c0_2] 59 (0, 0)) (by (with_reducible repeat (first | refine blk_drewN ?_ _ | refine blk_drew ?_ | refine blk_alloc ?_ _)); exact BK238.out) hg (Kd.R_ne HO242.out BK238.out (by decide)))
          have n1_ := Aside0.mk (blk_grown (g := gb239) (o := .cells #[.int .i64 0, .slice none 0 0, .slice none 0 0] 64 (0, 0)) (by (with_reducible repeat (first | refine blk_drewN ?_ _ | refine blk_drew ?_ | refine blk_alloc ?_ _)); exact BK239.out) hg (Kd.R_ne HO242.out BK239.out (by decide)))
          have n2_ := Aside0.mk (hb)
          have n3_ := Aside0.mk (ho)
          clear BK238
          clear BK239
          clear HB
          clear HO242
          have BK238 := n0_
          have BK239 := n1_
          have HB := n2_
          have HO245 := n3_
          clear n0_ n1_ n2_ n3_
          clear ho hb hg hat
          obtain ⟨Ao9, co9, eo9⟩ := Kd.R_slice HO245.out
          (first | subst eo9 | (injection eo9 with f1_ f2_ f3_; have f4_ := f1_.symm; have f5_ := f3_.symm; clear f1_ f2_ f3_; subst f4_; subst f5_))
          refine hK.out _ _ ⟨(blk_cell BK238.out 0).trans rfl, (blk_cell BK238.out 1).trans rfl, (blk_cell BK238.out 2).trans rfl⟩ (fun hHeld => ?_)
          clear hK K
          refine norm_ (a' := ?_) ?_ ?_
          rotate_left
          · show Act.put _ (some 10) _ = _
            simp only [Act.put, List.setIfInBounds_toArray, List.set_cons_zero, List.set_cons_succ, i64_w, i32_w]
            rfl
          refine pure_ (i := 6) (N := some 11) (v := ?_) (a' := ?_) #[true, true, true, true, true, true, true, false, false] rfl rfl (any_of HT_.out (by kernel_rfl)) (fun _ _ _ h => h) (Or.inl ⟨by rfl, ?_⟩) ?_ ?_
          rotate_left
          · intro w'
            go_simp
            with_reducible rfl
          rotate_left
          · simp only [Act.put, List.setIfInBounds_toArray, List.set_cons_zero, List.set_cons_succ, i64_w, i32_w]
            rfl
          refine one_ (i := 7) (N := some 3) #[true, true, true, true, true, true, true, true, false] rfl rfl (one_of HT_.out (by kernel_rfl)) (by decide) (fun K hK => ?_)
          refine box_step ?hg (N := 3) ?hd (cs := #[.int .i64 0, .slice none 0 0, .slice none 0 0]) (t := 64) ?hr ?_; (case hd => rfl); (case hg => rfl); (case hr => first | (go_simp; done) | (go_simp; rfl))
          intro gb246 hg w10 hbox hb
          have n0_ := Aside0.mk (Kd.R_below (by (with_reducible repeat (first | apply Kd.R_alloc | apply Kd.R_drewN | apply Kd.R_drew)); exact HO245.out) hb)
          have n1_ := Aside0.mk (blk_below (g := gb238) (o := .cells #[.int .i64 a0_0, .slice A0_1 l0_1.length c0_1, .slice A0_2 l0_2.length c0_2] 59 (0, 0)) (by (with_reducible repeat (first | refine blk_drewN ?_ _ | refine blk_drew ?_ | refine blk_alloc ?_ _)); exact BK238.out) hb)
          have n2_ := Aside0.mk (blk_below (g := gb239) (o := .cells #[.int .i64 0, .slice none 0 0, .slice none 0 0] 64 (0, 0)) (by (with_reducible repeat (first | refine blk_drewN ?_ _ | refine blk_drew ?_ | refine blk_alloc ?_ _)); exact BK239.out) hb)
          have n3_ := Aside0.mk (below_step (by repeat (first | (with_reducible first | exact HB.out | apply below_alloc | apply pw_below_drewN | apply below_drew1 | refine below_set ?_ GE238.out | refine below_set ?_ GE239.out) | exact HB.out)) hb)
          have n4_ := Aside0.mk (hbox)
          have n5_ := Aside0.mk ((by rw [hg]; exact (below_size (by repeat (first | (with_reducible first | exact HB.out | apply below_alloc | apply pw_below_drewN | apply below_drew1 | refine below_set ?_ GE238.out | refine below_set ?_ GE239.out) | exact HB.out))) : w.heap.size ≤ gb246))
          have n6_ := Aside0.mk ((by rw [hg]; exact (below_size (by repeat (first | (with_reducible first | exact HB.out | apply below_alloc | apply pw_below_drewN | apply below_drew1 | refine below_set ?_ GE238.out | refine below_set ?_ GE239.out) | exact HB.out))) : w.heap.size ≤ gb246))
          have n7_ := Aside0.mk ((by rw [hg]; exact Nat.ne_of_lt (blk_lt (g := gb238) (o := .cells #[.int .i64 a0_0, .slice A0_1 l0_1.length c0_1, .slice A0_2 l0_2.length c0_2] 59 (0, 0)) (by (with_reducible repeat (first | refine blk_drewN ?_ _ | refine blk_drew ?_ | refine blk_alloc ?_ _)); exact BK238.out)) : gb238 ≠ gb246))
          have n8_ := Aside0.mk ((by rw [hg]; exact Nat.ne_of_gt (blk_lt (g := gb238) (o := .cells #[.int .i64 a0_0, .slice A0_1 l0_1.length c0_1, .slice A0_2 l0_2.length c0_2] 59 (0, 0)) (by (with_reducible repeat (first | refine blk_drewN ?_ _ | refine blk_drew ?_ | refine blk_alloc ?_ _)); exact BK238.out)) : gb246 ≠ gb238))
          have n9_ := Aside0.mk ((by rw [hg]; exact Nat.ne_of_lt (blk_lt (g := gb239) (o := .cells #[.int .i64 0, .slice none 0 0, .slice none 0 0] 64 (0, 0)) (by (with_reducible repeat (first | refine blk_drewN ?_ _ | refine blk_drew ?_ | refine blk_alloc ?_ _)); exact BK239.out)) : gb239 ≠ gb246))
          have n10_ := Aside0.mk ((by rw [hg]; exact Nat.ne_of_gt (blk_lt (g := gb239) (o := .cells #[.int .i64 0, .slice none 0 0, .slice none 0 0] 64 (0, 0)) (by (with_reducible repeat (first | refine blk_drewN ?_ _ | refine blk_drew ?_ | refine blk_alloc ?_ _)); exact BK239.out)) : gb246 ≠ gb239))
          clear HO245
          clear BK238
          clear BK239
          clear HB
          have HO245 := n0_
          have BK238 := n1_
          have BK239 := n2_
          have HB := n3_
          have BK246 := n4_
          have GW246 := n5_
          have GE246 := n6_
          have NB238_246 := n7_
          have NB246_238 := n8_
          have NB239_246 := n9_
          have NB246_239 := n10_
          clear n0_ n1_ n2_ n3_ n4_ n5_ n6_ n7_ n8_ n9_ n10_
          clear hb hbox hg
          refine hK.out _ _ ⟨(blk_cell BK238.out 0).trans rfl, (blk_cell BK238.out 1).trans rfl, (blk_cell BK238.out 2).trans rfl⟩ (fun hHeld => ?_)
          clear hK K
          refine norm_ (a' := ?_) ?_ ?_
          rotate_left
          · show Act.put _ (some 3) _ = _
            simp only [Act.put, List.setIfInBounds_toArray, List.set_cons_zero, List.set_cons_succ, i64_w, i32_w]
            rfl
          exact norm_ (by simp only [putAll, Act.put, List.setIfInBounds_toArray, List.set_cons_zero, List.set_cons_succ]) (hCont (v241, .slice Ao9 y243.length co9, gb246) _ ⟨hHeld, (by (with_reducible repeat (first | apply Kd.R_alloc | apply Kd.R_drewN | apply Kd.R_drew)); exact HO245.out), (by (with_reducible repeat (first | refine blk_drewN ?_ _ | refine blk_drew ?_ | refine blk_alloc ?_ _)); exact BK238.out), (by (with_reducible repeat (first | refine blk_drewN ?_ _ | refine blk_drew ?_ | refine blk_alloc ?_ _)); exact BK239.out), (by (with_reducible repeat (first | refine blk_drewN ?_ _ | refine blk_drew ?_ | refine blk_alloc ?_ _)); exact BK246.out), GW246.out, GE246.out, NB238_246.out, NB246_238.out, NB239_246.out, NB246_239.out, (by repeat (first | (with_reducible first | exact HB.out | apply below_alloc | apply pw_below_drewN | apply below_drew1 | refine below_set ?_ GE238.out | refine below_set ?_ GE239.out | refine below_set ?_ GE246.out) | exact HB.out))⟩)
        · skip
          refine box_step ?hg (N := 3) ?hd (cs := #[.int .i64 0, .slice none 0 0, .slice none 0 0]) (t := 64) ?hr ?_; (case hd => rfl); (case hg => rfl); (case hr => first | (go_simp; done) | (go_simp; rfl))
          intro gb246 hg w8 hbox hb
          have n0_ := Aside0.mk (Kd.R_below (by (with_reducible repeat (first | apply Kd.R_alloc | apply Kd.R_drewN | apply Kd.R_drew)); exact HO242.out) hb)
          have n1_ := Aside0.mk (blk_below (g := gb238) (o := .cells #[.int .i64 a0_0, .slice A0_1 l0_1.length c0_1, .slice A0_2 l0_2.length c0_2] 59 (0, 0)) (by (with_reducible repeat (first | refine blk_drewN ?_ _ | refine blk_drew ?_ | refine blk_alloc ?_ _)); exact BK238.out) hb)
          have n2_ := Aside0.mk (blk_below (g := gb239) (o := .cells #[.int .i64 0, .slice none 0 0, .slice none 0 0] 64 (0, 0)) (by (with_reducible repeat (first | refine blk_drewN ?_ _ | refine blk_drew ?_ | refine blk_alloc ?_ _)); exact BK239.out) hb)
          have n3_ := Aside0.mk (below_step (by repeat (first | (with_reducible first | exact HB.out | apply below_alloc | apply pw_below_drewN | apply below_drew1 | refine below_set ?_ GE238.out | refine below_set ?_ GE239.out) | exact HB.out)) hb)
          have n4_ := Aside0.mk (hbox)
          have n5_ := Aside0.mk ((by rw [hg]; exact (below_size (by repeat (first | (with_reducible first | exact HB.out | apply below_alloc | apply pw_below_drewN | apply below_drew1 | refine below_set ?_ GE238.out | refine below_set ?_ GE239.out) | exact HB.out))) : w.heap.size ≤ gb246))
          have n6_ := Aside0.mk ((by rw [hg]; exact (below_size (by repeat (first | (with_reducible first | exact HB.out | apply below_alloc | apply pw_below_drewN | apply below_drew1 | refine below_set ?_ GE238.out | refine below_set ?_ GE239.out) | exact HB.out))) : w.heap.size ≤ gb246))
          have n7_ := Aside0.mk ((by rw [hg]; exact Nat.ne_of_lt (blk_lt (g := gb238) (o := .cells #[.int .i64 a0_0, .slice A0_1 l0_1.length c0_1, .slice A0_2 l0_2.length c0_2] 59 (0, 0)) (by (with_reducible repeat (first | refine blk_drewN ?_ _ | refine blk_drew ?_ | refine blk_alloc ?_ _)); exact BK238.out)) : gb238 ≠ gb246))
          have n8_ := Aside0.mk ((by rw [hg]; exact Nat.ne_of_gt (blk_lt (g := gb238) (o := .cells #[.int .i64 a0_0, .slice A0_1 l0_1.length c0_1, .slice A0_2 l0_2.length c0_2] 59 (0, 0)) (by (with_reducible repeat (first | refine blk_drewN ?_ _ | refine blk_drew ?_ | refine blk_alloc ?_ _)); exact BK238.out)) : gb246 ≠ gb238))
          have n9_ := Aside0.mk ((by rw [hg]; exact Nat.ne_of_lt (blk_lt (g := gb239) (o := .cells #[.int .i64 0, .slice none 0 0, .slice none 0 0] 64 (0, 0)) (by (with_reducible repeat (first | refine blk_drewN ?_ _ | refine blk_drew ?_ | refine blk_alloc ?_ _)); exact BK239.out)) : gb239 ≠ gb246))
          have n10_ := Aside0.mk ((by rw [hg]; exact Nat.ne_of_gt (blk_lt (g := gb239) (o := .cells #[.int .i64 0, .slice none 0 0, .slice none 0 0] 64 (0, 0)) (by (with_reducible repeat (first | refine blk_drewN ?_ _ | refine blk_drew ?_ | refine blk_alloc ?_ _)); exact BK239.out)) : gb246 ≠ gb239))
          clear HO242
          clear BK238
          clear BK239
          clear HB
          have HO242 := n0_
          have BK238 := n1_
          have BK239 := n2_
          have HB := n3_
          have BK246 := n4_
          have GW246 := n5_
          have GE246 := n6_
          have NB238_246 := n7_
          have NB246_238 := n8_
          have NB239_246 := n9_
          have NB246_239 := n10_
          clear n0_ n1_ n2_ n3_ n4_ n5_ n6_ n7_ n8_ n9_ n10_
          clear hb hbox hg
          refine hK.out _ _ ⟨(blk_cell BK238.out 0).trans rfl, (blk_cell BK238.out 1).trans rfl, (blk_cell BK238.out 2).trans rfl⟩ (fun hHeld => ?_)
          clear hK K
          refine norm_ (a' := ?_) ?_ ?_
          rotate_left
          · show Act.put _ (some 3) _ = _
            simp only [Act.put, List.setIfInBounds_toArray, List.set_cons_zero, List.set_cons_succ, i64_w, i32_w]
            rfl
          refine one_ (i := 5) (N := some 10) #[true, true, true, true, true, true, false, true, false] rfl rfl (one_of HT_.out (by kernel_rfl)) (by decide) (fun K hK => ?_)
          refine Kd.R_append_rows_step (Kd.int .i64) (w0 := w) w.heap.size (by rfl) (.tmp 7) (.tmp 9) 57 3 (.int .i64 0) 8 rfl Tryd.underlying57 info3 rfl (by decide) (by omega) v241 y240 l0_2 _ _ _ (fun _ => True) (fun _ => False) rfl rfl ?aO ?aR (fun _ _ h => h) (fun _ h => h.elim) ?aF ?aB ?aS ?aL ?_
          (case aR => repeat (first | exact (Kd.C_below HR0_2.out HB.out) | (with_reducible refine Kd.C_alloc ?_ _) | (with_reducible refine Kd.C_drewN ?_ _) | (with_reducible refine Kd.C_drew ?_)))
          (case aB => exact (by repeat (first | (with_reducible first | exact HB.out | apply below_alloc | apply pw_below_drewN | apply below_drew1 | refine below_set ?_ GE238.out | refine below_set ?_ GE239.out | refine below_set ?_ GE246.out) | exact HB.out)))
          (case aF => exact (fun _ _ => trivial))
          (case aO => exact (by (with_reducible repeat (first | apply Kd.R_alloc | apply Kd.R_drewN | apply Kd.R_drew)); exact HO242.out))
          (case aS => exact (below_size (by repeat (first | (with_reducible first | exact HB.out | apply below_alloc | apply pw_below_drewN | apply below_drew1 | refine below_set ?_ GE238.out | refine below_set ?_ GE239.out | refine below_set ?_ GE246.out) | exact HB.out))))
          (case aL => have := LMc2.out; omega)
          intro v244 w9 ho hb hg hat
          rw [← Ny243.out] at ho
          have n0_ := Aside0.mk (blk_grown (g := gb238) (o := .cells #[.int .i64 a0_0, .slice A0_1 l0_1.length c0_1, .slice A0_2 l0_2.length c0_2] 59 (0, 0)) (by (with_reducible repeat (first | refine blk_drewN ?_ _ | refine blk_drew ?_ | refine blk_alloc ?_ _)); exact BK238.out) hg (Kd.R_ne HO242.out BK238.out (by decide)))
          have n1_ := Aside0.mk (blk_grown (g := gb239) (o := .cells #[.int .i64 0, .slice none 0 0, .slice none 0 0] 64 (0, 0)) (by (with_reducible repeat (first | refine blk_drewN ?_ _ | refine blk_drew ?_ | refine blk_alloc ?_ _)); exact BK239.out) hg (Kd.R_ne HO242.out BK239.out (by decide)))
          have n2_ := Aside0.mk (blk_grown (g := gb246) (o := .cells #[.int .i64 0, .slice none 0 0, .slice none 0 0] 64 (0, 0)) (by (with_reducible repeat (first | refine blk_drewN ?_ _ | refine blk_drew ?_ | refine blk_alloc ?_ _)); exact BK246.out) hg (Kd.R_ne HO242.out BK246.out (by decide)))
          have n3_ := Aside0.mk (hb)
          have n4_ := Aside0.mk (ho)
          clear BK238
          clear BK239
          clear BK246
          clear HB
          clear HO242
          have BK238 := n0_
          have BK239 := n1_
          have BK246 := n2_
          have HB := n3_
          have HO245 := n4_
          clear n0_ n1_ n2_ n3_ n4_
          clear ho hb hg hat
          obtain ⟨Ao10, co10, eo10⟩ := Kd.R_slice HO245.out
          (first | subst eo10 | (injection eo10 with f1_ f2_ f3_; have f4_ := f1_.symm; have f5_ := f3_.symm; clear f1_ f2_ f3_; subst f4_; subst f5_))
          refine hK.out _ _ ⟨(blk_cell BK238.out 0).trans rfl, (blk_cell BK238.out 1).trans rfl, (blk_cell BK238.out 2).trans rfl⟩ (fun hHeld => ?_)
          clear hK K
          refine norm_ (a' := ?_) ?_ ?_
          rotate_left
          · show Act.put _ (some 10) _ = _
            simp only [Act.put, List.setIfInBounds_toArray, List.set_cons_zero, List.set_cons_succ, i64_w, i32_w]
            rfl
          refine pure_ (i := 6) (N := some 11) (v := ?_) (a' := ?_) #[true, true, true, true, true, true, true, true, false] rfl rfl (any_of HT_.out (by kernel_rfl)) (fun _ _ _ h => h) (Or.inl ⟨by rfl, ?_⟩) ?_ ?_
          rotate_left
          · intro w'
            go_simp
            with_reducible rfl
          rotate_left
          · simp only [Act.put, List.setIfInBounds_toArray, List.set_cons_zero, List.set_cons_succ, i64_w, i32_w]
            rfl
          exact norm_ (by simp only [putAll, Act.put, List.setIfInBounds_toArray, List.set_cons_zero, List.set_cons_succ]) (hCont (v241, .slice Ao10 y243.length co10, gb246) _ ⟨hHeld, (by (with_reducible repeat (first | apply Kd.R_alloc | apply Kd.R_drewN | apply Kd.R_drew)); exact HO245.out), (by (with_reducible repeat (first | refine blk_drewN ?_ _ | refine blk_drew ?_ | refine blk_alloc ?_ _)); exact BK238.out), (by (with_reducible repeat (first | refine blk_drewN ?_ _ | refine blk_drew ?_ | refine blk_alloc ?_ _)); exact BK239.out), (by (with_reducible repeat (first | refine blk_drewN ?_ _ | refine blk_drew ?_ | refine blk_alloc ?_ _)); exact BK246.out), GW246.out, GE246.out, NB238_246.out, NB246_238.out, NB239_246.out, NB246_239.out, (by repeat (first | (with_reducible first | exact HB.out | apply below_alloc | apply pw_below_drewN | apply below_drew1 | refine below_set ?_ GE238.out | refine below_set ?_ GE239.out | refine below_set ?_ GE246.out) | exact HB.out))⟩)
      · skip
        refine box_step ?hg (N := 3) ?hd (cs := #[.int .i64 0, .slice none 0 0, .slice none 0 0]) (t := 64) ?hr ?_; (case hd => rfl); (case hg => rfl); (case hr => first | (go_simp; done) | (go_simp; rfl))
        intro gb246 hg w6 hbox hb
        have n0_ := Aside0.mk (blk_below (g := gb238) (o := .cells #[.int .i64 a0_0, .slice A0_1 l0_1.length c0_1, .slice A0_2 l0_2.length c0_2] 59 (0, 0)) (by (with_reducible repeat (first | refine blk_drewN ?_ _ | refine blk_drew ?_ | refine blk_alloc ?_ _)); exact BK238.out) hb)
        have n1_ := Aside0.mk (blk_below (g := gb239) (o := .cells #[.int .i64 0, .slice none 0 0, .slice none 0 0] 64 (0, 0)) (by (with_reducible repeat (first | refine blk_drewN ?_ _ | refine blk_drew ?_ | refine blk_alloc ?_ _)); exact BK239.out) hb)
        have n2_ := Aside0.mk (below_step (by repeat (first | (with_reducible first | exact HB.out | apply below_alloc | apply pw_below_drewN | apply below_drew1 | refine below_set ?_ GE238.out | refine below_set ?_ GE239.out) | exact HB.out)) hb)
        have n3_ := Aside0.mk (hbox)
        have n4_ := Aside0.mk ((by rw [hg]; exact (below_size (by repeat (first | (with_reducible first | exact HB.out | apply below_alloc | apply pw_below_drewN | apply below_drew1 | refine below_set ?_ GE238.out | refine below_set ?_ GE239.out) | exact HB.out))) : w.heap.size ≤ gb246))
        have n5_ := Aside0.mk ((by rw [hg]; exact (below_size (by repeat (first | (with_reducible first | exact HB.out | apply below_alloc | apply pw_below_drewN | apply below_drew1 | refine below_set ?_ GE238.out | refine below_set ?_ GE239.out) | exact HB.out))) : w.heap.size ≤ gb246))
        have n6_ := Aside0.mk ((by rw [hg]; exact Nat.ne_of_lt (blk_lt (g := gb238) (o := .cells #[.int .i64 a0_0, .slice A0_1 l0_1.length c0_1, .slice A0_2 l0_2.length c0_2] 59 (0, 0)) (by (with_reducible repeat (first | refine blk_drewN ?_ _ | refine blk_drew ?_ | refine blk_alloc ?_ _)); exact BK238.out)) : gb238 ≠ gb246))
        have n7_ := Aside0.mk ((by rw [hg]; exact Nat.ne_of_gt (blk_lt (g := gb238) (o := .cells #[.int .i64 a0_0, .slice A0_1 l0_1.length c0_1, .slice A0_2 l0_2.length c0_2] 59 (0, 0)) (by (with_reducible repeat (first | refine blk_drewN ?_ _ | refine blk_drew ?_ | refine blk_alloc ?_ _)); exact BK238.out)) : gb246 ≠ gb238))
        have n8_ := Aside0.mk ((by rw [hg]; exact Nat.ne_of_lt (blk_lt (g := gb239) (o := .cells #[.int .i64 0, .slice none 0 0, .slice none 0 0] 64 (0, 0)) (by (with_reducible repeat (first | refine blk_drewN ?_ _ | refine blk_drew ?_ | refine blk_alloc ?_ _)); exact BK239.out)) : gb239 ≠ gb246))
        have n9_ := Aside0.mk ((by rw [hg]; exact Nat.ne_of_gt (blk_lt (g := gb239) (o := .cells #[.int .i64 0, .slice none 0 0, .slice none 0 0] 64 (0, 0)) (by (with_reducible repeat (first | refine blk_drewN ?_ _ | refine blk_drew ?_ | refine blk_alloc ?_ _)); exact BK239.out)) : gb246 ≠ gb239))
        clear BK238
        clear BK239
        clear HB
        have BK238 := n0_
        have BK239 := n1_
        have HB := n2_
        have BK246 := n3_
        have GW246 := n4_
        have GE246 := n5_
        have NB238_246 := n6_
        have NB246_238 := n7_
        have NB239_246 := n8_
        have NB246_239 := n9_
        clear n0_ n1_ n2_ n3_ n4_ n5_ n6_ n7_ n8_ n9_
        clear hb hbox hg
        refine hK.out _ _ ⟨(blk_cell BK238.out 0).trans rfl, (blk_cell BK238.out 1).trans rfl, (blk_cell BK238.out 2).trans rfl⟩ (fun hHeld => ?_)
        clear hK K
        refine norm_ (a' := ?_) ?_ ?_
        rotate_left
        · show Act.put _ (some 3) _ = _
          simp only [Act.put, List.setIfInBounds_toArray, List.set_cons_zero, List.set_cons_succ, i64_w, i32_w]
          rfl
        refine one_ (i := 2) (N := some 7) #[true, true, true, true, true, false, false, true, false] rfl rfl (one_of HT_.out (by kernel_rfl)) (by decide) (fun K hK => ?_)
        refine Kd.R_lit_step (Kd.int .i64) _ 3 ?hg (N := 7) ?hd (xs := ([] : List Int)) (inner := []) (ok := fun _ => True) (okp := fun _ => True) ?hr ?hp (fun _ hk => hk) trivial (Below.refl _ _) (Nat.le_refl _) (by simp) ?_; (case hd => rfl); (case hg => rfl); (case hr => first | (go_simp; done) | (go_simp; rfl)); (case hp => exact (Reps.none _ _))
        intro v241 w7 ho8 hb hg_ hnew_
        clear hg_ hnew_
        (first | rw [← Ny240.out] at ho8 | (simp only [Int.reduceToNat] at ho8; rw [← Ny240.out] at ho8))
        have n0_ := Aside0.mk (Kd.R_lower ho8 (below_size (by repeat (first | (with_reducible first | exact HB.out | apply below_alloc | apply pw_below_drewN | apply below_drew1 | refine below_set ?_ GE238.out | refine below_set ?_ GE239.out | refine below_set ?_ GE246.out) | exact HB.out))))
        have n1_ := Aside0.mk (blk_below (g := gb238) (o := .cells #[.int .i64 a0_0, .slice A0_1 l0_1.length c0_1, .slice A0_2 l0_2.length c0_2] 59 (0, 0)) (by (with_reducible repeat (first | refine blk_drewN ?_ _ | refine blk_drew ?_ | refine blk_alloc ?_ _)); exact BK238.out) hb)
        have n2_ := Aside0.mk (blk_below (g := gb239) (o := .cells #[.int .i64 0, .slice none 0 0, .slice none 0 0] 64 (0, 0)) (by (with_reducible repeat (first | refine blk_drewN ?_ _ | refine blk_drew ?_ | refine blk_alloc ?_ _)); exact BK239.out) hb)
        have n3_ := Aside0.mk (blk_below (g := gb246) (o := .cells #[.int .i64 0, .slice none 0 0, .slice none 0 0] 64 (0, 0)) (by (with_reducible repeat (first | refine blk_drewN ?_ _ | refine blk_drew ?_ | refine blk_alloc ?_ _)); exact BK246.out) hb)
        have n4_ := Aside0.mk (below_step (by repeat (first | (with_reducible first | exact HB.out | apply below_alloc | apply pw_below_drewN | apply below_drew1 | refine below_set ?_ GE238.out | refine below_set ?_ GE239.out | refine below_set ?_ GE246.out) | exact HB.out)) hb)
        clear BK238
        clear BK239
        clear BK246
        clear HB
        have HO242 := n0_
        have BK238 := n1_
        have BK239 := n2_
        have BK246 := n3_
        have HB := n4_
        clear n0_ n1_ n2_ n3_ n4_
        clear hb ho8
        refine hK.out _ _ ⟨(blk_cell BK238.out 0).trans rfl, (blk_cell BK238.out 1).trans rfl, (blk_cell BK238.out 2).trans rfl⟩ (fun hHeld => ?_)
        clear hK K
        refine norm_ (a' := ?_) ?_ ?_
        rotate_left
        · show Act.put _ (some 7) _ = _
          simp only [Act.put, List.setIfInBounds_toArray, List.set_cons_zero, List.set_cons_succ, i64_w, i32_w]
          rfl
        refine one_ (i := 5) (N := some 10) #[true, true, true, true, true, true, false, true, false] rfl rfl (one_of HT_.out (by kernel_rfl)) (by decide) (fun K hK => ?_)
        refine Kd.R_append_rows_step (Kd.int .i64) (w0 := w) w.heap.size (by rfl) (.tmp 7) (.tmp 9) 57 3 (.int .i64 0) 8 rfl Tryd.underlying57 info3 rfl (by decide) (by omega) v241 y240 l0_2 _ _ _ (fun _ => True) (fun _ => False) rfl rfl ?aO ?aR (fun _ _ h => h) (fun _ h => h.elim) ?aF ?aB ?aS ?aL ?_
        (case aR => repeat (first | exact (Kd.C_below HR0_2.out HB.out) | (with_reducible refine Kd.C_alloc ?_ _) | (with_reducible refine Kd.C_drewN ?_ _) | (with_reducible refine Kd.C_drew ?_)))
        (case aB => exact (by repeat (first | (with_reducible first | exact HB.out | apply below_alloc | apply pw_below_drewN | apply below_drew1 | refine below_set ?_ GE238.out | refine below_set ?_ GE239.out | refine below_set ?_ GE246.out) | exact HB.out)))
        (case aF => exact (fun _ _ => trivial))
        (case aO => exact (by (with_reducible repeat (first | apply Kd.R_alloc | apply Kd.R_drewN | apply Kd.R_drew)); exact HO242.out))
        (case aS => exact (below_size (by repeat (first | (with_reducible first | exact HB.out | apply below_alloc | apply pw_below_drewN | apply below_drew1 | refine below_set ?_ GE238.out | refine below_set ?_ GE239.out | refine below_set ?_ GE246.out) | exact HB.out))))
        (case aL => have := LMc2.out; omega)
        intro v244 w9 ho hb hg hat
        rw [← Ny243.out] at ho
        have n0_ := Aside0.mk (blk_grown (g := gb238) (o := .cells #[.int .i64 a0_0, .slice A0_1 l0_1.length c0_1, .slice A0_2 l0_2.length c0_2] 59 (0, 0)) (by (with_reducible repeat (first | refine blk_drewN ?_ _ | refine blk_drew ?_ | refine blk_alloc ?_ _)); exact BK238.out) hg (Kd.R_ne HO242.out BK238.out (by decide)))
        have n1_ := Aside0.mk (blk_grown (g := gb239) (o := .cells #[.int .i64 0, .slice none 0 0, .slice none 0 0] 64 (0, 0)) (by (with_reducible repeat (first | refine blk_drewN ?_ _ | refine blk_drew ?_ | refine blk_alloc ?_ _)); exact BK239.out) hg (Kd.R_ne HO242.out BK239.out (by decide)))
        have n2_ := Aside0.mk (blk_grown (g := gb246) (o := .cells #[.int .i64 0, .slice none 0 0, .slice none 0 0] 64 (0, 0)) (by (with_reducible repeat (first | refine blk_drewN ?_ _ | refine blk_drew ?_ | refine blk_alloc ?_ _)); exact BK246.out) hg (Kd.R_ne HO242.out BK246.out (by decide)))
        have n3_ := Aside0.mk (hb)
        have n4_ := Aside0.mk (ho)
        clear BK238
        clear BK239
        clear BK246
        clear HB
        clear HO242
        have BK238 := n0_
        have BK239 := n1_
        have BK246 := n2_
        have HB := n3_
        have HO245 := n4_
        clear n0_ n1_ n2_ n3_ n4_
        clear ho hb hg hat
        obtain ⟨Ao10, co10, eo10⟩ := Kd.R_slice HO245.out
        (first | subst eo10 | (injection eo10 with f1_ f2_ f3_; have f4_ := f1_.symm; have f5_ := f3_.symm; clear f1_ f2_ f3_; subst f4_; subst f5_))
        refine hK.out _ _ ⟨(blk_cell BK238.out 0).trans rfl, (blk_cell BK238.out 1).trans rfl, (blk_cell BK238.out 2).trans rfl⟩ (fun hHeld => ?_)
        clear hK K
        refine norm_ (a' := ?_) ?_ ?_
        rotate_left
        · show Act.put _ (some 10) _ = _
          simp only [Act.put, List.setIfInBounds_toArray, List.set_cons_zero, List.set_cons_succ, i64_w, i32_w]
          rfl
        refine pure_ (i := 6) (N := some 11) (v := ?_) (a' := ?_) #[true, true, true, true, true, true, true, true, false] rfl rfl (any_of HT_.out (by kernel_rfl)) (fun _ _ _ h => h) (Or.inl ⟨by rfl, ?_⟩) ?_ ?_
        rotate_left
        · intro w'
          go_simp
          with_reducible rfl
        rotate_left
        · simp only [Act.put, List.setIfInBounds_toArray, List.set_cons_zero, List.set_cons_succ, i64_w, i32_w]
          rfl
        exact norm_ (by simp only [putAll, Act.put, List.setIfInBounds_toArray, List.set_cons_zero, List.set_cons_succ]) (hCont (v241, .slice Ao10 y243.length co10, gb246) _ ⟨hHeld, (by (with_reducible repeat (first | apply Kd.R_alloc | apply Kd.R_drewN | apply Kd.R_drew)); exact HO245.out), (by (with_reducible repeat (first | refine blk_drewN ?_ _ | refine blk_drew ?_ | refine blk_alloc ?_ _)); exact BK238.out), (by (with_reducible repeat (first | refine blk_drewN ?_ _ | refine blk_drew ?_ | refine blk_alloc ?_ _)); exact BK239.out), (by (with_reducible repeat (first | refine blk_drewN ?_ _ | refine blk_drew ?_ | refine blk_alloc ?_ _)); exact BK246.out), GW246.out, GE246.out, NB238_246.out, NB246_238.out, NB239_246.out, NB246_239.out, (by repeat (first | (with_reducible first | exact HB.out | apply below_alloc | apply pw_below_drewN | apply below_drew1 | refine below_set ?_ GE238.out | refine below_set ?_ GE239.out | refine below_set ?_ GE246.out) | exact HB.out))⟩)
    rintro ⟨v241, v244, gb246⟩ w11 ⟨hS_, h0_, h1_, h2_, h3_, h4_, h5_, h6_, h7_, h8_, h9_, h10_⟩
    have n0_ : Aside0 (Kd.R (Kd.int .i64) 3 w11 w.heap.size (fun _ => True) v244 y243) := ⟨h0_⟩
    have n1_ : Aside0 (w11.heap[gb238]? = some (.cells #[.int .i64 a0_0, .slice A0_1 l0_1.length c0_1, .slice A0_2 l0_2.length c0_2] 59 (0, 0))) := ⟨h1_⟩
    have n2_ : Aside0 (w11.heap[gb239]? = some (.cells #[.int .i64 0, .slice none 0 0, .slice none 0 0] 64 (0, 0))) := ⟨h2_⟩
    have n3_ : Aside0 (w11.heap[gb246]? = some (.cells #[.int .i64 0, .slice none 0 0, .slice none 0 0] 64 (0, 0))) := ⟨h3_⟩
    have n4_ : Aside0 (w.heap.size ≤ gb246) := ⟨h4_⟩
    have n5_ : Aside0 (w.heap.size ≤ gb246) := ⟨h5_⟩
    have n6_ : Aside0 (gb238 ≠ gb246) := ⟨h6_⟩
    have n7_ : Aside0 (gb246 ≠ gb238) := ⟨h7_⟩
    have n8_ : Aside0 (gb239 ≠ gb246) := ⟨h8_⟩
    have n9_ : Aside0 (gb246 ≠ gb239) := ⟨h9_⟩
    have n10_ : Aside0 (Below w.heap.size w w11) := ⟨h10_⟩
    clear BK238
    clear BK239
    clear HB
    clear h0_ h1_ h2_ h3_ h4_ h5_ h6_ h7_ h8_ h9_ h10_
    have HO245 := n0_
    have BK238 := n1_
    have BK239 := n2_
    have BK246 := n3_
    have GW246 := n4_
    have GE246 := n5_
    have NB238_246 := n6_
    have NB246_238 := n7_
    have NB239_246 := n8_
    have NB246_239 := n9_
    have HB := n10_
    clear n0_ n1_ n2_ n3_ n4_ n5_ n6_ n7_ n8_ n9_ n10_
    have hHeld : w11.cell? ⟨gb238, 0, none⟩ = some (.int .i64 a0_0) ∧ w11.cell? ⟨gb238, 1, none⟩ = some (.slice A0_1 l0_1.length c0_1) ∧ w11.cell? ⟨gb238, 2, none⟩ = some (.slice A0_2 l0_2.length c0_2) := hS_
    obtain ⟨Ao12, co12, eo12⟩ := Kd.R_slice HO245.out
    (first | subst eo12 | (injection eo12 with f1_ f2_ f3_; have f4_ := f1_.symm; have f5_ := f3_.symm; clear f1_ f2_ f3_; subst f4_; subst f5_))
    refine norm_ (a' := ?_) ?_ ?_
    rotate_left
    · simp only [putAll, Act.put, List.setIfInBounds_toArray, List.set_cons_zero, List.set_cons_succ]
      rfl
    refine one_ (i := 8) (N := none) #[true, true, true, true, true, true, true, true, true] rfl rfl (one_of HT_.out (by kernel_rfl)) (by decide) (fun K hK => ?_)
    have hs13 : w11.cell? ⟨gb246, 0, none⟩ = some (.int .i64 0) := (blk_cell BK246.out 0).trans rfl
    have hfs13 := blk_frozen BK246.out 0
    have hns13_0 := NB238_246.out
    have hns13_1 := NB239_246.out
    have hms13_0 := NB246_238.out
    have hms13_1 := NB246_239.out
    have hs14 : w11.cell? ⟨gb246, 1, none⟩ = some (.slice none 0 0) := (blk_cell BK246.out 1).trans rfl
    have hfs14 := blk_frozen BK246.out 1
    have hns14_0 := NB238_246.out
    have hns14_1 := NB239_246.out
    have hms14_0 := NB246_238.out
    have hms14_1 := NB246_239.out
    have hs15 : w11.cell? ⟨gb246, 2, none⟩ = some (.slice none 0 0) := (blk_cell BK246.out 2).trans rfl
    have hfs15 := blk_frozen BK246.out 2
    have hns15_0 := NB238_246.out
    have hns15_1 := NB239_246.out
    have hms15_0 := NB246_238.out
    have hms15_1 := NB246_239.out
    refine skip_ (w1 := ?_) (by rfl) rfl ?_ ?_
    rotate_left
    · go_simp
      rfl
    refine hK.out _ _ ⟨((cell_far (p := ⟨gb246, _, none⟩) NB238_246.out _).trans (((cell_far (p := ⟨gb246, _, none⟩) NB238_246.out _).trans (((cell_far (p := ⟨gb246, _, none⟩) NB238_246.out _).trans (hHeld.1)))))), ((cell_far (p := ⟨gb246, _, none⟩) NB238_246.out _).trans (((cell_far (p := ⟨gb246, _, none⟩) NB238_246.out _).trans (((cell_far (p := ⟨gb246, _, none⟩) NB238_246.out _).trans (hHeld.2.1)))))), ((cell_far (p := ⟨gb246, _, none⟩) NB238_246.out _).trans (((cell_far (p := ⟨gb246, _, none⟩) NB238_246.out _).trans (((cell_far (p := ⟨gb246, _, none⟩) NB238_246.out _).trans (hHeld.2.2))))))⟩ (fun hHeld => ?_)
    clear hK K
    refine done_ (done_of HT_.out (by kernel_rfl)) ?_
    try go_wp2
    go_loopg [4] k (fun kq v4 w' => ∃ (x4_1 : Int) (x247001_1 : List (S127)) (u247001 : Value), v4 = .int .i64 x4_1 ∧ Aside0 (marchlandlaw05_To.l0 kq x4_1 a0_0 l0_1 l0_2 a0_0 x247001_1 y243 = some (r1, r2, r3)) ∧ Aside0 (kq ≤ k) ∧ Aside0 (Kd.R k127 127 w' w.heap.size (fun _ => True) u247001 x247001_1) ∧ Aside0 (Kd.R (Kd.int .i64) 3 w' w.heap.size (fun _ => True) (.slice Ao12 y243.length co12) y243) ∧ Aside0 (w'.heap[gb238]? = some (.cells #[.int .i64 a0_0, (.slice A0_1 l0_1.length c0_1), (.slice A0_2 l0_2.length c0_2)] 59 (0, 0))) ∧ Aside0 (w'.heap[gb239]? = some (.cells #[.int .i64 0, (.slice none 0 0), (.slice none 0 0)] 64 (0, 0))) ∧ Aside0 (w'.heap[gb246]? = some (.cells #[.int .i64 a0_0, u247001, (.slice Ao12 y243.length co12)] 64 (0, 0))) ∧ Aside0 (Below w.heap.size w w'))
    case atStart => exact ⟨(0), (([] : List (S127))), (.slice none 0 0), (by first | rfl | (simp; done) | (simp [*]; done)), H', ⟨Nat.le_refl _⟩, ⟨by first | exact Kd.R_nil _ _ _ _ _ | exact Kd.N_nil _ _ _ _ _ | exact Kd.V_nil _ _ _ _ _ | exact Kd.Q_nil _ _ _ _ _ | exact Kd.S_nil _ _ _ _ _⟩, ⟨by (with_reducible repeat (first | apply Kd.R_alloc | apply Kd.R_drewN | apply Kd.R_drew)); exact Kd.R_mono (Kd.R_far (p := ⟨gb246, 2, none⟩) (Kd.R_far (p := ⟨gb246, 1, none⟩) (Kd.R_far (p := ⟨gb246, 0, none⟩) (Kd.R_types HO245.out BK246.out (by decide)) (fun _ hk => hk.2) (.int .i64 a0_0)) (fun _ hk => hk.2) (.slice none 0 0)) (fun _ hk => hk.2) (.slice Ao12 y243.length co12)) (fun _ hk => trivial)⟩, ⟨by (with_reducible repeat (first | refine blk_drewN ?_ _ | refine blk_drew ?_ | refine blk_alloc ?_ _)); refine blk_far ?_ NB238_246.out _; (with_reducible repeat (first | refine blk_drewN ?_ _ | refine blk_drew ?_ | refine blk_alloc ?_ _)); refine blk_far ?_ NB238_246.out _; (with_reducible repeat (first | refine blk_drewN ?_ _ | refine blk_drew ?_ | refine blk_alloc ?_ _)); refine blk_far ?_ NB238_246.out _; (with_reducible repeat (first | refine blk_drewN ?_ _ | refine blk_drew ?_ | refine blk_alloc ?_ _)); exact BK238.out⟩, ⟨by (with_reducible repeat (first | refine blk_drewN ?_ _ | refine blk_drew ?_ | refine blk_alloc ?_ _)); refine blk_far ?_ NB239_246.out _; (with_reducible repeat (first | refine blk_drewN ?_ _ | refine blk_drew ?_ | refine blk_alloc ?_ _)); refine blk_far ?_ NB239_246.out _; (with_reducible repeat (first | refine blk_drewN ?_ _ | refine blk_drew ?_ | refine blk_alloc ?_ _)); refine blk_far ?_ NB239_246.out _; (with_reducible repeat (first | refine blk_drewN ?_ _ | refine blk_drew ?_ | refine blk_alloc ?_ _)); exact BK239.out⟩, ⟨by (with_reducible repeat (first | refine blk_drewN ?_ _ | refine blk_drew ?_ | refine blk_alloc ?_ _)); refine blk_put (cs := #[.int .i64 a0_0, .slice none 0 0, .slice none 0 0]) ?_ 2 _ rfl; (with_reducible repeat (first | refine blk_drewN ?_ _ | refine blk_drew ?_ | refine blk_alloc ?_ _)); refine blk_put (cs := #[.int .i64 a0_0, .slice none 0 0, .slice none 0 0]) ?_ 1 _ rfl; (with_reducible repeat (first | refine blk_drewN ?_ _ | refine blk_drew ?_ | refine blk_alloc ?_ _)); refine blk_put (cs := #[.int .i64 0, .slice none 0 0, .slice none 0 0]) ?_ 0 _ rfl; (with_reducible repeat (first | refine blk_drewN ?_ _ | refine blk_drew ?_ | refine blk_alloc ?_ _)); exact BK246.out⟩, ⟨by repeat (first | (with_reducible first | exact HB.out | apply below_alloc | apply pw_below_drewN | apply below_drew1 | refine below_set ?_ GE238.out | refine below_set ?_ GE239.out | refine below_set ?_ GE246.out) | exact HB.out)⟩⟩
    case round =>
      clear H'
      try clear c2
      try clear p2
      try clear c3
      obtain ⟨x4_1, x247001_1, u247001, rfl, HA, HK1, HO_247001, HO_247002, BK238, BK239, BK246, HB⟩ := hrel
      cases gk with
      | zero => exact absurd HA.out (by simp [marchlandlaw05_To.l0])
      | succ k1 =>
        have H := HA.out
        clear HA
        simp only [marchlandlaw05_To.l0] at H
        by_cases c16 : x4_1 < (l0_1.length : Int)
        · rw [if_pos c16] at H
          have c16b0 : decide (x4_1 < (l0_1.length : Int)) = true := decide_eq_true c16
          clear c16
          by_cases c17 : 0 ≤ x4_1
          · rw [if_pos c17] at H
            have c17b0 : decide (0 ≤ x4_1) = true := decide_eq_true c17
            clear c17
            by_cases c18 : x247001_1.length < 5864062014805
            · rw [if_pos c18] at H
              have LMc18 := Aside0.mk c18
              clear c18
              obtain ⟨y250, hy250⟩ : ∃ y_ : List (S127), y_ = (x247001_1 ++ [(⟨(rd_T75 l0_1 x4_1).f0, (rd_T75 l0_1 x4_1).f1, (rd_T75 l0_1 x4_1).f2⟩ : S127)]) := ⟨_, rfl⟩
              replace H : (marchlandlaw05_To.l0 k1 (wrap64 (x4_1 + 1)) a0_0 l0_1 l0_2 a0_0 y250 y243) = some (r1, r2, r3) := by first | (rw [hy250]; with_reducible exact H) | (have H2_ := (Option.bind_some _ _).symm.trans H; rw [hy250]; with_reducible exact H2_) | (have H2_ := (Option.bind_some _ _).symm.trans H; with_reducible exact H2_) | with_reducible exact H | (rw [hy250]; exact H) | exact H
              have Ny250 := Aside0.mk hy250
              clear hy250
              have H' := Aside0.mk H
              clear H
              have hnb19 := NB238_239.out
              have hnc19 := NB239_238.out
              have hnb20 := NB238_246.out
              have hnc20 := NB246_238.out
              have hcz21_0 : wr.cell? ⟨gb238, 0, none⟩ = some (.int .i64 a0_0) := (blk_cell BK238.out 0).trans rfl
              have hcz21_1 : wr.cell? ⟨gb238, 1, none⟩ = some (.slice A0_1 l0_1.length c0_1) := (blk_cell BK238.out 1).trans rfl
              have hcz21_2 : wr.cell? ⟨gb238, 2, none⟩ = some (.slice A0_2 l0_2.length c0_2) := (blk_cell BK238.out 2).trans rfl
              have hfz21_0 := blk_frozen BK238.out 0
              have hfz21_1 := blk_frozen BK238.out 1
              have hfz21_2 := blk_frozen BK238.out 2
              try go_wp2
              have n0_ := Aside0.mk (Kd.R_drew HO_247001.out)
              have n1_ := Aside0.mk (Kd.R_drew HO_247002.out)
              have n2_ := Aside0.mk (blk_drew BK238.out)
              have n3_ := Aside0.mk (blk_drew BK239.out)
              have n4_ := Aside0.mk (blk_drew BK246.out)
              have n5_ := Aside0.mk (below_drew1 HB.out)
              clear HO_247001
              clear HO_247002
              clear BK238
              clear BK239
              clear BK246
              clear HB
              have HO_247001 := n0_
              have HO_247002 := n1_
              have BK238 := n2_
              have BK239 := n3_
              have BK246 := n4_
              have HB := n5_
              clear n0_ n1_ n2_ n3_ n4_ n5_
              have p247 : 0 ≤ (x4_1 : Int) := of_decide_eq_true (by first | (with_reducible assumption) | assumption)
              have q247 : x4_1 < (l0_1.length : Int) := of_decide_eq_true (by first | (with_reducible assumption) | assumption)
              obtain ⟨ad247, e247, hx247_0, hx247_1, hx247_2⟩ := at_T75 HR0_1.out x4_1 p247 q247
              have hw247_2 := hx247_2
              have hw247_1 := hx247_1
              have hw247_0 := hx247_0
              cases e247
              replace hx247_0 := (HB.out.cell (World.block_lt_of_cell? w _ hx247_0)).trans hx247_0
              replace hx247_1 := (HB.out.cell (World.block_lt_of_cell? w _ hx247_1)).trans hx247_1
              replace hx247_2 := (HB.out.cell (World.block_lt_of_cell? w _ hx247_2)).trans hx247_2
              replace p247 := eq_true p247
              replace q247 := eq_true q247
              have p248 : 0 ≤ (x4_1 : Int) := of_decide_eq_true (by first | (with_reducible assumption) | assumption)
              have q248 : x4_1 < (l0_1.length : Int) := of_decide_eq_true (by first | (with_reducible assumption) | assumption)
              obtain ⟨ad248, e248, hx248_0, hx248_1, hx248_2⟩ := at_T75 HR0_1.out x4_1 p248 q248
              have hw248_2 := hx248_2
              have hw248_1 := hx248_1
              have hw248_0 := hx248_0
              obtain rfl : ad247 = ad248 := (by injection e248)
              replace hx248_0 := (HB.out.cell (World.block_lt_of_cell? w _ hx248_0)).trans hx248_0
              replace hx248_1 := (HB.out.cell (World.block_lt_of_cell? w _ hx248_1)).trans hx248_1
              replace hx248_2 := (HB.out.cell (World.block_lt_of_cell? w _ hx248_2)).trans hx248_2
              replace p248 := eq_true p248
              replace q248 := eq_true q248
              have p249 : 0 ≤ (x4_1 : Int) := of_decide_eq_true (by first | (with_reducible assumption) | assumption)
              have q249 : x4_1 < (l0_1.length : Int) := of_decide_eq_true (by first | (with_reducible assumption) | assumption)
              obtain ⟨ad249, e249, hx249_0, hx249_1, hx249_2⟩ := at_T75 HR0_1.out x4_1 p249 q249
              have hw249_2 := hx249_2
              have hw249_1 := hx249_1
              have hw249_0 := hx249_0
              obtain rfl : ad247 = ad249 := (by injection e249)
              replace hx249_0 := (HB.out.cell (World.block_lt_of_cell? w _ hx249_0)).trans hx249_0
              replace hx249_1 := (HB.out.cell (World.block_lt_of_cell? w _ hx249_1)).trans hx249_1
              replace hx249_2 := (HB.out.cell (World.block_lt_of_cell? w _ hx249_2)).trans hx249_2
              replace p249 := eq_true p249
              replace q249 := eq_true q249
              refine start_ (n := 25) (S := fun w' => w'.cell? ⟨gb246, 0, none⟩ = some (.int .i64 a0_0) ∧ w'.cell? ⟨gb246, 1, none⟩ = some (u247001) ∧ w'.cell? ⟨gb246, 2, none⟩ = some (.slice Ao12 y243.length co12) ∧ w'.cell? ⟨gb238, 0, none⟩ = some (.int .i64 a0_0) ∧ w'.cell? ⟨gb238, 1, none⟩ = some (.slice (some ad247) l0_1.length c0_1) ∧ w'.cell? ⟨gb238, 2, none⟩ = some (.slice A0_2 l0_2.length c0_2) ∧ w'.cell? (ad247.add ((x4_1).toNat * 3)) = some (.int .i64 ((rd_T75 l0_1 x4_1).f0)) ∧ w'.cell? ⟨(ad247.add ((x4_1).toNat * 3)).block, (ad247.add ((x4_1).toNat * 3)).off + 1, none⟩ = some (.int .i64 ((rd_T75 l0_1 x4_1).f1)) ∧ w'.cell? ⟨(ad247.add ((x4_1).toNat * 3)).block, (ad247.add ((x4_1).toNat * 3)).off + 2, none⟩ = some (.int .u64 ((rd_T75 l0_1 x4_1).f2)) ∧ w'.cell? (ad247.add ((x4_1).toNat * 3)) = some (.int .i64 ((rd_T75 l0_1 x4_1).f0)) ∧ w'.cell? ⟨(ad247.add ((x4_1).toNat * 3)).block, (ad247.add ((x4_1).toNat * 3)).off + 1, none⟩ = some (.int .i64 ((rd_T75 l0_1 x4_1).f1)) ∧ w'.cell? ⟨(ad247.add ((x4_1).toNat * 3)).block, (ad247.add ((x4_1).toNat * 3)).off + 2, none⟩ = some (.int .u64 ((rd_T75 l0_1 x4_1).f2)) ∧ w'.cell? (ad247.add ((x4_1).toNat * 3)) = some (.int .i64 ((rd_T75 l0_1 x4_1).f0)) ∧ w'.cell? ⟨(ad247.add ((x4_1).toNat * 3)).block, (ad247.add ((x4_1).toNat * 3)).off + 1, none⟩ = some (.int .i64 ((rd_T75 l0_1 x4_1).f1)) ∧ w'.cell? ⟨(ad247.add ((x4_1).toNat * 3)).block, (ad247.add ((x4_1).toNat * 3)).off + 2, none⟩ = some (.int .u64 ((rd_T75 l0_1 x4_1).f2))) (ds := [24]) #[false, false, false, false, false, false, false, false, false, false, false, false, false, false, false, false, false, false, false, false, false, false, false, false, false] (by kernel_rfl) rfl rfl ⟨(blk_cell BK246.out 0).trans rfl, (blk_cell BK246.out 1).trans rfl, (blk_cell BK246.out 2).trans rfl, (blk_cell BK238.out 0).trans rfl, (blk_cell BK238.out 1).trans rfl, (blk_cell BK238.out 2).trans rfl, ((HB.out.cell (World.block_lt_of_cell? w _ hw247_0)).trans hw247_0), ((HB.out.cell (World.block_lt_of_cell? w _ hw247_1)).trans hw247_1), ((HB.out.cell (World.block_lt_of_cell? w _ hw247_2)).trans hw247_2), ((HB.out.cell (World.block_lt_of_cell? w _ hw248_0)).trans hw248_0), ((HB.out.cell (World.block_lt_of_cell? w _ hw248_1)).trans hw248_1), ((HB.out.cell (World.block_lt_of_cell? w _ hw248_2)).trans hw248_2), ((HB.out.cell (World.block_lt_of_cell? w _ hw249_0)).trans hw249_0), ((HB.out.cell (World.block_lt_of_cell? w _ hw249_1)).trans hw249_1), ((HB.out.cell (World.block_lt_of_cell? w _ hw249_2)).trans hw249_2)⟩ (fun hHeld => ?_); refine with_tabW marchlandlaw05_To.tab5 marchlandlaw05_To.bits5 (fun HT_ HW_ => ?_)
              generalize wr.drew = w22 at HO_247001 HO_247002 BK238 BK239 BK246 HB hx247_0 hx247_1 hx247_2 hx248_0 hx248_1 hx248_2 hx249_0 hx249_1 hx249_2 hHeld ⊢
              refine pure_ (i := 0) (N := some 19) (v := ?_) (a' := ?_) #[true, false, false, false, false, false, false, false, false, false, false, false, false, false, false, false, false, false, false, false, false, false, false, false, false] rfl rfl (any_of HT_.out (by kernel_rfl)) (fun _ _ _ h => h) (Or.inl ⟨by rfl, ?_⟩) ?_ ?_
              rotate_left
              · intro w'
                go_simp
                with_reducible rfl
              rotate_left
              · simp only [Act.put, List.setIfInBounds_toArray, List.set_cons_zero, List.set_cons_succ, i64_w, i32_w]
                rfl
              refine pure_ (i := 2) (N := some 21) (v := ?_) (a' := ?_) #[true, false, true, false, false, false, false, false, false, false, false, false, false, false, false, false, false, false, false, false, false, false, false, false, false] rfl rfl (any_of HT_.out (by kernel_rfl)) (fun _ _ _ h => h) (Or.inl ⟨by rfl, ?_⟩) ?_ ?_
              rotate_left
              · intro w'
                go_simp
                with_reducible rfl
              rotate_left
              · simp only [Act.put, List.setIfInBounds_toArray, List.set_cons_zero, List.set_cons_succ, i64_w, i32_w]
                rfl
              refine pure_ (i := 4) (N := some 23) (v := ?_) (a' := ?_) #[true, false, true, false, true, false, false, false, false, false, false, false, false, false, false, false, false, false, false, false, false, false, false, false, false] rfl rfl (any_of HT_.out (by kernel_rfl)) (fun _ _ _ h => h) (Or.inl ⟨by rfl, ?_⟩) ?_ ?_
              rotate_left
              · intro w'
                go_simp
                with_reducible rfl
              rotate_left
              · simp only [Act.put, List.setIfInBounds_toArray, List.set_cons_zero, List.set_cons_succ, i64_w, i32_w]
                rfl
              refine pure_ (i := 8) (N := some 27) (v := ?_) (a' := ?_) #[true, false, true, false, true, false, false, false, true, false, false, false, false, false, false, false, false, false, false, false, false, false, false, false, false] rfl rfl (any_of HT_.out (by kernel_rfl)) (fun _ _ _ h => h) (Or.inl ⟨by rfl, ?_⟩) ?_ ?_
              rotate_left
              · intro w'
                go_simp
                with_reducible rfl
              rotate_left
              · simp only [Act.put, List.setIfInBounds_toArray, List.set_cons_zero, List.set_cons_succ, i64_w, i32_w]
                rfl
              refine pure_ (i := 10) (N := some 29) (v := ?_) (a' := ?_) #[true, false, true, false, true, false, false, false, true, false, true, false, false, false, false, false, false, false, false, false, false, false, false, false, false] rfl rfl (any_of HT_.out (by kernel_rfl)) (fun _ _ _ h => h) (Or.inl ⟨by rfl, ?_⟩) ?_ ?_
              rotate_left
              · intro w'
                go_simp
                with_reducible rfl
              rotate_left
              · simp only [Act.put, List.setIfInBounds_toArray, List.set_cons_zero, List.set_cons_succ, i64_w, i32_w]
                rfl
              refine pure_ (i := 14) (N := some 33) (v := ?_) (a' := ?_) #[true, false, true, false, true, false, false, false, true, false, true, false, false, false, true, false, false, false, false, false, false, false, false, false, false] rfl rfl (any_of HT_.out (by kernel_rfl)) (fun _ _ _ h => h) (Or.inl ⟨by rfl, ?_⟩) ?_ ?_
              rotate_left
              · intro w'
                go_simp
                with_reducible rfl
              rotate_left
              · simp only [Act.put, List.setIfInBounds_toArray, List.set_cons_zero, List.set_cons_succ, i64_w, i32_w]
                rfl
              refine pure_ (i := 16) (N := some 35) (v := ?_) (a' := ?_) #[true, false, true, false, true, false, false, false, true, false, true, false, false, false, true, false, true, false, false, false, false, false, false, false, false] rfl rfl (any_of HT_.out (by kernel_rfl)) (fun _ _ _ h => h) (Or.inl ⟨by rfl, ?_⟩) ?_ ?_
              rotate_left
              · intro w'
                go_simp
                with_reducible rfl
              rotate_left
              · simp only [Act.put, List.setIfInBounds_toArray, List.set_cons_zero, List.set_cons_succ, i64_w, i32_w]
                rfl
              refine take_ (i := 1) (N := some 20) (v := ?_) (a' := ?_) #[true, true, true, false, true, false, false, false, true, false, true, false, false, false, true, false, true, false, false, false, false, false, false, false, false] rfl rfl (take_ofW HT_.out HW_.out (by kernel_rfl)) (fun _ _ _ h => h) (Or.inl ⟨by rfl, ?_⟩) hHeld ?_ ?_
              rotate_left
              · rintro w' ⟨s0, s1, s2, s3, s4, s5, s6, s7, s8, s9, s10, s11, s12, s13, s14⟩
                go_simp
                with_reducible rfl
              rotate_left
              · simp only [Act.put, List.setIfInBounds_toArray, List.set_cons_zero, List.set_cons_succ, i64_w, i32_w]
                rfl
              refine take_ (i := 3) (N := some 22) (v := ?_) (a' := ?_) #[true, true, true, true, true, false, false, false, true, false, true, false, false, false, true, false, true, false, false, false, false, false, false, false, false] rfl rfl (take_ofW HT_.out HW_.out (by kernel_rfl)) (fun _ _ _ h => h) (Or.inl ⟨by rfl, ?_⟩) hHeld ?_ ?_
              rotate_left
              · rintro w' ⟨s0, s1, s2, s3, s4, s5, s6, s7, s8, s9, s10, s11, s12, s13, s14⟩
                go_simp
                with_reducible rfl
              rotate_left
              · simp only [Act.put, List.setIfInBounds_toArray, List.set_cons_zero, List.set_cons_succ, i64_w, i32_w]
                rfl
              refine pure_ (i := 5) (N := some 24) (v := ?_) (a' := ?_) #[true, true, true, true, true, true, false, false, true, false, true, false, false, false, true, false, true, false, false, false, false, false, false, false, false] rfl rfl (any_of HT_.out (by kernel_rfl)) (fun _ _ _ h => h) (Or.inl ⟨by rfl, ?_⟩) ?_ ?_
              rotate_left
              · intro w'
                go_simp
                with_reducible rfl
              rotate_left
              · simp only [Act.put, List.setIfInBounds_toArray, List.set_cons_zero, List.set_cons_succ, i64_w, i32_w]
                rfl
              refine pure_ (i := 6) (N := some 25) (v := ?_) (a' := ?_) #[true, true, true, true, true, true, true, false, true, false, true, false, false, false, true, false, true, false, false, false, false, false, false, false, false] rfl rfl (any_of HT_.out (by kernel_rfl)) (fun _ _ _ h => h) (Or.inl ⟨by rfl, ?_⟩) ?_ ?_
              rotate_left
              · intro w'
                go_simp
                with_reducible rfl
              rotate_left
              · simp only [Act.put, List.setIfInBounds_toArray, List.set_cons_zero, List.set_cons_succ, i64_w, i32_w]
                rfl
              refine take_ (i := 7) (N := some 26) (v := ?_) (a' := ?_) #[true, true, true, true, true, true, true, true, true, false, true, false, false, false, true, false, true, false, false, false, false, false, false, false, false] rfl rfl (take_ofW HT_.out HW_.out (by kernel_rfl)) (fun _ _ _ h => h) (Or.inl ⟨by rfl, ?_⟩) hHeld ?_ ?_
              rotate_left
              · rintro w' ⟨s0, s1, s2, s3, s4, s5, s6, s7, s8, s9, s10, s11, s12, s13, s14⟩
                go_simp
                with_reducible rfl
              rotate_left
              · simp only [Act.put, List.setIfInBounds_toArray, List.set_cons_zero, List.set_cons_succ, i64_w, i32_w]
                rfl
              refine take_ (i := 9) (N := some 28) (v := ?_) (a' := ?_) #[true, true, true, true, true, true, true, true, true, true, true, false, false, false, true, false, true, false, false, false, false, false, false, false, false] rfl rfl (take_ofW HT_.out HW_.out (by kernel_rfl)) (fun _ _ _ h => h) (Or.inl ⟨by rfl, ?_⟩) hHeld ?_ ?_
              rotate_left
              · rintro w' ⟨s0, s1, s2, s3, s4, s5, s6, s7, s8, s9, s10, s11, s12, s13, s14⟩
                go_simp
                with_reducible rfl
              rotate_left
              · simp only [Act.put, List.setIfInBounds_toArray, List.set_cons_zero, List.set_cons_succ, i64_w, i32_w]
                rfl
              refine pure_ (i := 11) (N := some 30) (v := ?_) (a' := ?_) #[true, true, true, true, true, true, true, true, true, true, true, true, false, false, true, false, true, false, false, false, false, false, false, false, false] rfl rfl (any_of HT_.out (by kernel_rfl)) (fun _ _ _ h => h) (Or.inl ⟨by rfl, ?_⟩) ?_ ?_
              rotate_left
              · intro w'
                go_simp
                with_reducible rfl
              rotate_left
              · simp only [Act.put, List.setIfInBounds_toArray, List.set_cons_zero, List.set_cons_succ, i64_w, i32_w]
                rfl
              refine pure_ (i := 12) (N := some 31) (v := ?_) (a' := ?_) #[true, true, true, true, true, true, true, true, true, true, true, true, true, false, true, false, true, false, false, false, false, false, false, false, false] rfl rfl (any_of HT_.out (by kernel_rfl)) (fun _ _ _ h => h) (Or.inl ⟨by rfl, ?_⟩) ?_ ?_
              rotate_left
              · intro w'
                go_simp
                with_reducible rfl
              rotate_left
              · simp only [Act.put, List.setIfInBounds_toArray, List.set_cons_zero, List.set_cons_succ, i64_w, i32_w]
                rfl
              refine take_ (i := 13) (N := some 32) (v := ?_) (a' := ?_) #[true, true, true, true, true, true, true, true, true, true, true, true, true, true, true, false, true, false, false, false, false, false, false, false, false] rfl rfl (take_ofW HT_.out HW_.out (by kernel_rfl)) (fun _ _ _ h => h) (Or.inl ⟨by rfl, ?_⟩) hHeld ?_ ?_
              rotate_left
              · rintro w' ⟨s0, s1, s2, s3, s4, s5, s6, s7, s8, s9, s10, s11, s12, s13, s14⟩
                go_simp
                with_reducible rfl
              rotate_left
              · simp only [Act.put, List.setIfInBounds_toArray, List.set_cons_zero, List.set_cons_succ, i64_w, i32_w]
                rfl
              refine take_ (i := 15) (N := some 34) (v := ?_) (a' := ?_) #[true, true, true, true, true, true, true, true, true, true, true, true, true, true, true, true, true, false, false, false, false, false, false, false, false] rfl rfl (take_ofW HT_.out HW_.out (by kernel_rfl)) (fun _ _ _ h => h) (Or.inl ⟨by rfl, ?_⟩) hHeld ?_ ?_
              rotate_left
              · rintro w' ⟨s0, s1, s2, s3, s4, s5, s6, s7, s8, s9, s10, s11, s12, s13, s14⟩
                go_simp
                with_reducible rfl
              rotate_left
              · simp only [Act.put, List.setIfInBounds_toArray, List.set_cons_zero, List.set_cons_succ, i64_w, i32_w]
                rfl
              refine pure_ (i := 17) (N := some 36) (v := ?_) (a' := ?_) #[true, true, true, true, true, true, true, true, true, true, true, true, true, true, true, true, true, true, false, false, false, false, false, false, false] rfl rfl (any_of HT_.out (by kernel_rfl)) (fun _ _ _ h => h) (Or.inl ⟨by rfl, ?_⟩) ?_ ?_
              rotate_left
              · intro w'
                go_simp
                with_reducible rfl
              rotate_left
              · simp only [Act.put, List.setIfInBounds_toArray, List.set_cons_zero, List.set_cons_succ, i64_w, i32_w]
                rfl
              refine pure_ (i := 18) (N := some 37) (v := ?_) (a' := ?_) #[true, true, true, true, true, true, true, true, true, true, true, true, true, true, true, true, true, true, true, false, false, false, false, false, false] rfl rfl (any_of HT_.out (by kernel_rfl)) (fun _ _ _ h => h) (Or.inl ⟨by rfl, ?_⟩) ?_ ?_
              rotate_left
              · intro w'
                go_simp
                with_reducible rfl
              rotate_left
              · simp only [Act.put, List.setIfInBounds_toArray, List.set_cons_zero, List.set_cons_succ, i64_w, i32_w]
                rfl
              refine take_ (i := 19) (N := some 38) (v := ?_) (a' := ?_) #[true, true, true, true, true, true, true, true, true, true, true, true, true, true, true, true, true, true, true, true, false, false, false, false, false] rfl rfl (take_ofW HT_.out HW_.out (by kernel_rfl)) (fun _ _ _ h => h) (Or.inl ⟨by rfl, ?_⟩) hHeld ?_ ?_
              rotate_left
              · rintro w' ⟨s0, s1, s2, s3, s4, s5, s6, s7, s8, s9, s10, s11, s12, s13, s14⟩
                go_simp
                with_reducible rfl
              rotate_left
              · simp only [Act.put, List.setIfInBounds_toArray, List.set_cons_zero, List.set_cons_succ, i64_w, i32_w]
                rfl
              refine pure_ (i := 20) (N := some 39) (v := ?_) (a' := ?_) #[true, true, true, true, true, true, true, true, true, true, true, true, true, true, true, true, true, true, true, true, true, false, false, false, false] rfl rfl (any_of HT_.out (by kernel_rfl)) (fun _ _ _ h => h) (Or.inl ⟨by rfl, ?_⟩) ?_ ?_
              rotate_left
              · intro w'
                go_simp
                with_reducible rfl
              rotate_left
              · simp only [Act.put, List.setIfInBounds_toArray, List.set_cons_zero, List.set_cons_succ, i64_w, i32_w]
                rfl
              refine one_ (i := 21) (N := some 40) #[true, true, true, true, true, true, true, true, true, true, true, true, true, true, true, true, true, true, true, true, true, true, false, false, false] rfl rfl (one_of HT_.out (by kernel_rfl)) (by decide) (fun K hK => ?_)
              refine value_ (w1 := ?_) (v := ?_) (by rfl) rfl ?_ ?_
              rotate_left 2
              · go_simp
                constructor
                · rfl
                · rfl
              refine hK.out _ _ ⟨(blk_cell (blk_alloc BK246.out _) 0).trans rfl, (blk_cell (blk_alloc BK246.out _) 1).trans rfl, (blk_cell (blk_alloc BK246.out _) 2).trans rfl, (blk_cell (blk_alloc BK238.out _) 0).trans rfl, (blk_cell (blk_alloc BK238.out _) 1).trans rfl, (blk_cell (blk_alloc BK238.out _) 2).trans rfl, (World.cell?_alloc_lt _ _ _ (World.block_lt_of_cell? _ _ (((HB.out.cell (World.block_lt_of_cell? w _ hw247_0)).trans hw247_0)))).trans (((HB.out.cell (World.block_lt_of_cell? w _ hw247_0)).trans hw247_0)), (World.cell?_alloc_lt _ _ _ (World.block_lt_of_cell? _ _ (((HB.out.cell (World.block_lt_of_cell? w _ hw247_1)).trans hw247_1)))).trans (((HB.out.cell (World.block_lt_of_cell? w _ hw247_1)).trans hw247_1)), (World.cell?_alloc_lt _ _ _ (World.block_lt_of_cell? _ _ (((HB.out.cell (World.block_lt_of_cell? w _ hw247_2)).trans hw247_2)))).trans (((HB.out.cell (World.block_lt_of_cell? w _ hw247_2)).trans hw247_2)), (World.cell?_alloc_lt _ _ _ (World.block_lt_of_cell? _ _ (((HB.out.cell (World.block_lt_of_cell? w _ hw248_0)).trans hw248_0)))).trans (((HB.out.cell (World.block_lt_of_cell? w _ hw248_0)).trans hw248_0)), (World.cell?_alloc_lt _ _ _ (World.block_lt_of_cell? _ _ (((HB.out.cell (World.block_lt_of_cell? w _ hw248_1)).trans hw248_1)))).trans (((HB.out.cell (World.block_lt_of_cell? w _ hw248_1)).trans hw248_1)), (World.cell?_alloc_lt _ _ _ (World.block_lt_of_cell? _ _ (((HB.out.cell (World.block_lt_of_cell? w _ hw248_2)).trans hw248_2)))).trans (((HB.out.cell (World.block_lt_of_cell? w _ hw248_2)).trans hw248_2)), (World.cell?_alloc_lt _ _ _ (World.block_lt_of_cell? _ _ (((HB.out.cell (World.block_lt_of_cell? w _ hw249_0)).trans hw249_0)))).trans (((HB.out.cell (World.block_lt_of_cell? w _ hw249_0)).trans hw249_0)), (World.cell?_alloc_lt _ _ _ (World.block_lt_of_cell? _ _ (((HB.out.cell (World.block_lt_of_cell? w _ hw249_1)).trans hw249_1)))).trans (((HB.out.cell (World.block_lt_of_cell? w _ hw249_1)).trans hw249_1)), (World.cell?_alloc_lt _ _ _ (World.block_lt_of_cell? _ _ (((HB.out.cell (World.block_lt_of_cell? w _ hw249_2)).trans hw249_2)))).trans (((HB.out.cell (World.block_lt_of_cell? w _ hw249_2)).trans hw249_2))⟩ (fun hHeld => ?_)
              clear hK K
              refine norm_ (a' := ?_) ?_ ?_
              rotate_left
              · show Act.put _ (some 40) _ = _
                simp only [Act.put, List.setIfInBounds_toArray, List.set_cons_zero, List.set_cons_succ, i64_w, i32_w]
                rfl
              refine one_ (i := 22) (N := some 41) #[true, true, true, true, true, true, true, true, true, true, true, true, true, true, true, true, true, true, true, true, true, true, true, false, false] rfl rfl (one_of HT_.out (by kernel_rfl)) (by decide) (fun K hK => ?_)
              refine Kd.R_append_step k127 (w0 := w) w.heap.size (by rfl) (.tmp 20) (.tmp 40) 62 127 (.agg #[(.int .i64 0), (.int .i64 0), (.int .u64 0)]) 24 rfl Tryd.underlying62 info127 rfl (by decide) (by omega) u247001 x247001_1 (⟨(rd_T75 l0_1 x4_1).f0, (rd_T75 l0_1 x4_1).f1, (rd_T75 l0_1 x4_1).f2⟩ : S127) [.int .i64 ((rd_T75 l0_1 x4_1).f0), .int .i64 ((rd_T75 l0_1 x4_1).f1), .int .u64 ((rd_T75 l0_1 x4_1).f2)] (fun _ => True) (fun _ => False) rfl rfl ?aP (fun _ hk => hk.elim) ?aF ?aO ?aB ?aS ?aL ?_
              (case aP => exact k127_mkM _ _ _ (⟨(rd_T75 l0_1 x4_1).f0, (rd_T75 l0_1 x4_1).f1, (rd_T75 l0_1 x4_1).f2⟩ : S127))
              (case aB => exact (by repeat (first | (with_reducible first | exact HB.out | apply below_alloc | apply pw_below_drewN | apply below_drew1 | refine below_set ?_ GE238.out | refine below_set ?_ GE239.out | refine below_set ?_ GE246.out) | exact HB.out)))
              (case aF => exact (fun _ _ => trivial))
              (case aO => exact (by (with_reducible repeat (first | apply Kd.R_alloc | apply Kd.R_drewN | apply Kd.R_drew)); exact HO_247001.out))
              (case aS => exact (below_size (by repeat (first | (with_reducible first | exact HB.out | apply below_alloc | apply pw_below_drewN | apply below_drew1 | refine below_set ?_ GE238.out | refine below_set ?_ GE239.out | refine below_set ?_ GE246.out) | exact HB.out))))
              (case aL => have := LMc18.out; omega)
              intro v251 w23 ho hb hg hat
              rw [← Ny250.out] at ho
              have n0_ := Aside0.mk (Kd.R_over' (by (with_reducible repeat (first | apply Kd.R_alloc | apply Kd.R_drewN | apply Kd.R_drew)); exact HO_247002.out) (Kd.R_typed (by (with_reducible repeat (first | apply Kd.R_alloc | apply Kd.R_drewN | apply Kd.R_drew)); exact HO_247001.out)) (by decide) hg)
              have n1_ := Aside0.mk (blk_grown (g := gb238) (o := .cells #[.int .i64 a0_0, .slice (some ad247) l0_1.length c0_1, .slice A0_2 l0_2.length c0_2] 59 (0, 0)) (by (with_reducible repeat (first | refine blk_drewN ?_ _ | refine blk_drew ?_ | refine blk_alloc ?_ _)); exact BK238.out) hg (Kd.R_ne HO_247001.out BK238.out (by decide)))
              have n2_ := Aside0.mk (blk_grown (g := gb239) (o := .cells #[.int .i64 0, .slice none 0 0, .slice none 0 0] 64 (0, 0)) (by (with_reducible repeat (first | refine blk_drewN ?_ _ | refine blk_drew ?_ | refine blk_alloc ?_ _)); exact BK239.out) hg (Kd.R_ne HO_247001.out BK239.out (by decide)))
              have n3_ := Aside0.mk (blk_grown (g := gb246) (o := .cells #[.int .i64 a0_0, u247001, .slice Ao12 y243.length co12] 64 (0, 0)) (by (with_reducible repeat (first | refine blk_drewN ?_ _ | refine blk_drew ?_ | refine blk_alloc ?_ _)); exact BK246.out) hg (Kd.R_ne HO_247001.out BK246.out (by decide)))
              have n4_ := Aside0.mk (hb)
              have n5_ := Aside0.mk (ho)
              clear HO_247002
              clear BK238
              clear BK239
              clear BK246
              clear HB
              clear HO_247001
              have HO_247002 := n0_
              have BK238 := n1_
              have BK239 := n2_
              have BK246 := n3_
              have HB := n4_
              have HO252 := n5_
              clear n0_ n1_ n2_ n3_ n4_ n5_
              clear ho hb hg hat
              obtain ⟨Ao24, co24, eo24⟩ := Kd.R_slice HO252.out
              (first | subst eo24 | (injection eo24 with f1_ f2_ f3_; have f4_ := f1_.symm; have f5_ := f3_.symm; clear f1_ f2_ f3_; subst f4_; subst f5_))
              refine hK.out _ _ ⟨(blk_cell BK246.out 0).trans rfl, (blk_cell BK246.out 1).trans rfl, (blk_cell BK246.out 2).trans rfl, (blk_cell BK238.out 0).trans rfl, (blk_cell BK238.out 1).trans rfl, (blk_cell BK238.out 2).trans rfl, ((HB.out.cell (World.block_lt_of_cell? w _ hw247_0)).trans hw247_0), ((HB.out.cell (World.block_lt_of_cell? w _ hw247_1)).trans hw247_1), ((HB.out.cell (World.block_lt_of_cell? w _ hw247_2)).trans hw247_2), ((HB.out.cell (World.block_lt_of_cell? w _ hw248_0)).trans hw248_0), ((HB.out.cell (World.block_lt_of_cell? w _ hw248_1)).trans hw248_1), ((HB.out.cell (World.block_lt_of_cell? w _ hw248_2)).trans hw248_2), ((HB.out.cell (World.block_lt_of_cell? w _ hw249_0)).trans hw249_0), ((HB.out.cell (World.block_lt_of_cell? w _ hw249_1)).trans hw249_1), ((HB.out.cell (World.block_lt_of_cell? w _ hw249_2)).trans hw249_2)⟩ (fun hHeld => ?_)
              clear hK K
              refine norm_ (a' := ?_) ?_ ?_
              rotate_left
              · show Act.put _ (some 41) _ = _
                simp only [Act.put, List.setIfInBounds_toArray, List.set_cons_zero, List.set_cons_succ, i64_w, i32_w]
                rfl
              refine pure_ (i := 23) (N := some 42) (v := ?_) (a' := ?_) #[true, true, true, true, true, true, true, true, true, true, true, true, true, true, true, true, true, true, true, true, true, true, true, true, false] rfl rfl (any_of HT_.out (by kernel_rfl)) (fun _ _ _ h => h) (Or.inl ⟨by rfl, ?_⟩) ?_ ?_
              rotate_left
              · intro w'
                go_simp
                with_reducible rfl
              rotate_left
              · simp only [Act.put, List.setIfInBounds_toArray, List.set_cons_zero, List.set_cons_succ, i64_w, i32_w]
                rfl
              refine last_ (i := 24) (N := none) #[true, true, true, true, true, true, true, true, true, true, true, true, true, true, true, true, true, true, true, true, true, true, true, true, true] rfl rfl (one_of HT_.out (by kernel_rfl)) (by decide) (fun K hK => ?_)
              have hs25 : w23.cell? ⟨gb246, 1, none⟩ = some (u247001) := (blk_cell BK246.out 1).trans rfl
              have hfs25 := blk_frozen BK246.out 1
              have hns25_0 := NB238_246.out
              have hns25_1 := NB239_246.out
              have hms25_0 := NB246_238.out
              have hms25_1 := NB246_239.out
              refine skip_ (w1 := ?_) (by rfl) rfl ?_ ?_
              rotate_left
              · go_simp
                rfl
              refine hK.out _ _ ?_
              clear hK K
              refine done_ (done_of HT_.out (by kernel_rfl)) ?_
              try go_wp2
              go_roundg k1
              case measure => have := HK1.out; omega
              case rel => exact ⟨(wrap64 (x4_1 + 1)), (y250), (.slice Ao24 y250.length co24), (by first | rfl | (simp; done) | (simp [*]; done)), H', ⟨by have := HK1.out; omega⟩, ⟨by (with_reducible repeat (first | apply Kd.R_alloc | apply Kd.R_drewN | apply Kd.R_drew)); exact Kd.R_mono (Kd.R_far (p := ⟨gb246, 1, none⟩) (Kd.R_types HO252.out BK246.out (by decide)) (fun _ hk => hk.2) (.slice Ao24 y250.length co24)) (fun _ hk => trivial)⟩, ⟨by (with_reducible repeat (first | apply Kd.R_alloc | apply Kd.R_drewN | apply Kd.R_drew)); exact Kd.R_mono (Kd.R_far (p := ⟨gb246, 1, none⟩) (Kd.R_types HO_247002.out BK246.out (by decide)) (fun _ hk => hk.2) (.slice Ao24 y250.length co24)) (fun _ hk => trivial)⟩, ⟨by (with_reducible repeat (first | refine blk_drewN ?_ _ | refine blk_drew ?_ | refine blk_alloc ?_ _)); refine blk_far ?_ NB238_246.out _; (with_reducible repeat (first | refine blk_drewN ?_ _ | refine blk_drew ?_ | refine blk_alloc ?_ _)); exact BK238.out⟩, ⟨by (with_reducible repeat (first | refine blk_drewN ?_ _ | refine blk_drew ?_ | refine blk_alloc ?_ _)); refine blk_far ?_ NB239_246.out _; (with_reducible repeat (first | refine blk_drewN ?_ _ | refine blk_drew ?_ | refine blk_alloc ?_ _)); exact BK239.out⟩, ⟨by (with_reducible repeat (first | refine blk_drewN ?_ _ | refine blk_drew ?_ | refine blk_alloc ?_ _)); refine blk_put (cs := #[.int .i64 a0_0, u247001, .slice Ao12 y243.length co12]) ?_ 1 _ rfl; (with_reducible repeat (first | refine blk_drewN ?_ _ | refine blk_drew ?_ | refine blk_alloc ?_ _)); exact BK246.out⟩, ⟨by repeat (first | (with_reducible first | exact HB.out | apply below_alloc | apply pw_below_drewN | apply below_drew1 | refine below_set ?_ GE238.out | refine below_set ?_ GE239.out | refine below_set ?_ GE246.out) | exact HB.out)⟩⟩
            · rw [if_neg c18] at H
              exact absurd H (by simp)
          · rw [if_neg c17] at H
            exact absurd H (by simp)
        · rw [if_neg c16] at H
          have c16b0 : decide (x4_1 < (l0_1.length : Int)) = false := decide_eq_false c16
          clear c16
          simp only [Option.some.injEq, Prod.mk.injEq] at H
          obtain ⟨rfl, rfl, rfl⟩ := H
          have hnb26 := NB238_239.out
          have hnc26 := NB239_238.out
          have hnb27 := NB238_246.out
          have hnc27 := NB246_238.out
          have hcz28_0 : wr.cell? ⟨gb238, 0, none⟩ = some (.int .i64 a0_0) := (blk_cell BK238.out 0).trans rfl
          have hcz28_1 : wr.cell? ⟨gb238, 1, none⟩ = some (.slice A0_1 l0_1.length c0_1) := (blk_cell BK238.out 1).trans rfl
          have hcz28_2 : wr.cell? ⟨gb238, 2, none⟩ = some (.slice A0_2 l0_2.length c0_2) := (blk_cell BK238.out 2).trans rfl
          have hfz28_0 := blk_frozen BK238.out 0
          have hfz28_1 := blk_frozen BK238.out 1
          have hfz28_2 := blk_frozen BK238.out 2
          have hnb29 := NB246_239.out
          have hnc29 := NB239_246.out
          have hcz30_0 : wr.cell? ⟨gb246, 0, none⟩ = some (.int .i64 a0_0) := (blk_cell BK246.out 0).trans rfl
          have hcz30_1 : wr.cell? ⟨gb246, 1, none⟩ = some (u247001) := (blk_cell BK246.out 1).trans rfl
          have hcz30_2 : wr.cell? ⟨gb246, 2, none⟩ = some (.slice Ao12 y243.length co12) := (blk_cell BK246.out 2).trans rfl
          have hfz30_0 := blk_frozen BK246.out 0
          have hfz30_1 := blk_frozen BK246.out 1
          have hfz30_2 := blk_frozen BK246.out 2
          have hcz31_0 : wr.cell? ⟨gb239, 0, none⟩ = some (.int .i64 0) := (blk_cell BK239.out 0).trans rfl
          have hcz31_1 : wr.cell? ⟨gb239, 1, none⟩ = some (.slice none 0 0) := (blk_cell BK239.out 1).trans rfl
          have hcz31_2 : wr.cell? ⟨gb239, 2, none⟩ = some (.slice none 0 0) := (blk_cell BK239.out 2).trans rfl
          have hfz31_0 := blk_frozen BK239.out 0
          have hfz31_1 := blk_frozen BK239.out 1
          have hfz31_2 := blk_frozen BK239.out 2
          obtain ⟨Ao32, co32, eo32⟩ := Kd.R_slice HO_247001.out
          subst eo32
          go_wp2
          refine bodyPost_ret (results_cell_row rfl _ _ gb239 64 #[.int .i64 a0_0, .slice Ao32 x247001_1.length co32, .slice Ao12 y243.length co12] (0, 0) _ rfl (by (with_reducible repeat (first | refine blk_drewN ?_ _ | refine blk_drew ?_ | refine blk_alloc ?_ _)); refine blk_put (cs := #[.int .i64 a0_0, .slice Ao32 x247001_1.length co32, .slice none 0 0]) ?_ 2 _ rfl; (with_reducible repeat (first | refine blk_drewN ?_ _ | refine blk_drew ?_ | refine blk_alloc ?_ _)); refine blk_put (cs := #[.int .i64 a0_0, .slice none 0 0, .slice none 0 0]) ?_ 1 _ rfl; (with_reducible repeat (first | refine blk_drewN ?_ _ | refine blk_drew ?_ | refine blk_alloc ?_ _)); refine blk_put (cs := #[.int .i64 0, .slice none 0 0, .slice none 0 0]) ?_ 0 _ rfl; (with_reducible repeat (first | refine blk_drewN ?_ _ | refine blk_drew ?_ | refine blk_alloc ?_ _)); exact BK239.out) Tryd.underlying64 rfl (by kernel_rfl)) rfl ?_
          exact ⟨_, _, by first | rfl | (simp [errW_none, errW_some] <;> rfl) | (simp [*, errW_none, errW_some] <;> rfl), by (with_reducible repeat (first | apply Kd.R_alloc | apply Kd.R_drewN | apply Kd.R_drew)); exact Kd.R_mono (Kd.R_far (p := ⟨gb239, 2, none⟩) (Kd.R_far (p := ⟨gb239, 1, none⟩) (Kd.R_far (p := ⟨gb239, 0, none⟩) (Kd.R_types HO_247001.out BK239.out (by decide)) (fun _ hk => hk.2) (.int .i64 a0_0)) (fun _ hk => hk.2) (.slice Ao32 x247001_1.length co32)) (fun _ hk => hk.2) (.slice Ao12 y243.length co12)) (fun _ hk => trivial), by (with_reducible repeat (first | apply Kd.R_alloc | apply Kd.R_drewN | apply Kd.R_drew)); exact Kd.R_mono (Kd.R_far (p := ⟨gb239, 2, none⟩) (Kd.R_far (p := ⟨gb239, 1, none⟩) (Kd.R_far (p := ⟨gb239, 0, none⟩) (Kd.R_types HO_247002.out BK239.out (by decide)) (fun _ hk => hk.2) (.int .i64 a0_0)) (fun _ hk => hk.2) (.slice Ao32 x247001_1.length co32)) (fun _ hk => hk.2) (.slice Ao12 y243.length co12)) (fun _ hk => trivial), by repeat (first | (with_reducible first | exact HB.out | apply below_alloc | apply pw_below_drewN | apply below_drew1 | refine below_set ?_ GE238.out | refine below_set ?_ GE239.out | refine below_set ?_ GE246.out) | exact HB.out)⟩
  · rw [if_neg c2] at H
    exact absurd H (by simp)
end Go.Proofs.YtgeldmhgbnamcaaDoor.Q
end
