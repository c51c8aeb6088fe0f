/- Walks and laws of several statements of this seat, joined into one text; no condition. -/
import Derived.Test.YtgeldmhgbnamcaaProg
import Derived.Below
import Derived.Deep.Draws
import Derived.Deep.AppendLies
import Derived.Maps.AppendAt
import Derived.OwnWalk
import Derived.Laws.BytesArg
import Derived.Laws.MakeOwn
import Derived.Laws.OwnMore
import Derived.Deep.OwnRows
import Derived.Tactics
import Derived.Lib.ConvBytes
import Derived.Laws.Slices
import Derived.WalkKit
import Derived.KernelRfl
import Derived.RowKit3
import Derived.Deep.LoopGhost
import Derived.Deep.QuietTactic
import Derived.BigQuiet
import Derived.WideLaws
import Derived.Deep.DeepCutAuto
import Derived.Deep.CutBlock
import Derived.Deep.RegionHeld3
import Derived.Laws.Rows
import Derived.Lib.AppendStr
import Derived.ArgAppend
import Derived.Laws.IdiomCopy
import Derived.OrdersHeld
import Derived.Laws.BitsLemmas
import Derived.RowKit
import Derived.Laws.StructEq
import Derived.Deep.Slices
import Derived.SizedLaws
import Derived.OpenShut
import Derived.Lib.SmallJoins
import Derived.Lib.BufferMore
import Derived.IntWalk
import Derived.Laws.CopyOwn
import Derived.Deep.RegionLaw
import Derived.LoopTactic
import Derived.Outline
import Derived.Test.YtgeldmhgbnamcaaFSa0
import Derived.Test.YtgeldmhgbnamcaaFSa1
import Derived.Test.YtgeldmhgbnamcaaFSa2
import Derived.Test.YtgeldmhgbnamcaaFSa5
import Derived.Test.YtgeldmhgbnamcaaFSa8
import Derived.Test.YtgeldmhgbnamcaaFSa3
import Derived.Test.YtgeldmhgbnamcaaFSa4
import Derived.Test.YtgeldmhgbnamcaaFSa7
import Derived.Test.YtgeldmhgbnamcaaFSa6
section
namespace Go.Proofs.Ytgeldmhgbnamcaa.P
open Go.RowKit Go.Proofs.YtgeldmhgbnamcaaW.PrintWords Go.Proofs.YtgeldmhgbnamcaaW.PrintLast Go.Proofs.YtgeldmhgbnamcaaW.PrintMore
set_option linter.unusedVariables false
set_option linter.unusedSimpArgs false
open Go.ChangeShapes Go.WideShapes Go.Deep
def Opens (P : Program) (t : TypeId) {α : Type} (d : Kd α) (q : α → Prop) : Prop :=
 ∀ (H : Type) (enc : TypeId × Value → H) (w : World) (base : Nat) (spare : Nat → Bool) (held : Bool) (fuel : Nat) (cs : List Value) (x : DataW H × List MemPlace),
  DataW.trod enc P w base spare held fuel t cs = some x → ∃ y : α, d.K w y cs ∧ q y
theorem Opens.int {P : Program} {t : TypeId} {k : IntKind} (hu : P.underlying t = some (.int k)) : Opens P t (Kd.int k) (fun n => (Lit.int k n).wf = true) := by
 intro H enc w base spare held fuel cs x h
 obtain ⟨n, rfl, _, hw⟩ := DataW.trod_int hu h
 exact ⟨n, rfl, hw⟩
theorem Opens.imp {P : Program} {t : TypeId} {α : Type} {d : Kd α} {q q' : α → Prop} (h : Opens P t d q) (hq : ∀ y, q y → q' y) : Opens P t d q' := by
 intro H enc w base spare held fuel cs x hx
 obtain ⟨y, h1, h2⟩ := h H enc w base spare held fuel cs x hx
 exact ⟨y, h1, hq y h2⟩
theorem Opens.iso {P : Program} {t : TypeId} {α β : Type} {d : Kd α} {q : α → Prop} (h : Opens P t d q) (f : β → α) (g : α → β) (hfg : ∀ y, f (g y) = y) : Opens P t (Kd.iso d f) (fun x => q (f x)) := by
 intro H enc w base spare held fuel cs x hx
 obtain ⟨y, h1, h2⟩ := h H enc w base spare held fuel cs x hx
 refine ⟨g y, ?_, by show q (f (g y)); rw [hfg]; exact h2⟩
 show d.K w (f (g y)) cs
 rw [hfg]; exact h1
theorem Opens.slice {P : Program} {t e : TypeId} {α : Type} [Inhabited α] {d : Kd α} {q : α → Prop} (hu : P.underlying t = some (.slice e)) (hc : P.cellsOf e = d.sz) (h : Opens P e d q) : Opens P t (Kd.slice e d) (fun l => l.length ≤ maxLen ∧ ∀ y ∈ l, q y) := by
 intro H enc w base spare held fuel cs x hx
 rcases open_slice hu hx with ⟨rfl, _⟩ | ⟨a, len, cap, m, n, D, Pl, rfl, hb, hl, hm, hmm, _, hel⟩
 ·exact ⟨[], ⟨none, 0, rfl, Nat.le_refl _, rfl, Nat.zero_le _, fun h => absurd h (by simp)⟩, Nat.zero_le _, fun y hy => by simp at hy⟩
 ·have hlm : len ≤ m := by rw [hmm]; split <;> omega
  obtain ⟨Y, hY⟩ := choose_lt (α := α) (n := len) (p := fun i y => ∃ cs', w.cells? base (a.add (i * P.cellsOf e)) (P.cellsOf e) = some cs' ∧ d.K w y cs' ∧ q y) (fun i hi => by
   obtain ⟨cs', h1, h2⟩ := hel i (by omega)
   obtain ⟨y, h3, h4⟩ := h H enc w base spare held n cs' _ h2
   exact ⟨y, cs', h1, h3, h4⟩)
  have hlen : ((List.range len).map Y).length = len := by simp
  refine ⟨(List.range len).map Y, ⟨some a, cap, by rw [hlen], by rw [hlen]; exact hl, rfl, ?_, fun _ => ⟨a, rfl, fun j p hj => ?_⟩⟩, ?_, fun y hy => ?_⟩
  ·rw [hlen]; unfold maxLen at hm; omega
  ·obtain ⟨hjl, hje⟩ := List.getElem?_eq_some_iff.1 hj
   rw [hlen] at hjl
   have hpj : p = Y j := by rw [← hje]; simp
   obtain ⟨cs', h1, h3, _⟩ := hY j hjl
   obtain ⟨_, hcl, hcc⟩ := World.cells?_some h1
   refine ⟨cs', d.K_len h3, by rw [hpj]; exact h3, fun i u hu2 => ?_⟩
   have hi := (List.getElem?_eq_some_iff.1 hu2).1
   rw [d.K_len h3] at hi
   have h5 := hcc i (by rw [hc]; exact hi)
   rw [hc, Go.Deep.add_add] at h5
   rw [h5, ← hu2]
  ·rw [hlen]; omega
  ·obtain ⟨j, hj, rfl⟩ := List.mem_map.1 hy
   obtain ⟨_, _, _, h4⟩ := hY j (List.mem_range.1 hj)
   exact h4
def OpensSeg (P : Program) (fs : List Field) (off : Nat) {α : Type} (d : Kd α) (q : α → Prop) : Prop :=
 ∀ (H : Type) (enc : TypeId × Value → H) (w : World) (base : Nat) (spare : Nat → Bool) (held : Bool) (fuel : Nat) (cs : List Value), cs.length = d.sz →
  (∀ f ∈ fs, ∃ x : DataW H × List MemPlace, DataW.trod enc P w base spare held fuel f.type ((cs.drop (f.offset - off)).take (P.cellsOf f.type)) = some x) → ∃ y : α, d.K w y cs ∧ q y
theorem OpensSeg.one {P : Program} {f : Field} {off : Nat} {α : Type} {d : Kd α} {q : α → Prop} (ho : f.offset = off) (hc : P.cellsOf f.type = d.sz) (h : Opens P f.type d q) : OpensSeg P [f] off d q := by
 intro H enc w base spare held fuel cs hl hf
 obtain ⟨x, hx⟩ := hf f List.mem_cons_self
 rw [ho, Nat.sub_self, List.drop_zero, hc, ← hl, List.take_length] at hx
 exact h H enc w base spare held fuel cs x hx
theorem OpensSeg.cons {P : Program} {f : Field} {fs : List Field} {off : Nat} {α β : Type} {d : Kd α} {d2 : Kd β} {q : α → Prop} {q2 : β → Prop} (ho : f.offset = off) (hc : P.cellsOf f.type = d.sz) (hm : ∀ g ∈ fs, off + d.sz ≤ g.offset) (h : Opens P f.type d q) (h2 : OpensSeg P fs (off + d.sz) d2 q2) :
  OpensSeg P (f :: fs) off (Kd.pair d d2) (fun y => q y.1 ∧ q2 y.2) := by
 intro H enc w base spare held fuel cs hl hf
 have hl' : cs.length = d.sz + d2.sz := hl
 obtain ⟨x, hx⟩ := hf f List.mem_cons_self
 rw [ho, Nat.sub_self, List.drop_zero, hc] at hx
 obtain ⟨y, h3, h4⟩ := h H enc w base spare held fuel _ x hx
 obtain ⟨y2, h5, h6⟩ := h2 H enc w base spare held fuel (cs.drop d.sz) (by rw [List.length_drop]; omega) (fun g hg => by
  obtain ⟨x2, hx2⟩ := hf g (List.mem_cons_of_mem _ hg)
  refine ⟨x2, ?_⟩
  have := hm g hg
  rw [List.drop_drop, show d.sz + (g.offset - (off + d.sz)) = g.offset - off by omega]
  exact hx2)
 exact ⟨(y, y2), ⟨cs.take d.sz, cs.drop d.sz, (List.take_append_drop _ _).symm, h3, h5⟩, h4, h6⟩
theorem Opens.struct {P : Program} {t : TypeId} {fs : Array Field} {α : Type} {d : Kd α} {q : α → Prop} (hu : P.underlying t = some (.struct fs)) (hc : P.cellsOf t = d.sz) (h : OpensSeg P fs.toList 0 d q) : Opens P t d q := by
 intro H enc w base spare held fuel cs x hx
 obtain ⟨xs, n, rfl, _, hl, hxs, hf⟩ := DataW.trod_struct hu hx
 refine h H enc w base spare held n cs (by rw [hl, hc]) (fun f hf2 => ?_)
 obtain ⟨i, hi, rfl⟩ := List.getElem_of_mem hf2
 have h1 := hf i fs.toList[i] (by rw [Array.getElem?_eq_getElem (by simpa using hi)]; simp)
 have hi2 : i < fs.size := by simpa using hi
 rw [List.getElem?_eq_getElem (by omega)] at h1
 exact ⟨_, by rw [Nat.sub_zero]; exact h1⟩
theorem Opens.arg {P : Program} {t e : TypeId} {α : Type} {d : Kd α} {q : List α → Prop} (ho : Opens P t (Kd.slice e d) q) {H : Type} {enc : TypeId × Value → H} {w : World} {base : Nat} {spare : Nat → Bool} {held : Bool} {a : Option Addr} {len cap : Nat} {D : DataW H} {ps : List MemPlace} (h : DataW.Trod enc P w base spare held t (.slice a len cap) D ps) :
  ∃ l : List α, len = l.length ∧ Kd.C d w a l.length l ∧ l.length ≤ cap ∧ q l := by
 obtain ⟨fuel, hf⟩ := h
 obtain ⟨l, ⟨A, c, he, hlc, hC⟩, hq⟩ := ho H enc w base spare held fuel _ _ hf
 simp [Value.cells] at he
 obtain ⟨rfl, rfl, rfl⟩ := he
 exact ⟨l, rfl, hC, hlc, hq⟩
theorem sized_slice_any {H : Type} {enc : TypeId × Value → H} {P : Program} {W : World} {base : Nat} {spare : Nat → Bool} {held : Bool} {t e : TypeId} {a : Option Addr} {len cap : Nat} {d : DataW H} {ps : List MemPlace} {ts : List TypeId} {ds : List (DataW H)} {j : Nat}
  (hsz : (DataW.weightsEach P ts ds).all (· ≤ reachBytes) = true) (ht : ts[j]? = some t) (hd : ds[j]? = some d) (hu : P.underlying t = some (.slice e)) {B : Nat} (hB : P.bytesOf e = B)
  (h : DataW.Trod enc P W base spare held t (.slice a len cap) d ps) : len * B ≤ 140737488351232 := by
 obtain ⟨fuel, hf⟩ := h
 rcases open_slice hu hf with ⟨hcs, _⟩ | ⟨x, l, c, m, n, D, Pl, hcs, _, hl, _, hm, hx, _⟩
 ·simp [Value.cells] at hcs
  obtain ⟨rfl, rfl, rfl⟩ := hcs
  simp
 ·simp [Value.cells] at hcs
  obtain ⟨rfl, rfl, rfl⟩ := hcs
  obtain ⟨hx, _⟩ := Prod.mk.inj hx
  subst hx
  have z := sized_slice hsz ht hd hu
  rw [hB] at z
  have h1 : len ≤ ((List.range len).map D).length + ((List.range (m - len)).map fun j => D (len + j)).length := by simp
  exact Nat.le_trans (Nat.mul_le_mul_right _ h1) z
def wfC (x : S40) : Prop := (-9223372036854775808 ≤ x.f0 ∧ x.f0 ≤ 9223372036854775807) ∧ (0 ≤ x.f1 ∧ x.f1 ≤ 18446744073709551615) ∧ (-9223372036854775808 ≤ x.f2 ∧ x.f2 ≤ 9223372036854775807)
instance : Inhabited S40 := ⟨z40⟩
theorem opens_i64 {P : Program} {t : TypeId} (hu : P.underlying t = some (.int .i64)) : Opens P t (Kd.int .i64) (fun n => -9223372036854775808 ≤ n ∧ n ≤ 9223372036854775807) := (Opens.int hu).imp fun _ h => bounds_i64 h
theorem opens_u64 {P : Program} {t : TypeId} (hu : P.underlying t = some (.int .u64)) : Opens P t (Kd.int .u64) (fun n => 0 ≤ n ∧ n ≤ 18446744073709551615) := (Opens.int hu).imp fun _ h => bounds_u64 h
theorem opens40 : Opens Try.prog 40 k40 wfC :=
 Opens.iso (Opens.struct (d := Kd.pair (Kd.int .i64) (Kd.pair (Kd.int .u64) (Kd.int .i64))) Try.underlying40 (by kernel_rfl)
  (OpensSeg.cons rfl (by kernel_rfl) (by decide) (opens_i64 Try.underlying3) (OpensSeg.cons rfl (by kernel_rfl) (by decide) (opens_u64 Try.underlying38) (OpensSeg.one rfl (by kernel_rfl) (opens_i64 Try.underlying2)))))
  (fun x : S40 => (x.f0, x.f1, x.f2)) (fun y => ⟨y.1, y.2.1, y.2.2⟩) (fun _ => rfl)
theorem opens22 : Opens Try.prog 22 (Kd.slice 40 k40) (fun l => l.length ≤ maxLen ∧ ∀ y ∈ l, wfC y) := Opens.slice Try.underlying22 (by kernel_rfl) opens40
instance : Inhabited S90 := ⟨z90⟩
theorem opens90 : Opens Try.prog 90 k90 (fun x => 0 ≤ x.f2 ∧ x.f2 ≤ 18446744073709551615) :=
 (Opens.iso (Opens.struct (d := Kd.pair (Kd.int .i64) (Kd.pair (Kd.int .i64) (Kd.int .u64))) Try.underlying90 (by kernel_rfl)
  (OpensSeg.cons rfl (by kernel_rfl) (by decide) (opens_i64 Try.underlying3) (OpensSeg.cons rfl (by kernel_rfl) (by decide) (opens_i64 Try.underlying3) (OpensSeg.one rfl (by kernel_rfl) (opens_u64 Try.underlying38)))))
  (fun x : S90 => (x.f0, x.f1, x.f2)) (fun y => ⟨y.1, y.2.1, y.2.2⟩) (fun _ => rfl)).imp fun _ h => h.2.2
theorem opens58 : Opens Try.prog 58 (Kd.pair (Kd.int .i64) (Kd.pair (Kd.slice 90 k90) (Kd.slice 3 (Kd.int .i64)))) (fun y => ∀ x ∈ y.2.1, 0 ≤ x.f2 ∧ x.f2 ≤ 18446744073709551615) :=
 (Opens.struct Try.underlying58 (by kernel_rfl) (OpensSeg.cons rfl (by kernel_rfl) (by decide) (opens_i64 Try.underlying3) (OpensSeg.cons rfl (by kernel_rfl) (by decide) (Opens.slice Try.underlying55 (by kernel_rfl) opens90) (OpensSeg.one rfl (by kernel_rfl) (Opens.slice Try.underlying56 (by kernel_rfl) (opens_i64 Try.underlying3)))))).imp fun _ h => h.2.1.2
set_option maxRecDepth 100000 in
theorem open58 {H : Type} {enc : TypeId × Value → H} {w : World} {base : Nat} {spare : Nat → Bool} {held : Bool}
  {r : Reach} {b0 : Nat} {v : Value} {d : DataW H} {p : List MemPlace} (hv : Value.okWide Try.prog w r b0 58 v) (h : DataW.Trod enc Try.prog w base spare held 58 v d p) :
  ∃ (a0 : Int) (A1 : Option Addr) (c1 : Nat) (l1 : List S90) (A2 : Option Addr) (c2 : Nat) (l2 : List Int), v = .agg #[.int .i64 a0, .slice A1 l1.length c1, .slice A2 l2.length c2] ∧ Kd.C k90 w A1 l1.length l1 ∧ l1.length ≤ c1 ∧ (∀ y ∈ l1, 0 ≤ y.f2 ∧ y.f2 ≤ 18446744073709551615) ∧ Kd.C (Kd.int .i64) w A2 l2.length l2 ∧ l2.length ≤ c2 := by
 obtain ⟨cs, rfl⟩ : ∃ cs : Array Value, v = .agg cs := by
  simp only [Value.okWide, Try.underlying58] at hv
  obtain ⟨cs, h1, _⟩ := hv
  exact ⟨cs, h1⟩
 obtain ⟨fuel, hf⟩ := h
 obtain ⟨⟨a0, l1, l2⟩, hK, hq⟩ := opens58 H enc w base spare held fuel _ _ hf
 obtain ⟨s0, s1, e0, h0, t0, t1, e1, ⟨A1, c1, h1, hc1, hC1⟩, ⟨A2, c2, h2, hc2, hC2⟩⟩ := hK
 have h0 : s0 = [.int .i64 a0] := h0
 subst h0 h1 h2 e1
 refine ⟨a0, A1, c1, l1, A2, c2, l2, ?_, hC1, hc1, hq, hC2, hc2⟩
 have e0 : cs.toList = _ := e0
 congr 1
 apply Array.toList_inj.1
 rw [e0]; rfl
attribute [local go_sem] max2_int min2_int max_two min_two max_three min_three max_four min_four   -- for this text's walks alone
end Go.Proofs.Ytgeldmhgbnamcaa.P
end
section
namespace Go.Proofs.Ytgeldmhgbnamcaa.Pure
open Go.RowKit Go.Proofs.Ytgeldmhgbnamcaa.P Go.Proofs.YtgeldmhgbnamcaaW.PrintWords Go.Proofs.YtgeldmhgbnamcaaW.PrintLast
set_option linter.unusedVariables false
set_option linter.unusedSimpArgs false
abbrev Short (n : Nat) : Prop := n ≤ 5864062014634
theorem w64s {n : Nat} (h : n ≤ 9000000000000000000) : wrap64 ((n : Int) + 1) = ((n + 1 : Nat) : Int) := by unfold wrap64; omega
theorem w64p {n : Nat} (h : n ≤ 9000000000000000000) : wrap64 (((n + 1 : Nat) : Int) - 1) = (n : Int) := by unfold wrap64; omega
theorem rd4 (p : List S40) (x : S40) (q : List S40) {i : Int} (h : i = p.length) : rd_T40 (p ++ x :: q) i = x := by subst h; simp [rd_T40]
theorem rd5 (p : List S50) (x : S50) (q : List S50) {i : Int} (h : i = p.length) : rd_T50 (p ++ x :: q) i = x := by subst h; simp [rd_T50]
theorem Ev.id {α : Type} {g f : Nat → Option α} {r : α} (k : Ev f r) (h : ∀ k, f k = g k) : Ev g r := Ev.congr (fun k => (h k).symm) k
def u (x : S40) : S50 := ⟨x.f0, x.f1, x.f2⟩
def v (x : S50) : S40 := ⟨x.f0, x.f1, x.f2⟩
def kl (a b : S50) : Prop := a.f0 < b.f0 ∨ (a.f0 = b.f0 ∧ a.f1 < b.f1)
def ke (a b : S50) : Prop := a.f0 = b.f0 ∧ a.f1 = b.f1
instance (a b : S50) : Decidable (kl a b) := by unfold kl; exact inferInstance
instance (a b : S50) : Decidable (ke a b) := by unfold ke; exact inferInstance
def ordv (a b : S50) : Int := if kl a b then -1 else if ke a b then 0 else 1
theorem kl_trans {a b c : S50} (h : kl a b) (k : kl b c) : kl a c := by unfold kl at *; omega
theorem kl_irrefl {a : S50} : ¬ kl a a := by unfold kl; omega
theorem kl_tri (a b : S50) : kl a b ∨ ke a b ∨ kl b a := by unfold kl ke; omega
theorem cmp_i (a b : Int) : cmp_Compare_int.f a b = some (if a < b then -1 else if b < a then 1 else 0) := by
 simp only [cmp_Compare_int.f, cmp_isNaN_int.f, Option.bind_some, bne_self_eq_false, Bool.false_eq_true, if_false]
 split <;> (try split) <;> simp_all
theorem cmp_u (a b : Int) : cmp_Compare_uint64.f a b = some (if a < b then -1 else if b < a then 1 else 0) := by
 simp only [cmp_Compare_uint64.f, cmp_isNaN_uint64.f, Option.bind_some, bne_self_eq_false, Bool.false_eq_true, if_false]
 split <;> (try split) <;> simp_all
theorem order_ev (a0 a1 a2 b0 b1 b2 : Int) : Ev (fun k => batch_order.f k a0 a1 a2 b0 b1 b2) (ordv ⟨a0, a1, a2⟩ ⟨b0, b1, b2⟩) := by
 refine ⟨3, fun k hk => ?_⟩
 obtain ⟨k, rfl⟩ : ∃ m, k = m + 3 := ⟨k - 3, by omega⟩
 have w1 : wrap64 (0 + 1) = 1 := by unfold wrap64; omega
 have w2 : wrap64 (1 + 1) = 2 := by unfold wrap64; omega
 simp only [batch_order.f, cmp_i, cmp_u, Option.bind_some, ordv, kl, ke]
 have w3 : wrap64 1 = 1 := by unfold wrap64; omega
 have w4 : wrap64 2 = 2 := by unfold wrap64; omega
 by_cases h1 : a0 < b0
 ·simp [h1, cmp_Or_int.f, cmp_Or_int.l0, rd]
 by_cases h2 : b0 < a0
 ·have : ¬ a0 = b0 := by omega
  simp [h1, h2, this, cmp_Or_int.f, cmp_Or_int.l0, rd]
 obtain rfl : a0 = b0 := by omega
 by_cases h3 : a1 < b1
 ·simp [h1, h3, cmp_Or_int.f, cmp_Or_int.l0, rd, w1, w3, w4]
 by_cases h4 : b1 < a1
 ·have : ¬ a1 = b1 := by omega
  simp [h1, h3, h4, this, cmp_Or_int.f, cmp_Or_int.l0, rd, w1, w3, w4]
 obtain rfl : a1 = b1 := by omega
 simp [h1, h3, cmp_Or_int.f, cmp_Or_int.l0, rd, w1, w3, w4, w2]
def wi (n : Int) : Prop := -576460752303423488 ≤ n ∧ n ≤ 576460752303423488
instance (n : Int) : Decidable (wi n) := by unfold wi; exact inferInstance
theorem within_eq (n : Int) : batch_within.f n = some (decide (wi n)) := by
 unfold batch_within.f wi
 by_cases h : n ≥ -576460752303423488
 ·rw [if_pos h]; simp [h]
 ·rw [if_neg h]; simp [h]
theorem within3_eq (n : Int) : marchlandref03_within.f n = some (decide (wi n)) := by
 unfold marchlandref03_within.f wi
 by_cases h : n ≥ -576460752303423488
 ·rw [if_pos h]; simp [h]
 ·rw [if_neg h]; simp [h]
theorem before_eq (a b : S50) : marchlandref03_before.f a.f0 a.f1 a.f2 b.f0 b.f1 b.f2 = some (decide (kl a b)) := by
 unfold marchlandref03_before.f kl
 by_cases h : a.f0 < b.f0
 ·rw [if_pos h]; simp [h]
 ·rw [if_neg h]
  by_cases h2 : a.f0 = b.f0
  ·rw [if_pos h2]; simp [h2]
  ·rw [if_neg h2]; simp [h, h2]
def wrongv (x : S50) : Int := if x.f0 < 0 ∨ x.f0 ≥ 64 then 2 else if x.f1 = 18446744073709551615 then 1 else if wi x.f2 then 0 else 10
def plus (y x : S50) : S50 := ⟨y.f0, y.f1, wrap64 (y.f2 + x.f2)⟩
def ins (x : S50) : List S50 → List S50
 | [] => [x]
 | y :: l => if ke y x then plus y x :: l else if kl x y then x :: y :: l else y :: ins x l
def tot (l : List S50) : List S50 := l.foldl (fun a x => ins x a) []
theorem wrap64_ass (a b c : Int) : wrap64 (wrap64 (a + b) + c) = wrap64 (a + b + c) := by unfold wrap64; omega
theorem ins_comm (x y : S50) : ∀ l, ins x (ins y l) = ins y (ins x l) := by
 have pc : ke y x → plus y x = plus x y := by intro h; unfold plus ke at *; simp [h.1, h.2, Int.add_comm]
 have pp : ∀ z, plus (plus z x) y = plus (plus z y) x := by intro z; unfold plus; simp only [wrap64_ass]; congr 2; omega
 intro l
 induction l with
 | nil =>
  simp only [ins]
  rcases kl_tri x y with h | h | h
  ·have a1 : ¬ ke y x := by unfold kl ke at *; omega
   have a2 : ¬ ke x y := by unfold kl ke at *; omega
   have a3 : ¬ kl y x := by unfold kl at *; omega
   simp [a1, a2, a3, h]
  ·have h' : ke y x := ⟨h.1.symm, h.2.symm⟩
   simp [h, h', pc h']
  ·have a1 : ¬ ke y x := by unfold kl ke at *; omega
   have a2 : ¬ ke x y := by unfold kl ke at *; omega
   have a3 : ¬ kl x y := by unfold kl at *; omega
   simp [a1, a2, a3, h]
 | cons z l ih =>
  have kp : ∀ w, ke (plus z x) w = ke z w := fun w => rfl
  have kq : ∀ w, ke (plus z y) w = ke z w := fun w => rfl
  have lp : ∀ w, kl w (plus z x) = kl w z := fun w => rfl
  have lq : ∀ w, kl w (plus z y) = kl w z := fun w => rfl
  by_cases e1 : ke z x
  ·by_cases e2 : ke z y
   ·simp [ins, e1, e2, kp, kq, pp]
   ·by_cases c2 : kl y z
    ·have a1 : ¬ ke y x := by unfold kl ke at *; omega
     have a2 : ¬ kl x y := by unfold kl ke at *; omega
     simp [ins, e1, e2, kp, kq, c2, a1, a2, lp]
    ·simp [ins, e1, e2, kp, kq, c2, lp]
  ·by_cases e2 : ke z y
   ·by_cases c2 : kl x z
    ·have a1 : ¬ ke x y := by unfold kl ke at *; omega
     have a2 : ¬ kl y x := by unfold kl ke at *; omega
     simp [ins, e1, e2, kp, kq, c2, a1, a2, lq]
    ·simp [ins, e1, e2, kp, kq, c2, lq]
   ·by_cases c1 : kl x z
    ·by_cases c2 : kl y z
     ·rcases kl_tri x y with h | h | h
      ·have a1 : ¬ ke y x := by unfold kl ke at *; omega
       have a2 : ¬ ke x y := by unfold kl ke at *; omega
       have a3 : ¬ kl y x := by unfold kl at *; omega
       simp [ins, e1, e2, c1, c2, a1, a2, a3, h]
      ·have h' : ke y x := ⟨h.1.symm, h.2.symm⟩
       simp [ins, e1, e2, c1, c2, h, h', pc h']
      ·have a1 : ¬ ke y x := by unfold kl ke at *; omega
       have a2 : ¬ ke x y := by unfold kl ke at *; omega
       have a3 : ¬ kl x y := by unfold kl at *; omega
       simp [ins, e1, e2, c1, c2, a1, a2, a3, h]
     ·have a1 : ¬ ke x y := by unfold kl ke at *; omega
      have a2 : ¬ kl y x := by unfold kl ke at *; omega
      simp [ins, e1, e2, c1, c2, a1, a2]
    ·by_cases c2 : kl y z
     ·have a1 : ¬ ke y x := by unfold kl ke at *; omega
      have a2 : ¬ kl x y := by unfold kl ke at *; omega
      simp [ins, e1, e2, c1, c2, a1, a2]
     ·simp [ins, e1, e2, c1, c2, ih]
theorem tot_perm {a b : List S50} (h : a.Perm b) : tot a = tot b := h.foldl_eq' (fun x _ y _ z => ins_comm y x z) []
theorem ins_app {x : S50} : ∀ {A : List S50} (B : List S50), (∀ a ∈ A, kl a x) → ins x (A ++ B) = A ++ ins x B := by
 intro A
 induction A with
 | nil => intro B _; rfl
 | cons a A ih =>
  intro B h
  have h1 : kl a x := h a (by simp)
  have a1 : ¬ ke a x := by unfold kl ke at *; omega
  have a2 : ¬ kl x a := by unfold kl at *; omega
  simp [ins, a1, a2, ih B (fun b hb => h b (by simp [hb]))]
abbrev Str (l : List S50) : Prop := l.Pairwise kl
abbrev Srt (l : List S50) : Prop := l.Pairwise (fun a b => ¬ kl b a)
theorem ins_mem {x : S50} : ∀ {l : List S50} {z : S50}, z ∈ ins x l → ke z x ∨ ∃ y ∈ l, ke z y := by
 intro l
 induction l with
 | nil => intro z h; simp only [ins, List.mem_singleton] at h; subst h; exact .inl ⟨rfl, rfl⟩
 | cons y l ih =>
  intro z h
  simp only [ins] at h
  split at h
  ·rcases List.mem_cons.1 h with rfl | h
   ·exact .inr ⟨y, by simp, rfl, rfl⟩
   ·exact .inr ⟨z, by simp [h], rfl, rfl⟩
  ·split at h
   ·rcases List.mem_cons.1 h with rfl | h
    ·exact .inl ⟨rfl, rfl⟩
    ·exact .inr ⟨z, h, rfl, rfl⟩
   ·rcases List.mem_cons.1 h with rfl | h
    ·exact .inr ⟨z, by simp, rfl, rfl⟩
    ·rcases ih h with h | ⟨w, hw, h⟩
     ·exact .inl h
     ·exact .inr ⟨w, by simp [hw], h⟩
theorem ins_str {x : S50} : ∀ {l : List S50}, Str l → Str (ins x l) := by
 intro l
 induction l with
 | nil => intro _; simp [ins]
 | cons y l ih =>
  intro h
  obtain ⟨h1, h2⟩ := List.pairwise_cons.1 h
  simp only [ins]
  split
  ·exact List.pairwise_cons.2 ⟨fun z hz => h1 z hz, h2⟩
  ·rename_i e
   split
   ·rename_i c
    refine List.pairwise_cons.2 ⟨fun z hz => ?_, h⟩
    rcases List.mem_cons.1 hz with rfl | hz
    ·exact c
    ·exact kl_trans c (h1 z hz)
   ·rename_i c
    refine List.pairwise_cons.2 ⟨fun z hz => ?_, ih h2⟩
    rcases ins_mem hz with k | ⟨w, hw, k⟩
    ·have := kl_tri x y; unfold kl ke at *; omega
    ·have := h1 w hw; unfold kl ke at *; omega
theorem foldl_ins_str : ∀ (l a : List S50), Str a → Str (l.foldl (fun a x => ins x a) a) := by
 intro l
 induction l with
 | nil => intro a h; exact h
 | cons x l ih => intro a h; exact ih _ (ins_str h)
theorem tot_str (l : List S50) : Str (tot l) := foldl_ins_str l [] List.Pairwise.nil
theorem foldl_ins_mem : ∀ (l a : List S50) {z : S50}, z ∈ l.foldl (fun a x => ins x a) a → (∃ y ∈ l, ke z y) ∨ ∃ y ∈ a, ke z y := by
 intro l
 induction l with
 | nil => intro a z h; exact .inr ⟨z, h, rfl, rfl⟩
 | cons x l ih =>
  intro a z h
  rcases ih _ h with ⟨y, hy, k⟩ | ⟨y, hy, k⟩
  ·exact .inl ⟨y, by simp [hy], k⟩
  ·rcases ins_mem hy with j | ⟨w, hw, j⟩
   ·exact .inl ⟨x, by simp, k.1.trans j.1, k.2.trans j.2⟩
   ·exact .inr ⟨w, hw, k.1.trans j.1, k.2.trans j.2⟩
theorem tot_mem {l : List S50} {z : S50} (h : z ∈ tot l) : ∃ y ∈ l, ke z y := by
 rcases foldl_ins_mem l [] h with h | ⟨y, hy, _⟩
 ·exact h
 ·cases hy
theorem ins_len {x : S50} : ∀ {l : List S50}, (ins x l).length ≤ l.length + 1 := by
 intro l
 induction l with
 | nil => simp [ins]
 | cons y l ih => simp only [ins]; split <;> (try split) <;> simp <;> omega
theorem foldl_ins_len : ∀ (l a : List S50), (l.foldl (fun a x => ins x a) a).length ≤ a.length + l.length := by
 intro l
 induction l with
 | nil => intro a; simp
 | cons x l ih => intro a; have := ih (ins x a); have := ins_len (x := x) (l := a); simp only [List.foldl_cons, List.length_cons]; omega
theorem tot_len (l : List S50) : (tot l).length ≤ l.length := by have := foldl_ins_len l []; simpa [tot] using this
def grp (c : S50) : List S50 → List S50
 | [] => [c]
 | y :: r => if ke c y then grp (plus c y) r else c :: grp y r
theorem foldl_grp : ∀ (r : List S50) (A : List S50) (c : S50), (∀ a ∈ A, kl a c) → Srt (c :: r) → r.foldl (fun a x => ins x a) (A ++ [c]) = A ++ grp c r := by
 intro r
 induction r with
 | nil => intro A c _ _; rfl
 | cons y r ih =>
  intro A c hA hs
  obtain ⟨h1, h2⟩ := List.pairwise_cons.1 hs
  have hcy : ¬ kl y c := h1 y (by simp)
  have hAy : ∀ a ∈ A, kl a y := fun a ha => by have := hA a ha; unfold kl at *; omega
  simp only [List.foldl_cons, ins_app [c] hAy, ins, grp]
  by_cases e : ke c y
  ·rw [if_pos e, if_pos e]
   refine ih A (plus c y) hA (List.pairwise_cons.2 ⟨fun z hz => h1 z (by simp [hz]), (List.pairwise_cons.1 h2).2⟩)
  ·have hcy' : kl c y := (kl_tri c y).elim id (fun h => h.elim (fun h => absurd h e) (fun h => absurd h hcy))
   rw [if_neg e, if_neg e, if_neg hcy]
   have := ih (A ++ [c]) y (fun a ha => (List.mem_append.1 ha).elim (fun h => hAy a h) (fun h => by simp at h; subst h; exact hcy')) h2
   simpa using this
theorem tot_grp {c : S50} {r : List S50} (h : Srt (c :: r)) : tot (c :: r) = grp c r := by
 have := foldl_grp r [] c (fun _ h => by cases h) h
 simpa [tot, ins] using this
def good (G : List S50) : Bool := G.all (fun x => decide (wi x.f2))
def fin (G : List S50) : List S50 := G.filter (fun x => decide (x.f2 ≠ 0))
end Go.Proofs.Ytgeldmhgbnamcaa.Pure
end
section
set_option linter.unusedVariables false
namespace Go.Proofs.Ytgeldmhgbnamcaa.Pure.FW
def N : Int := 18446744073709551615
def pl (t s : Int) : Int := if N ≤ t + s then N else t + s
def In (x : Int) : Prop := 0 ≤ x ∧ x ≤ N
theorem pl_in {a b : Int} (ha : In a) (hb : In b) : In (pl a b) := by unfold In pl N at *; split <;> omega
theorem pl_zero {a : Int} (ha : In a) : pl a 0 = a := by unfold In pl N at *; split <;> omega
theorem zero_pl {a : Int} (ha : In a) : pl 0 a = a := by unfold In pl N at *; split <;> omega
theorem pl_mono {a b c d : Int} (h : a ≤ b) (h' : c ≤ d) : pl a c ≤ pl b d := by unfold pl N; split <;> split <;> omega
theorem pl_assoc {a b c : Int} (ha : In a) (hb : In b) (hc : In c) : pl (pl a b) c = pl a (pl b c) := by unfold In pl N at *; repeat' split <;> omega
theorem le_pl {a b : Int} (ha : In a) (hb : In b) : a ≤ pl a b := by unfold In pl N at *; split <;> omega
theorem le_pl' {a b : Int} (ha : In a) (hb : In b) : b ≤ pl a b := by unfold In pl N at *; split <;> omega
theorem in_zero : In 0 := by unfold In N; omega
theorem in_N : In N := by unfold In N; omega
structure Ed where
 f : Nat
 t : Nat
 a : Int
def EOk (n : Nat) (E : List Ed) : Prop := ∀ e ∈ E, e.f < n ∧ e.t < n ∧ In e.a
def D0 (i j : Nat) : Int := if i = j then 0 else N
theorem d0_in (i j : Nat) : In (D0 i j) := by unfold D0; split; exact in_zero; exact in_N
structure Pot (n : Nat) (E : List Ed) (y : Nat → Int) : Prop where
 inn : ∀ v, v < n → In (y v)
 edge : ∀ e ∈ E, y e.t ≤ pl (y e.f) e.a
abbrev Mat := Nat → Nat → Int
def addE (M : Mat) (e : Ed) : Mat := fun i j => if e.f ≠ e.t ∧ i = e.f ∧ j = e.t then min (M i j) e.a else M i j
def fw (M : Mat) (k : Nat) : Mat := fun i j => min (M i j) (pl (M i k) (M k j))
def wk (E : List Ed) : Nat → Mat
 | 0 => E.foldl addE D0
 | k + 1 => fw (wk E k) k
structure Good (n : Nat) (E : List Ed) (M : Mat) : Prop where
 inn : ∀ i j, i < n → j < n → In (M i j)
 diag : ∀ i, i < n → M i i = 0
 pot : ∀ y, Pot n E y → ∀ i j, i < n → j < n → y j ≤ pl (y i) (M i j)
theorem good_d0 (n : Nat) (E : List Ed) : Good n E D0 := by
 refine ⟨fun i j _ _ => d0_in i j, fun i _ => by simp [D0], fun y hy i j hi hj => ?_⟩
 unfold D0
 by_cases c : i = j
 ·subst c; rw [if_pos rfl, pl_zero (hy.inn i hi)]; exact Int.le_refl _
 ·rw [if_neg c]
  have := hy.inn i hi; have := hy.inn j hj
  exact Int.le_trans (hy.inn j hj).2 (le_pl' (hy.inn i hi) in_N)
theorem good_addE {n : Nat} {E : List Ed} (hE : EOk n E) {M : Mat} (h : Good n E M) {e : Ed} (he : e ∈ E) : Good n E (addE M e) := by
 obtain ⟨e1, e2, e3⟩ := hE e he
 refine ⟨fun i j hi hj => ?_, fun i hi => ?_, fun y hy i j hi hj => ?_⟩
 ·unfold addE; have := h.inn i j hi hj; unfold In at *; split <;> omega
 ·unfold addE; rw [if_neg (by rintro ⟨a, b, c⟩; exact a (b.symm.trans c))]; exact h.diag i hi
 ·unfold addE
  have h1 := h.pot y hy i j hi hj
  split
  next c =>
   obtain ⟨_, rfl, rfl⟩ := c
   have h2 := hy.edge e he
   rcases Int.le_total (M e.f e.t) e.a with q | q
   ·rw [Int.min_eq_left q]; exact h1
   ·rw [Int.min_eq_right q]; exact h2
  next c => exact h1
theorem good_foldE {n : Nat} {E : List Ed} (hE : EOk n E) : ∀ (F : List Ed), (∀ e ∈ F, e ∈ E) → ∀ M, Good n E M → Good n E (F.foldl addE M)
 | [], _, M, h => h
 | e :: F, hF, M, h => good_foldE hE F (fun x hx => hF x (List.mem_cons_of_mem _ hx)) _ (good_addE hE h (hF e List.mem_cons_self))
theorem good_fw {n : Nat} {E : List Ed} {M : Mat} (h : Good n E M) {k : Nat} (hk : k < n) : Good n E (fw M k) := by
 refine ⟨fun i j hi hj => ?_, fun i hi => ?_, fun y hy i j hi hj => ?_⟩
 ·unfold fw; have := h.inn i j hi hj; have := pl_in (h.inn i k hi hk) (h.inn k j hk hj); unfold In at *; omega
 ·unfold fw; rw [h.diag i hi]; have := pl_in (h.inn i k hi hk) (h.inn k i hk hi); unfold In at this; omega
 ·unfold fw
  have h1 := h.pot y hy i j hi hj
  have h2 := h.pot y hy i k hi hk
  have h3 := h.pot y hy k j hk hj
  have h4 : y j ≤ pl (y i) (pl (M i k) (M k j)) := by
   rw [← pl_assoc (hy.inn i hi) (h.inn i k hi hk) (h.inn k j hk hj)]
   exact Int.le_trans h3 (pl_mono h2 (Int.le_refl _))
  rcases Int.le_total (M i j) (pl (M i k) (M k j)) with q | q
  ·rw [Int.min_eq_left q]; exact h1
  ·rw [Int.min_eq_right q]; exact h4
theorem good_wk {n : Nat} {E : List Ed} (hE : EOk n E) : ∀ k, k ≤ n → Good n E (wk E k)
 | 0, _ => good_foldE hE E (fun _ h => h) _ (good_d0 n E)
 | k + 1, h => good_fw (good_wk hE k (by omega)) (by omega)
theorem wk_tri {n : Nat} {E : List Ed} (hE : EOk n E) : ∀ k, k ≤ n → ∀ q i j, q < k → i < n → j < n → wk E k i j ≤ pl (wk E k i q) (wk E k q j)
 | 0, _, q, _, _, h, _, _ => by omega
 | k + 1, hk, q, i, j, hq, hi, hj => by
  have G := good_wk hE k (by omega)
  have hkn : k < n := by omega
  have hqn : q < n := by omega
  have iik := G.inn i k hi hkn; have ikj := G.inn k j hkn hj; have iij := G.inn i j hi hj
  have iiq := G.inn i q hi hqn; have iqj := G.inn q j hqn hj; have ikq := G.inn k q hkn hqn; have iqk := G.inn q k hqn hkn
  show fw (wk E k) k i j ≤ pl (fw (wk E k) k i q) (fw (wk E k) k q j)
  by_cases c : q = k
  ·subst c
   have e1 : fw (wk E q) q i q = wk E q i q := by unfold fw; rw [G.diag q hqn, pl_zero iik]; omega
   have e2 : fw (wk E q) q q j = wk E q q j := by unfold fw; rw [G.diag q hqn, zero_pl ikj]; omega
   rw [e1, e2]; unfold fw; omega
  ·have hq' : q < k := by omega
   have T1 := wk_tri hE k (by omega) q i j hq' hi hj
   have T2 := wk_tri hE k (by omega) q k j hq' hkn hj
   have T3 := wk_tri hE k (by omega) q i k hq' hi hkn
   have L1 : fw (wk E k) k i j ≤ wk E k i j := by unfold fw; omega
   have L2 : fw (wk E k) k i j ≤ pl (wk E k i k) (wk E k k j) := by unfold fw; omega
   generalize fw (wk E k) k i j = R at L1 L2 ⊢
   unfold fw
   rcases Int.le_total (wk E k i q) (pl (wk E k i k) (wk E k k q)) with a | a <;> rcases Int.le_total (wk E k q j) (pl (wk E k q k) (wk E k k j)) with b | b
   ·rw [Int.min_eq_left a, Int.min_eq_left b]; exact Int.le_trans L1 T1
   ·rw [Int.min_eq_left a, Int.min_eq_right b, ← pl_assoc iiq iqk ikj]
    exact Int.le_trans L2 (pl_mono T3 (Int.le_refl _))
   ·rw [Int.min_eq_right a, Int.min_eq_left b, pl_assoc iik ikq iqj]
    exact Int.le_trans L2 (pl_mono (Int.le_refl _) T2)
   ·rw [Int.min_eq_right a, Int.min_eq_right b]
    refine Int.le_trans L2 (pl_mono (le_pl iik ikq) (le_pl' iqk ikj))
theorem ways_most {n : Nat} {E : List Ed} (hE : EOk n E) {i j : Nat} (hi : i < n) (hj : j < n) {y : Nat → Int} (hy : Pot n E y) (h0 : y i = 0) : y j ≤ wk E n i j := by
 have G := good_wk hE n (Nat.le_refl n)
 have := G.pot y hy i j hi hj
 rwa [h0, zero_pl (G.inn i j hi hj)] at this
theorem no_round {n : Nat} {E : List Ed} (hE : EOk n E) (hb : ∀ e ∈ E, e.t ≤ e.f → 1 ≤ e.a) {f t : Nat} (hf : f < n) (ht : t < n) (h : f < t) : wk E n t f ≠ 0 := by
 intro c
 let y : Nat → Int := fun v => if t ≤ v then 0 else 1
 have hy : Pot n E y := by
  refine ⟨fun v _ => ?_, fun e he => ?_⟩
  ·by_cases c : t ≤ v
   ·rw [show y v = 0 from if_pos c]; exact in_zero
   ·rw [show y v = 1 from if_neg c]; unfold In N; omega
  ·obtain ⟨h1, h2, h3⟩ := hE e he
   have hb := hb e he
   by_cases c1 : t ≤ e.t
   ·rw [show y e.t = 0 from if_pos c1]
    by_cases c2 : t ≤ e.f
    ·rw [show y e.f = 0 from if_pos c2, zero_pl h3]; exact h3.1
    ·rw [show y e.f = 1 from if_neg c2]; unfold In pl N at *; split <;> omega
   ·rw [show y e.t = 1 from if_neg c1]
    by_cases c2 : t ≤ e.f
    ·rw [show y e.f = 0 from if_pos c2, zero_pl h3]; exact hb (by omega)
    ·rw [show y e.f = 1 from if_neg c2]; unfold In pl N at *; split <;> omega
 have := ways_most hE ht hf hy (if_pos (Nat.le_refl t))
 rw [show y f = 1 from if_neg (by omega), c] at this
 omega
end Go.Proofs.Ytgeldmhgbnamcaa.Pure.FW
end
section
namespace Go.Proofs.Ytgeldmhgbnamcaa.Pure
open Go.RowKit Go.Proofs.Ytgeldmhgbnamcaa.P Go.Proofs.YtgeldmhgbnamcaaW.PrintWords Go.Proofs.YtgeldmhgbnamcaaW.PrintLast Go.Proofs.YtgeldmhgbnamcaaW.PrintMore
open FW
set_option linter.unusedVariables false
set_option linter.unusedSimpArgs false
def Ls {α : Type} (n : Nat) (g : Nat → α) : List α := (List.range n).map g
theorem ls_len {α : Type} (n : Nat) (g : Nat → α) : (Ls n g).length = n := by simp [Ls]
theorem ls_get {α : Type} (n : Nat) (g : Nat → α) (d : α) {i : Nat} (h : i < n) : (Ls n g).getD i d = g i := by
 simp [Ls, List.getD, h]
theorem ls_set {α : Type} (n : Nat) (g : Nat → α) (i : Nat) (x : α) : (Ls n g).set i x = Ls n (fun a => if a = i then x else g a) := by
 apply List.ext_getElem
 ·simp [Ls]
 ·intro j h1 h2
  simp only [Ls, List.getElem_set, List.getElem_map, List.getElem_range]
  by_cases c : i = j
  ·rw [if_pos c, if_pos c.symm]
  ·rw [if_neg c, if_neg (fun q => c q.symm)]
theorem ls_congr {α : Type} {n : Nat} {f g : Nat → α} (h : ∀ i, i < n → f i = g i) : Ls n f = Ls n g := by
 unfold Ls; exact List.map_congr_left fun i hi => h i (List.mem_range.1 hi)
theorem ls_rep {α : Type} (n : Nat) (x : α) : List.replicate n x = Ls n (fun _ => x) := by
 apply List.ext_getElem <;> simp [Ls]
theorem ls_snoc {α : Type} (n : Nat) (g : Nat → α) : Ls n g ++ [g n] = Ls (n + 1) g := by simp [Ls, List.range_succ]
theorem ls_rd (n : Nat) (g : Nat → Int) {i : Nat} (h : i < n) : rd (Ls n g) (i : Int) = g i := by unfold rd; rw [Int.toNat_natCast, ls_get n g 0 h]
theorem ls_rdL (n : Nat) (g : Nat → List Int) {i : Nat} (h : i < n) : rd_L7 (Ls n g) (i : Int) = g i := by unfold rd_L7; rw [Int.toNat_natCast, ls_get n g [] h]
def mat (n : Nat) (M : Mat) : List (List Int) := Ls n fun i => Ls n (M i)
theorem mat_len (n : Nat) (M : Mat) : (mat n M).length = n := ls_len n _
theorem mat_row (n : Nat) (M : Mat) {i : Nat} (h : i < n) : rd_L7 (mat n M) (i : Int) = Ls n (M i) := ls_rdL n _ h
theorem mat_congr {n : Nat} {M W : Mat} (h : ∀ i j, i < n → j < n → M i j = W i j) : mat n M = mat n W := ls_congr fun i hi => ls_congr fun j hj => h i j hi hj
def upd (M : Mat) (i j : Nat) (x : Int) : Mat := fun a b => if a = i ∧ b = j then x else M a b
theorem mat_set (n : Nat) (M : Mat) (i j : Nat) (x : Int) : (mat n M).set i ((Ls n (M i)).set j x) = mat n (upd M i j x) := by
 unfold mat
 rw [ls_set, ls_set]
 refine ls_congr fun a _ => ?_
 by_cases c : a = i
 ·rw [if_pos c]; refine ls_congr fun b _ => ?_
  unfold upd; subst c
  by_cases d : b = j
  ·rw [if_pos d, if_pos ⟨rfl, d⟩]
  ·rw [if_neg d, if_neg (fun q => d q.2)]
 ·rw [if_neg c]; refine ls_congr fun b _ => ?_
  unfold upd; rw [if_neg (fun q => c q.1)]
theorem mn_eq (a b : Int) : mn a b = min a b := by unfold mn; split <;> omega
theorem plus_eq {a b : Int} (ha : In a) (hb : In b) : stamp_Plus.f a b = some (pl a b) := by
 unfold In N at ha hb
 have e : IntKind.u64.wrap (18446744073709551615 - b) = 18446744073709551615 - b := by rw [IntKind.wrap_u64]; omega
 unfold stamp_Plus.f pl N
 rw [e]
 by_cases c : 18446744073709551615 ≤ a + b
 ·rw [if_pos (by omega), if_pos c]
 ·rw [if_neg (by omega), if_neg c, show IntKind.u64.wrap (a + b) = a + b by rw [IntKind.wrap_u64]; omega]
theorem w64 {n : Nat} (h : n < 1000000) : wrap64 ((n : Int) + 1) = ((n + 1 : Nat) : Int) := by unfold wrap64; omega
def ed (e : S95) : Ed := ⟨e.f0.toNat, e.f1.toNat, e.f2⟩
def WE (n : Nat) (E : List S95) : Prop := ∀ e ∈ E, 0 ≤ e.f0 ∧ e.f0 < n ∧ 0 ≤ e.f1 ∧ e.f1 < n ∧ In e.f2
theorem we_ok {n : Nat} {E : List S95} (h : WE n E) : EOk n (E.map ed) := by
 intro e he
 obtain ⟨x, hx, rfl⟩ := List.mem_map.1 he
 obtain ⟨h1, h2, h3, h4, h5⟩ := h x hx
 exact ⟨by show x.f0.toNat < n; omega, by show x.f1.toNat < n; omega, h5⟩
theorem rep_eq {n : Nat} (h : n ≤ 1000000) : slices_Repeat.f [18446744073709551615] (n : Int) = some (List.replicate n 18446744073709551615) := by
 unfold slices_Repeat.f
 rw [if_pos ⟨rfl, by omega, by omega⟩, Int.toNat_natCast]
 rfl
def St (M : Mat) (k i j : Nat) : Mat := fun a b => if a < i ∨ (a = i ∧ b < j) then fw M k a b else M a b
theorem st_next {n : Nat} {E : List Ed} {M : Mat} (G : FW.Good n E M) {k i j : Nat} (hk : k < n) (hi : i < n) (hj : j < n) :
  (mat n (St M k i j)).set i ((Ls n (St M k i j i)).set j (mn (St M k i j i j) (pl (St M k i j i k) (St M k i j k j)))) = mat n (St M k i (j + 1)) := by
 have e1 : fw M k i k = M i k := by unfold fw; rw [G.diag k hk, pl_zero (G.inn i k hi hk)]; omega
 have e2 : fw M k k j = M k j := by unfold fw; rw [G.diag k hk, zero_pl (G.inn k j hk hj)]; omega
 have a1 : St M k i j i j = M i j := by unfold St; rw [if_neg (by omega)]
 have a2 : St M k i j i k = M i k := by unfold St; split; exact e1; rfl
 have a3 : St M k i j k j = M k j := by unfold St; split; exact e2; rfl
 rw [a1, a2, a3, mn_eq, mat_set]
 refine mat_congr fun a b ha hb => ?_
 unfold upd
 by_cases c : a = i ∧ b = j
 ·obtain ⟨rfl, rfl⟩ := c
  rw [if_pos ⟨rfl, rfl⟩]; unfold St; rw [if_pos (by omega)]; rfl
 ·rw [if_neg c]; unfold St
  by_cases d : a < i ∨ a = i ∧ b < j
  ·rw [if_pos d, if_pos (by omega)]
  ·rw [if_neg d, if_neg (by omega)]
section
variable {n : Nat} {E : List S95} {I : List Int}
theorem ways_l4 {M : Mat} (G : FW.Good n (E.map ed) M) (hn : n ≤ 1000) {k i : Nat} (hk : k < n) (hi : i < n) (a : Int) (R : List (List Int)) (h : Ev (fun q => graph_Graph_ways.l3 q (mat n (St M k i n)) k (n : Int) a (n : Int) (wrap64 ((i : Int) + 1)) (n : Int) E I) R) :
  ∀ d j : Nat, j + d = n → Ev (fun q => graph_Graph_ways.l4 q (mat n (St M k i j)) k i (n : Int) a (n : Int) (i : Int) (n : Int) (j : Int) (n : Int) E I) R
 | 0, j, hj => by
  obtain rfl : j = n := by omega
  obtain ⟨K, h⟩ := h
  refine ⟨K + 1, fun q hq => ?_⟩
  obtain ⟨q, rfl⟩ : ∃ m, q = m + 1 := ⟨q - 1, by omega⟩
  show graph_Graph_ways.l4 (q + 1) _ _ _ _ _ _ _ _ _ _ _ _ = _
  rw [graph_Graph_ways.l4, if_neg (by omega)]
  exact h q (by omega)
 | d + 1, j, hj => by
  obtain ⟨K, h⟩ := ways_l4 G hn hk hi a R h d (j + 1) (by omega)
  have hjn : j < n := by omega
  refine ⟨K + 1, fun q hq => ?_⟩
  obtain ⟨q, rfl⟩ : ∃ m, q = m + 1 := ⟨q - 1, by omega⟩
  have h := h q (by omega)
  dsimp only at h
  have r1 := mat_row n (St M k i j) hi
  have r2 := mat_row n (St M k i j) hk
  have i1 : In (St M k i j i k) := by unfold St; split; exact (good_fw G hk).inn i k hi hk; exact G.inn i k hi hk
  have i2 : In (St M k i j k j) := by unfold St; split; exact (good_fw G hk).inn k j hk hjn; exact G.inn k j hk hjn
  show graph_Graph_ways.l4 (q + 1) _ _ _ _ _ _ _ _ _ _ _ _ = _
  rw [graph_Graph_ways.l4, if_pos (by omega), if_pos (by omega), mat_len, if_pos (by omega), if_pos (by omega), r1, ls_len, if_pos (by omega), if_pos (by omega), if_pos (by omega), if_pos (by omega), r2, ls_len, if_pos (by omega), ls_rd n _ hk, ls_rd n _ hjn, plus_eq i1 i2, Option.bind_some, ls_rd n _ hjn, Int.toNat_natCast, Int.toNat_natCast, st_next G hk hi hjn, w64 (by omega)]
  exact h
theorem ways_l3 {M : Mat} (G : FW.Good n (E.map ed) M) (hn : n ≤ 1000) {k : Nat} (hk : k < n) (a : Int) (R : List (List Int)) (h : Ev (fun q => graph_Graph_ways.l2 q (mat n (fw M k)) (n : Int) (wrap64 (a + 1)) (n : Int) E I) R) :
  ∀ d i : Nat, i + d = n → Ev (fun q => graph_Graph_ways.l3 q (mat n (St M k i 0)) k (n : Int) a (n : Int) (i : Int) (n : Int) E I) R
 | 0, i, hi => by
  obtain rfl : i = n := by omega
  have e : mat i (St M k i 0) = mat i (fw M k) := mat_congr fun x y hx hy => by unfold St; rw [if_pos (by omega)]
  obtain ⟨K, h⟩ := h
  refine ⟨K + 1, fun q hq => ?_⟩
  obtain ⟨q, rfl⟩ : ∃ m, q = m + 1 := ⟨q - 1, by omega⟩
  show graph_Graph_ways.l3 (q + 1) _ _ _ _ _ _ _ _ _ = _
  rw [graph_Graph_ways.l3, if_neg (by omega), e]
  exact h q (by omega)
 | d + 1, i, hi => by
  have hin : i < n := by omega
  have e : mat n (St M k i n) = mat n (St M k (i + 1) 0) := mat_congr fun x y hx hy => by
   unfold St
   by_cases c : x < i + 1
   ·rw [if_pos (by omega), if_pos (by omega)]
   ·rw [if_neg (by omega), if_neg (by omega)]
  have ih := ways_l3 G hn hk a R h d (i + 1) (by omega)
  rw [← e] at ih
  have h4 := ways_l4 G hn hk hin a R (by rw [w64 (by omega)]; exact ih) n 0 (by omega)
  obtain ⟨K, h4⟩ := h4
  refine ⟨K + 1, fun q hq => ?_⟩
  obtain ⟨q, rfl⟩ : ∃ m, q = m + 1 := ⟨q - 1, by omega⟩
  show graph_Graph_ways.l3 (q + 1) _ _ _ _ _ _ _ _ _ = _
  rw [graph_Graph_ways.l3, if_pos (by omega)]
  exact h4 q (by omega)
theorem ways_l2 (hE : WE n E) (hn : n ≤ 1000) : ∀ d k : Nat, k + d = n → Ev (fun q => graph_Graph_ways.l2 q (mat n (wk (E.map ed) k)) (n : Int) (k : Int) (n : Int) E I) (mat n (wk (E.map ed) n))
 | 0, k, hk => by
  obtain rfl : k = n := by omega
  refine ⟨1, fun q hq => ?_⟩
  obtain ⟨q, rfl⟩ : ∃ m, q = m + 1 := ⟨q - 1, by omega⟩
  show graph_Graph_ways.l2 (q + 1) _ _ _ _ _ _ = _
  rw [graph_Graph_ways.l2, if_neg (by omega)]
 | d + 1, k, hk => by
  have ih := ways_l2 hE hn d (k + 1) (by omega)
  have h3 := ways_l3 (good_wk (we_ok hE) k (by omega)) hn (show k < n by omega) (k : Int) _ (by rw [w64 (by omega)]; exact ih) n 0 (by omega)
  have e : mat n (St (wk (E.map ed) k) k 0 0) = mat n (wk (E.map ed) k) := mat_congr fun x y hx hy => by unfold St; rw [if_neg (by omega)]
  rw [e] at h3
  obtain ⟨K, h3⟩ := h3
  refine ⟨K + 1, fun q hq => ?_⟩
  obtain ⟨q, rfl⟩ : ∃ m, q = m + 1 := ⟨q - 1, by omega⟩
  show graph_Graph_ways.l2 (q + 1) _ _ _ _ _ _ = _
  rw [graph_Graph_ways.l2, if_pos (by omega)]
  exact h3 q (by omega)
theorem rd95 (p : List S95) (x : S95) (q : List S95) {i : Int} (h : i = p.length) : rd_T95 (p ++ x :: q) i = x := by subst h; simp [rd_T95]
theorem addE_set (n : Nat) (M : Mat) (x : S95) (h0 : 0 ≤ x.f0) (h1 : 0 ≤ x.f1) (hne : ¬ x.f0 = x.f1) : (mat n M).set x.f0.toNat ((Ls n (M x.f0.toNat)).set x.f1.toNat (mn (M x.f0.toNat x.f1.toNat) x.f2)) = mat n (addE M (ed x)) := by
 rw [mat_set, mn_eq]
 refine mat_congr fun a b _ _ => ?_
 unfold upd addE ed
 by_cases c : a = x.f0.toNat ∧ b = x.f1.toNat
 ·rw [if_pos c, if_pos ⟨by show x.f0.toNat ≠ x.f1.toNat; omega, c.1, c.2⟩, c.1, c.2]
 ·rw [if_neg c, if_neg (fun q => c q.2)]
theorem addE_self (M : Mat) (x : S95) (h : x.f0 = x.f1) : addE M (ed x) = M := by
 funext a b
 unfold addE ed
 rw [if_neg (by rintro ⟨q, _⟩; exact q (congrArg Int.toNat h))]
theorem ways_l1 (hE : WE n E) (hn : n ≤ 1000) (hl : E.length ≤ 1000) : ∀ (rest pre : List S95), E = pre ++ rest → Ev (fun q => graph_Graph_ways.l1 q (mat n ((pre.map ed).foldl addE D0)) E (E.length : Int) (pre.length : Int) (n : Int) E I) (mat n (wk (E.map ed) n))
 | [], pre, h => by
  rw [List.append_nil] at h
  subst h
  obtain ⟨K, h2⟩ := ways_l2 (I := I) hE hn n 0 (by omega)
  refine ⟨K + 1, fun q hq => ?_⟩
  obtain ⟨q, rfl⟩ : ∃ m, q = m + 1 := ⟨q - 1, by omega⟩
  show graph_Graph_ways.l1 (q + 1) _ _ _ _ _ _ _ = _
  rw [graph_Graph_ways.l1, if_neg (by omega)]
  exact h2 q (by omega)
 | x :: rest, pre, h => by
  have ih := ways_l1 hE hn hl rest (pre ++ [x]) (by rw [h]; simp)
  have hlen : pre.length + 1 ≤ E.length := by rw [h, List.length_append, List.length_cons]; omega
  obtain ⟨x0, x1, x2, x3, x4⟩ := hE x (by rw [h]; simp)
  have hr : rd_T95 E (pre.length : Int) = x := by rw [h]; exact rd95 pre x rest rfl
  rw [List.map_append, List.foldl_append] at ih
  simp only [List.map_cons, List.map_nil, List.foldl_cons, List.foldl_nil, List.length_append, List.length_cons, List.length_nil, Nat.zero_add] at ih
  obtain ⟨K, ih⟩ := ih
  generalize hM : (pre.map ed).foldl addE D0 = M at ih ⊢
  refine ⟨K + 1, fun q hq => ?_⟩
  obtain ⟨q, rfl⟩ : ∃ m, q = m + 1 := ⟨q - 1, by omega⟩
  have ih := ih q (by omega)
  dsimp only at ih
  have f0 : x.f0 = ((x.f0.toNat : Nat) : Int) := by omega
  have f1 : x.f1 = ((x.f1.toNat : Nat) : Int) := by omega
  have r1 : rd_L7 (mat n M) x.f0 = Ls n (M x.f0.toNat) := by rw [f0]; exact mat_row n M (by omega)
  have r2 : rd (Ls n (M x.f0.toNat)) x.f1 = M x.f0.toNat x.f1.toNat := by rw [f1]; exact ls_rd n _ (by omega)
  show graph_Graph_ways.l1 (q + 1) _ _ _ _ _ _ _ = _
  rw [graph_Graph_ways.l1, if_pos (by omega), if_pos (by omega), if_pos (by omega), hr]
  by_cases c : x.f0 = x.f1
  ·rw [if_pos c, w64 (by omega)]
   rw [addE_self M x c] at ih
   exact ih
  ·rw [if_neg c, if_pos x0, mat_len, if_pos x1, if_pos x2, r1, ls_len, if_pos x3, r2, addE_set n M x x0 x2 c, w64 (by omega)]
   exact ih
theorem ways_l0 (hE : WE n E) (hn : n ≤ 1000) (hl : E.length ≤ 1000) : ∀ d p : Nat, p + d = n → Ev (fun q => graph_Graph_ways.l0 q (Ls p fun i => Ls n (D0 i)) (n : Int) (p : Int) (n : Int) E I) (mat n (wk (E.map ed) n))
 | 0, p, hp => by
  obtain rfl : p = n := by omega
  obtain ⟨K, h⟩ := ways_l1 (I := I) hE hn hl E [] rfl
  refine ⟨K + 1, fun q hq => ?_⟩
  obtain ⟨q, rfl⟩ : ∃ m, q = m + 1 := ⟨q - 1, by omega⟩
  show graph_Graph_ways.l0 (q + 1) _ _ _ _ _ _ = _
  rw [graph_Graph_ways.l0, if_neg (by omega)]
  exact h q (by omega)
 | d + 1, p, hp => by
  obtain ⟨K, ih⟩ := ways_l0 hE hn hl d (p + 1) (by omega)
  refine ⟨K + 1, fun q hq => ?_⟩
  obtain ⟨q, rfl⟩ : ∃ m, q = m + 1 := ⟨q - 1, by omega⟩
  have ih := ih q (by omega)
  dsimp only at ih
  have e : (List.replicate n (18446744073709551615 : Int)).set p 0 = Ls n (D0 p) := by
   rw [ls_rep, ls_set]
   refine ls_congr fun a _ => ?_
   unfold D0 N
   by_cases c : a = p
   ·rw [if_pos c, if_pos c.symm]
   ·rw [if_neg c, if_neg (fun q => c q.symm)]
  show graph_Graph_ways.l0 (q + 1) _ _ _ _ _ _ = _
  rw [graph_Graph_ways.l0, if_pos (by omega), rep_eq (by omega), Option.bind_some, if_pos (by omega), List.length_replicate, if_pos (by omega), ls_len, if_pos (by omega), Int.toNat_natCast, e, ls_snoc p (fun i => Ls n (D0 i)), w64 (by omega)]
  exact ih
end
theorem ways_ev {n : Nat} {E : List S95} (I : List Int) (hE : WE n E) (hn : n ≤ 1000) (hl : E.length ≤ 1000) : Ev (fun q => graph_Graph_ways.f q (n : Int) E I) (mat n (wk (E.map ed) n)) := ways_l0 hE hn hl n 0 (by omega)
theorem plus1_eq {a b : Int} (ha : In a) (hb : In b) : marchlandref01_Plus.f a b = some (pl a b) := by
 unfold In N at ha hb
 have e : IntKind.u64.wrap (18446744073709551615 - a) = 18446744073709551615 - a := by rw [IntKind.wrap_u64]; omega
 unfold marchlandref01_Plus.f pl N
 rw [e]
 by_cases c : 18446744073709551615 ≤ a + b
 ·rw [if_pos (by omega), if_pos c]
 ·rw [if_neg (by omega), if_neg c, show IntKind.u64.wrap (a + b) = a + b by rw [IntKind.wrap_u64]; omega]
def ed9 (e : S90) : Ed := ⟨e.f0.toNat, e.f1.toNat, e.f2⟩
def WE9 (n : Nat) (E : List S90) : Prop := ∀ e ∈ E, 0 ≤ e.f0 ∧ e.f0 < n ∧ 0 ≤ e.f1 ∧ e.f1 < n ∧ In e.f2
theorem we9_ok {n : Nat} {E : List S90} (h : WE9 n E) : EOk n (E.map ed9) := by
 intro e he
 obtain ⟨x, hx, rfl⟩ := List.mem_map.1 he
 obtain ⟨h1, h2, h3, h4, h5⟩ := h x hx
 exact ⟨by show x.f0.toNat < n; omega, by show x.f1.toNat < n; omega, h5⟩
theorem rd90 (p : List S90) (x : S90) (q : List S90) {i : Int} (h : i = p.length) : rd_T90 (p ++ x :: q) i = x := by subst h; simp [rd_T90]
section
variable {n : Nat} {E : List S90} {I : List Int}
end
structure EGood (n : Nat) (E : List S90) : Prop where
 ok : WE9 n E
 back : ∀ e ∈ E, e.f1 ≤ e.f0 → 1 ≤ e.f2
structure IGood (n : Nat) (I : List Int) : Prop where
 ok : ∀ p ∈ I, 0 ≤ p ∧ p < n
 once : I.Nodup
theorem egood_snoc {n : Nat} {E : List S90} (h : EGood n E) {x : S90} (h0 : 0 ≤ x.f0 ∧ x.f0 < n ∧ 0 ≤ x.f1 ∧ x.f1 < n ∧ In x.f2) (h1 : x.f1 ≤ x.f0 → 1 ≤ x.f2) : EGood n (E ++ [x]) := by
 refine ⟨fun e he => ?_, fun e he => ?_⟩ <;> rcases List.mem_append.1 he with he | he
 ·exact h.ok e he
 ·rw [List.mem_singleton.1 he]; exact h0
 ·exact h.back e he
 ·rw [List.mem_singleton.1 he]; exact h1
theorem igood_snoc {n : Nat} {I : List Int} (h : IGood n I) {p : Int} (h0 : 0 ≤ p ∧ p < n) (h1 : p ∉ I) : IGood n (I ++ [p]) := by
 refine ⟨fun q hq => ?_, ?_⟩
 ·rcases List.mem_append.1 hq with hq | hq
  ·exact h.ok q hq
  ·rw [List.mem_singleton.1 hq]; exact h0
 ·rw [List.nodup_append]
  exact ⟨h.once, by simp, fun a ha b hb e => h1 (by rw [← List.mem_singleton.1 hb, ← e]; exact ha)⟩
theorem modn (p : Int) {n : Nat} (h : 1 ≤ n) (h6 : n ≤ 6) : IntKind.u64.wrap (n : Int) = (n : Int) ∧ 0 ≤ Int.tmod (IntKind.u64.wrap p) (n : Int) ∧ Int.tmod (IntKind.u64.wrap p) (n : Int) < n ∧ wrap64 (Int.tmod (IntKind.u64.wrap p) (n : Int)) = Int.tmod (IntKind.u64.wrap p) (n : Int) := by
 have hp : 0 ≤ IntKind.u64.wrap p := by rw [IntKind.wrap_u64]; omega
 have h1 := Int.tmod_nonneg (n : Int) hp
 have h2 := Int.tmod_lt_of_pos (IntKind.u64.wrap p) (show (0 : Int) < n by omega)
 exact ⟨by rw [IntKind.wrap_u64]; omega, h1, h2, by unfold wrap64; omega⟩
section
variable {n : Nat} {a0 : Int} {l1 : List S90} {l2 : List Int} {E : List S90}
theorem fix5_l2 {I : List Int} {i : Nat} (hi : i < 1000) (p : Int) (hl : I.length ≤ 1000) (R : Int × List S90 × List Int) (h : Ev (fun k => marchlandref05_Fix.l1 k ((i + 1 : Nat) : Int) a0 l1 l2 (n : Int) E (if p ∈ I then I else I ++ [p])) R) :
  ∀ rest pre : List Int, I = pre ++ rest → Ev (fun k => marchlandref05_Fix.l2 k (i : Int) p (decide (p ∈ pre)) (pre.length : Int) a0 l1 l2 (n : Int) E I) R
 | [], pre, hp => by
  rw [List.append_nil] at hp
  subst hp
  obtain ⟨K, h⟩ := h
  refine ⟨K + 1, fun k hk => ?_⟩
  obtain ⟨k, rfl⟩ : ∃ m, k = m + 1 := ⟨k - 1, by omega⟩
  have h := h k (by omega)
  dsimp only at h
  show marchlandref05_Fix.l2 (k + 1) _ _ _ _ _ _ _ _ _ _ = _
  rw [marchlandref05_Fix.l2, if_neg (by omega), w64 (by omega)]
  by_cases c : p ∈ I
  ·rw [if_pos c] at h; rw [if_pos (decide_eq_true c)]; exact h
  ·rw [if_neg c] at h; rw [if_neg (by simp [c]), if_pos (by omega)]; exact h
 | x :: rest, pre, hp => by
  obtain ⟨K, ih⟩ := fix5_l2 hi p hl R h rest (pre ++ [x]) (by rw [hp]; simp)
  have hlen : pre.length + 1 ≤ I.length := by rw [hp, List.length_append, List.length_cons]; omega
  have hr : rd I (pre.length : Int) = x := by rw [hp]; simp [rd]
  refine ⟨K + 1, fun k hk => ?_⟩
  obtain ⟨k, rfl⟩ : ∃ m, k = m + 1 := ⟨k - 1, by omega⟩
  have ih := ih k (by omega)
  simp only [List.length_append, List.length_cons, List.length_nil, Nat.zero_add] at ih
  show marchlandref05_Fix.l2 (k + 1) _ _ _ _ _ _ _ _ _ _ = _
  rw [marchlandref05_Fix.l2, if_pos (by omega), hr, w64 (by omega)]
  by_cases c : p ∈ pre
  ·rw [if_pos (decide_eq_true c)]
   rw [decide_eq_true (show p ∈ pre ++ [x] from List.mem_append_left _ c)] at ih; exact ih
  ·rw [if_neg (by simp [c]), if_pos (by omega)]
   have e : decide (p ∈ pre ++ [x]) = (x == p) := by
    by_cases d : x = p
    ·subst d; simp
    ·have : ¬ p = x := fun q => d q.symm
     simp [c, d, this]
   rw [e] at ih; exact ih
theorem fix5_l1 (hn : 1 ≤ n ∧ n ≤ 6) : ∀ d i : Nat, i + d = 8 → ∀ I : List Int, IGood n I → I.length ≤ i → ∃ I' : List Int, IGood n I' ∧ I' ≠ [] ∧ I'.length ≤ 8 ∧ Ev (fun k => marchlandref05_Fix.l1 k (i : Int) a0 l1 l2 (n : Int) E I) ((n : Int), E, I') := by
 have fin : ∀ (i : Nat), i ≤ 8 → ∀ I : List Int, IGood n I → I.length ≤ i → (¬ ((i : Int) < (l2.length : Int)) ∨ ¬ ((i : Int) < 8)) → ∃ I' : List Int, IGood n I' ∧ I' ≠ [] ∧ I'.length ≤ 8 ∧ Ev (fun k => marchlandref05_Fix.l1 k (i : Int) a0 l1 l2 (n : Int) E I) ((n : Int), E, I') := by
  intro i hi I hI hl hc
  have st : ∀ k, marchlandref05_Fix.l1 (k + 2) (i : Int) a0 l1 l2 (n : Int) E I = if (I.length : Int) = 0 then some ((n : Int), E, [0]) else some ((n : Int), E, I) := by
   intro k
   rw [marchlandref05_Fix.l1]
   by_cases c : (i : Int) < (l2.length : Int)
   ·rw [if_pos c, decide_eq_false (by omega), marchlandref05_Fix.j3, if_neg (by decide)]
   ·rw [if_neg c, marchlandref05_Fix.j3, if_neg (by decide)]
  by_cases c : (I.length : Int) = 0
  ·refine ⟨[0], ⟨fun p hp => ?_, by simp⟩, by simp, by simp, 2, fun k hk => ?_⟩
   ·rw [List.mem_singleton.1 hp]; omega
   ·obtain ⟨k, rfl⟩ : ∃ m, k = m + 2 := ⟨k - 2, by omega⟩
    exact (st k).trans (if_pos c)
  ·refine ⟨I, hI, fun e => c (by rw [e]; rfl), by omega, 2, fun k hk => ?_⟩
   obtain ⟨k, rfl⟩ : ∃ m, k = m + 2 := ⟨k - 2, by omega⟩
   exact (st k).trans (if_neg c)
 intro d
 induction d with
 | zero => intro i hi I hI hl; exact fin i (by omega) I hI hl (Or.inr (by omega))
 | succ d IH =>
  intro i hi I hI hl
  by_cases c : (i : Int) < (l2.length : Int)
  ·obtain ⟨m1, m2, m3, m4⟩ := modn (rd l2 (i : Int)) hn.1 hn.2
   generalize hp : Int.tmod (IntKind.u64.wrap (rd l2 (i : Int))) (n : Int) = p at m2 m3 m4
   have hJ : IGood n (if p ∈ I then I else I ++ [p]) ∧ (if p ∈ I then I else I ++ [p]).length ≤ i + 1 := by
    by_cases q : p ∈ I
    ·rw [if_pos q]; exact ⟨hI, by omega⟩
    ·rw [if_neg q]; exact ⟨igood_snoc hI ⟨m2, m3⟩ q, by simp; omega⟩
   obtain ⟨I', g1, g2, g3, g4⟩ := IH (i + 1) (by omega) _ hJ.1 hJ.2
   refine ⟨I', g1, g2, g3, ?_⟩
   obtain ⟨K, h2⟩ := fix5_l2 (by omega) p (by omega) _ g4 I [] rfl
   refine ⟨K + 2, fun k hk => ?_⟩
   obtain ⟨k, rfl⟩ : ∃ m, k = m + 2 := ⟨k - 2, by omega⟩
   show marchlandref05_Fix.l1 (k + 2) _ _ _ _ _ _ _ = _
   rw [marchlandref05_Fix.l1, if_pos c, decide_eq_true (by omega), marchlandref05_Fix.j3, if_pos rfl, if_pos (by omega), if_pos c, m1, if_neg (by omega), hp, m4]
   exact h2 k (by omega)
  ·exact fin i (by omega) I hI hl (Or.inl c)
theorem fix5_l0 (hn : 1 ≤ n ∧ n ≤ 6) (hw : ∀ x ∈ l1, In x.f2) : ∀ d i : Nat, i + d = 12 → ∀ E : List S90, EGood n E → E.length ≤ i → ∃ (E' : List S90) (I' : List Int), EGood n E' ∧ E'.length ≤ 12 ∧ IGood n I' ∧ I' ≠ [] ∧ I'.length ≤ 8 ∧ Ev (fun k => marchlandref05_Fix.l0 k (i : Int) a0 l1 l2 (n : Int) E) ((n : Int), E', I') := by
 have fin : ∀ (i : Nat), i ≤ 12 → ∀ E : List S90, EGood n E → E.length ≤ i → (¬ ((i : Int) < (l1.length : Int)) ∨ ¬ ((i : Int) < 12)) → ∃ (E' : List S90) (I' : List Int), EGood n E' ∧ E'.length ≤ 12 ∧ IGood n I' ∧ I' ≠ [] ∧ I'.length ≤ 8 ∧ Ev (fun k => marchlandref05_Fix.l0 k (i : Int) a0 l1 l2 (n : Int) E) ((n : Int), E', I') := by
  intro i hi E hE hl hc
  obtain ⟨I', g1, g2, g3, K, g4⟩ := fix5_l1 (a0 := a0) (l1 := l1) (l2 := l2) (E := E) hn 8 0 rfl [] ⟨by simp, by simp⟩ (by simp)
  refine ⟨E, I', hE, by omega, g1, g2, g3, K + 2, fun k hk => ?_⟩
  obtain ⟨k, rfl⟩ : ∃ m, k = m + 2 := ⟨k - 2, by omega⟩
  show marchlandref05_Fix.l0 (k + 2) _ _ _ _ _ _ = _
  rw [marchlandref05_Fix.l0]
  by_cases c : (i : Int) < (l1.length : Int)
  ·rw [if_pos c, decide_eq_false (by omega), marchlandref05_Fix.j1, if_neg (by decide)]; exact g4 k (by omega)
  ·rw [if_neg c, marchlandref05_Fix.j1, if_neg (by decide)]; exact g4 k (by omega)
 intro d
 induction d with
 | zero => intro i hi E hE hl; exact fin i (by omega) E hE hl (Or.inr (by omega))
 | succ d IH =>
  intro i hi E hE hl
  by_cases c : (i : Int) < (l1.length : Int)
  ·have hx : In (rd_T90 l1 (i : Int)).f2 := by
    unfold rd_T90
    rw [Int.toNat_natCast, List.getD_eq_getElem?_getD, List.getElem?_eq_getElem (by omega), Option.getD_some]
    exact hw _ (List.getElem_mem _)
   generalize hxe : rd_T90 l1 (i : Int) = x at hx
   obtain ⟨m1, a2, a3, a4⟩ := modn x.f0 hn.1 hn.2
   obtain ⟨_, b2, b3, b4⟩ := modn x.f1 hn.1 hn.2
   have step : ∀ y : S90, EGood n (E ++ [y]) → (∀ k, marchlandref05_Fix.j1 (k + 1) (i : Int) true a0 l1 l2 (n : Int) E = marchlandref05_Fix.l0 k (((i + 1 : Nat)) : Int) a0 l1 l2 (n : Int) (E ++ [y])) → ∃ (E' : List S90) (I' : List Int), EGood n E' ∧ E'.length ≤ 12 ∧ IGood n I' ∧ I' ≠ [] ∧ I'.length ≤ 8 ∧ Ev (fun k => marchlandref05_Fix.l0 k (i : Int) a0 l1 l2 (n : Int) E) ((n : Int), E', I') := by
    intro y hy hs
    obtain ⟨E', I', g1, g2, g3, g4, g5, K, g6⟩ := IH (i + 1) (by omega) (E ++ [y]) hy (by simp; omega)
    refine ⟨E', I', g1, g2, g3, g4, g5, K + 2, fun k hk => ?_⟩
    obtain ⟨k, rfl⟩ : ∃ m, k = m + 2 := ⟨k - 2, by omega⟩
    show marchlandref05_Fix.l0 (k + 2) _ _ _ _ _ _ = _
    rw [marchlandref05_Fix.l0, if_pos c, decide_eq_true (by omega), hs]
    exact g6 k (by omega)
   by_cases c1 : Int.tmod (IntKind.u64.wrap x.f1) (n : Int) ≤ Int.tmod (IntKind.u64.wrap x.f0) (n : Int)
   ·by_cases c2 : x.f2 = 0
    ·refine step ⟨Int.tmod (IntKind.u64.wrap x.f0) (n : Int), Int.tmod (IntKind.u64.wrap x.f1) (n : Int), 1⟩ (egood_snoc hE ⟨a2, a3, b2, b3, by show In 1; unfold In N; omega⟩ (fun _ => by show (1 : Int) ≤ 1; omega)) (fun k => ?_)
     rw [marchlandref05_Fix.j1, if_pos rfl, if_pos (by omega), if_pos c, m1, if_neg (by omega), hxe, a4, b4, if_pos c1, if_pos c2, if_pos (by omega), w64 (by omega)]
    ·refine step ⟨Int.tmod (IntKind.u64.wrap x.f0) (n : Int), Int.tmod (IntKind.u64.wrap x.f1) (n : Int), x.f2⟩ (egood_snoc hE ⟨a2, a3, b2, b3, hx⟩ (fun _ => by show (1 : Int) ≤ x.f2; have := hx.1; omega)) (fun k => ?_)
     rw [marchlandref05_Fix.j1, if_pos rfl, if_pos (by omega), if_pos c, m1, if_neg (by omega), hxe, a4, b4, if_pos c1, if_neg c2, if_pos (by omega), w64 (by omega)]
   ·refine step ⟨Int.tmod (IntKind.u64.wrap x.f0) (n : Int), Int.tmod (IntKind.u64.wrap x.f1) (n : Int), x.f2⟩ (egood_snoc hE ⟨a2, a3, b2, b3, hx⟩ (fun q => absurd q c1)) (fun k => ?_)
    rw [marchlandref05_Fix.j1, if_pos rfl, if_pos (by omega), if_pos c, m1, if_neg (by omega), hxe, a4, b4, if_neg c1, if_pos (by omega), w64 (by omega)]
  ·exact fin i (by omega) E hE hl (Or.inl c)
end
theorem fix5_ev (a0 : Int) (l1 : List S90) (l2 : List Int) (hw : ∀ x ∈ l1, In x.f2) : ∃ (n : Nat) (E : List S90) (I : List Int), (1 ≤ n ∧ n ≤ 6) ∧ EGood n E ∧ E.length ≤ 12 ∧ IGood n I ∧ I ≠ [] ∧ I.length ≤ 8 ∧ Ev (fun k => marchlandref05_Fix.f k a0 l1 l2) ((n : Int), E, I) := by
 obtain ⟨m1, a2, a3, a4⟩ := modn a0 (n := 6) (by omega) (by omega)
 have e : wrap64 (1 + wrap64 (Int.tmod (IntKind.u64.wrap a0) 6)) = (((1 + Int.tmod (IntKind.u64.wrap a0) 6).toNat : Nat) : Int) := by
  have : wrap64 (Int.tmod (IntKind.u64.wrap a0) 6) = Int.tmod (IntKind.u64.wrap a0) 6 := a4
  rw [this]
  have h1 : 0 ≤ Int.tmod (IntKind.u64.wrap a0) 6 := a2
  have h2 : Int.tmod (IntKind.u64.wrap a0) 6 < 6 := a3
  unfold wrap64; omega
 have h1 : 0 ≤ Int.tmod (IntKind.u64.wrap a0) 6 := a2
 have h2 : Int.tmod (IntKind.u64.wrap a0) 6 < 6 := a3
 generalize (1 + Int.tmod (IntKind.u64.wrap a0) 6).toNat = n at e
 have hn : 1 ≤ n ∧ n ≤ 6 := by
  have : wrap64 (1 + wrap64 (Int.tmod (IntKind.u64.wrap a0) 6)) = 1 + Int.tmod (IntKind.u64.wrap a0) 6 := by
   rw [show wrap64 (Int.tmod (IntKind.u64.wrap a0) 6) = Int.tmod (IntKind.u64.wrap a0) 6 from a4]; unfold wrap64; omega
  omega
 obtain ⟨E, I, g1, g2, g3, g4, g5, K, g6⟩ := fix5_l0 (a0 := a0) (l1 := l1) (l2 := l2) hn hw 12 0 rfl [] ⟨(fun e he => by simp at he), (fun e he => by simp at he)⟩ (by simp)
 refine ⟨n, E, I, hn, g1, g2, g3, g4, g5, K, fun k hk => ?_⟩
 show marchlandref05_Fix.f k a0 l1 l2 = _
 unfold marchlandref05_Fix.f
 rw [e]
 exact g6 k hk
theorem Ev.s {α : Type} {F G : Nat → Option α} {r : α} (h : ∀ k, F (k + 1) = G k) (g : Ev G r) : Ev F r := by
 obtain ⟨K, g⟩ := g
 refine ⟨K + 1, fun k hk => ?_⟩
 obtain ⟨k, rfl⟩ : ∃ m, k = m + 1 := ⟨k - 1, by omega⟩
 rw [h]; exact g k (by omega)
theorem Ev.o {α : Type} {F : Nat → Option α} {r : α} (h : ∀ k, F (k + 1) = some r) : Ev F r := by
 refine ⟨1, fun k hk => ?_⟩
 obtain ⟨k, rfl⟩ : ∃ m, k = m + 1 := ⟨k - 1, by omega⟩
 exact h k
def c95 (x : S90) : S95 := ⟨x.f0, x.f1, x.f2⟩
theorem ed_c95 (E : List S90) : (E.map c95).map ed = E.map ed9 := by rw [List.map_map]; rfl
theorem we_c95 {n : Nat} {E : List S90} (h : WE9 n E) : WE n (E.map c95) := by
 intro e he
 obtain ⟨x, hx, rfl⟩ := List.mem_map.1 he
 exact h x hx
section
variable {n : Nat} {E : List S90} {I : List Int}
theorem to5_l0 (hl : E.length ≤ 1000) : ∀ (rest pre : List S90), E = pre ++ rest → Ev (fun k => marchlandlaw05_To.l0 k (pre.length : Int) (n : Int) E I (n : Int) (pre.map c95) I) ((n : Int), E.map c95, I)
 | [], pre, h => by
  rw [List.append_nil] at h
  subst h
  refine Ev.o (fun k => ?_)
  show marchlandlaw05_To.l0 (k + 1) _ _ _ _ _ _ _ = _
  rw [marchlandlaw05_To.l0, if_neg (by omega)]
 | x :: rest, pre, h => by
  have ih := to5_l0 hl rest (pre ++ [x]) (by rw [h]; simp)
  have hlen : pre.length + 1 ≤ E.length := by rw [h, List.length_append, List.length_cons]; omega
  have hr : rd_T90 E (pre.length : Int) = x := by rw [h]; exact rd90 pre x rest rfl
  rw [List.map_append, List.length_append] at ih
  simp only [List.map_cons, List.map_nil, List.length_cons, List.length_nil, Nat.zero_add] at ih
  refine Ev.s (fun k => ?_) ih
  show marchlandlaw05_To.l0 (k + 1) _ _ _ _ _ _ _ = _
  rw [marchlandlaw05_To.l0, if_pos (by omega), if_pos (by omega), if_pos (by rw [List.length_map]; omega), hr, w64 (by omega)]
  rfl
theorem to5_ev (hl : E.length ≤ 1000) (hI : I.length ≤ 1000) : Ev (fun k => marchlandlaw05_To.f k (n : Int) E I) ((n : Int), E.map c95, I) := by
 have h := to5_l0 (n := n) (I := I) hl E [] rfl
 refine Ev.id h (fun k => ?_)
 show _ = marchlandlaw05_To.f k (n : Int) E I
 unfold marchlandlaw05_To.f
 rw [Option.bind_some, if_pos (by simp; omega)]
 rfl
theorem has_ok {E' : List S95} {p : Int} (h0 : 0 ≤ p) (h1 : p < n) : graph_Graph_has.f (n : Int) E' I p = some true := by
 unfold graph_Graph_has.f
 rw [if_pos h0, decide_eq_true h1]
theorem edges_l0 {E : List S95} (hE : WE n E) (hl : E.length ≤ 1000) : ∀ d i : Nat, i + d = E.length → Ev (fun k => graph_Graph_edges.l0 k E (E.length : Int) (i : Int) (n : Int) E I) none
 | 0, i, h => by
  refine Ev.o (fun k => ?_)
  show graph_Graph_edges.l0 (k + 1) _ _ _ _ _ _ = _
  rw [graph_Graph_edges.l0, if_neg (by omega)]
 | d + 1, i, h => by
  have ih := edges_l0 hE hl d (i + 1) (by omega)
  have hm : rd_T95 E (i : Int) ∈ E := by
   unfold rd_T95
   rw [Int.toNat_natCast, List.getD_eq_getElem?_getD, List.getElem?_eq_getElem (by omega), Option.getD_some]
   exact List.getElem_mem _
  obtain ⟨x0, x1, x2, x3, x4⟩ := hE _ hm
  refine Ev.s (fun k => ?_) ih
  show graph_Graph_edges.l0 (k + 1) _ _ _ _ _ _ = _
  rw [graph_Graph_edges.l0, if_pos (by omega), if_pos (by omega), if_pos (by omega), has_ok x0 x1, Option.bind_some, if_pos rfl, has_ok x2 x3, Option.bind_some, if_pos rfl, w64 (by omega)]
theorem index_none {p : Int} (L : List Int) (hl : L.length ≤ 1000) (hp : p ∉ L) : ∀ d i : Nat, i + d = L.length → Ev (fun k => slices_Index_int_int.l0 k L p (L.length : Int) (i : Int)) (-1)
 | 0, i, h => by
  refine Ev.o (fun k => ?_)
  show slices_Index_int_int.l0 (k + 1) _ _ _ _ = _
  rw [slices_Index_int_int.l0, if_neg (by omega)]
 | d + 1, i, h => by
  have ih := index_none L hl hp d (i + 1) (by omega)
  have hm : rd L (i : Int) ∈ L := by
   unfold rd
   rw [Int.toNat_natCast, List.getD_eq_getElem?_getD, List.getElem?_eq_getElem (by omega), Option.getD_some]
   exact List.getElem_mem _
  refine Ev.s (fun k => ?_) ih
  show slices_Index_int_int.l0 (k + 1) _ _ _ _ = _
  rw [slices_Index_int_int.l0, if_pos (by omega), if_pos (by omega), if_pos (by omega), if_neg (fun q => hp (by rw [q]; exact hm)), w64 (by omega)]
theorem contains_none {p : Int} (L : List Int) (hl : L.length ≤ 1000) (hp : p ∉ L) : Ev (fun k => slices_Contains_int_int.f k L p) false := by
 obtain ⟨K, h⟩ := index_none L hl hp L.length 0 (by omega)
 refine ⟨K, fun k hk => ?_⟩
 show slices_Contains_int_int.f k L p = _
 unfold slices_Contains_int_int.f slices_Index_int_int.f
 have h := h k hk
 dsimp only at h
 rw [show ((0 : Nat) : Int) = 0 from rfl] at h
 rw [h]; rfl
theorem inputs_l0 {E : List S95} (hI : IGood n I) (hl : I.length ≤ 1000) : ∀ d i : Nat, i + d = I.length → Ev (fun k => graph_Graph_inputs.l0 k I (I.length : Int) (i : Int) (n : Int) E I) none
 | 0, i, h => by
  refine Ev.o (fun k => ?_)
  show graph_Graph_inputs.l0 (k + 1) _ _ _ _ _ _ = _
  rw [graph_Graph_inputs.l0, if_neg (by omega)]
 | d + 1, i, h => by
  obtain ⟨K1, ih⟩ := inputs_l0 (E := E) hI hl d (i + 1) (by omega)
  have hlt : i < I.length := by omega
  have hg : rd I (i : Int) = I[i] := by unfold rd; rw [Int.toNat_natCast, List.getD_eq_getElem?_getD, List.getElem?_eq_getElem hlt, Option.getD_some]
  have hb := hI.ok (I[i]) (List.getElem_mem _)
  have hn : I[i] ∉ I.take i := by
   intro hm
   obtain ⟨j, hj, e⟩ := List.getElem_of_mem hm
   rw [List.length_take] at hj
   rw [List.getElem_take] at e
   have := (List.getElem_inj hI.once).1 e
   omega
  obtain ⟨K2, hc⟩ := contains_none (I.take i) (by rw [List.length_take]; omega) hn
  refine ⟨K1 + K2 + 1, fun k hk => ?_⟩
  obtain ⟨k, rfl⟩ : ∃ m, k = m + 1 := ⟨k - 1, by omega⟩
  have ih := ih k (by omega); have hc := hc k (by omega); dsimp only at ih hc
  show graph_Graph_inputs.l0 (k + 1) _ _ _ _ _ _ = _
  rw [graph_Graph_inputs.l0, if_pos (by omega), if_pos (by omega), if_pos (by omega), hg, has_ok hb.1 hb.2, Option.bind_some, if_pos rfl, if_pos (by omega), Int.toNat_natCast, hc, Option.bind_some, if_neg (by decide), w64 (by omega)]
  exact ih
theorem cycle_l0 {E : List S95} {W : Mat} (hE : WE n E) (hl : E.length ≤ 1000) (hW : ∀ e ∈ E, e.f2 = 0 → W e.f1.toNat e.f0.toNat ≠ 0) : ∀ d i : Nat, i + d = E.length → Ev (fun k => graph_Graph_cycle.l0 k (mat n W) (-1) E (E.length : Int) (i : Int)) (-1)
 | 0, i, h => by
  refine Ev.o (fun k => ?_)
  show graph_Graph_cycle.l0 (k + 1) _ _ _ _ _ = _
  rw [graph_Graph_cycle.l0, if_neg (by omega)]
 | d + 1, i, h => by
  have ih := cycle_l0 hE hl hW d (i + 1) (by omega)
  have hm : rd_T95 E (i : Int) ∈ E := by
   unfold rd_T95
   rw [Int.toNat_natCast, List.getD_eq_getElem?_getD, List.getElem?_eq_getElem (by omega), Option.getD_some]
   exact List.getElem_mem _
  generalize hx : rd_T95 E (i : Int) = x at hm
  obtain ⟨x0, x1, x2, x3, x4⟩ := hE _ hm
  have hw := hW x hm
  have f0 : x.f0 = ((x.f0.toNat : Nat) : Int) := by omega
  have f1 : x.f1 = ((x.f1.toNat : Nat) : Int) := by omega
  have r1 : rd_L7 (mat n W) x.f1 = Ls n (W x.f1.toNat) := by rw [f1]; exact mat_row n W (by omega)
  have r2 : rd (Ls n (W x.f1.toNat)) x.f0 = W x.f1.toNat x.f0.toNat := by rw [f0]; exact ls_rd n _ (by omega)
  refine Ev.s (fun k => ?_) ih
  show graph_Graph_cycle.l0 (k + 1) _ _ _ _ _ = _
  rw [graph_Graph_cycle.l0, if_pos (by omega), if_pos (by omega), if_pos (by omega), hx, w64 (by omega)]
  by_cases c : x.f2 = 0
  ·rw [if_pos c, if_pos x2, mat_len, if_pos x3, if_pos x0, r1, ls_len, if_pos x1, r2, if_neg (hw c)]
  ·rw [if_neg c]
theorem paths_ev (hn : 1 ≤ n ∧ n ≤ 6) (hE : EGood n E) (hl : E.length ≤ 12) (hI : IGood n I) (hI0 : I ≠ []) (hI8 : I.length ≤ 8) : Ev (fun k => graph_Paths.f k (n : Int) (E.map c95) I) (mat n (wk (E.map ed9) n)) := by
 have hW := we_c95 hE.ok
 have hll : (E.map c95).length ≤ 12 := by rw [List.length_map]; exact hl
 obtain ⟨K1, h1⟩ := ways_ev I hW (by omega) (by omega)
 obtain ⟨K2, h2⟩ := edges_l0 (I := I) hW (by omega) (E.map c95).length 0 (by omega)
 obtain ⟨K3, h3⟩ := inputs_l0 (E := E.map c95) hI (by omega) I.length 0 (by omega)
 rw [ed_c95] at h1
 obtain ⟨K4, h4⟩ := cycle_l0 (W := wk (E.map ed9) n) hW (by omega) (fun e he h0 => by
  obtain ⟨x, hx, rfl⟩ := List.mem_map.1 he
  obtain ⟨x0, x1, x2, x3, x4⟩ := hE.ok x hx
  have hb := hE.back x hx
  have h0 : x.f2 = 0 := h0
  show wk (E.map ed9) n x.f1.toNat x.f0.toNat ≠ 0
  have hlt : x.f0.toNat < x.f1.toNat := by
   rcases Int.lt_or_le x.f0 x.f1 with q | q
   ·omega
   ·have := hb q; omega
  exact no_round (we9_ok hE.ok) (fun e he hq => by
   obtain ⟨y, hy, rfl⟩ := List.mem_map.1 he
   obtain ⟨y0, y1, y2, y3, y4⟩ := hE.ok y hy
   have hq : y.f1.toNat ≤ y.f0.toNat := hq
   exact hE.back y hy (by omega)) (by omega) (by omega) hlt) (E.map c95).length 0 (by omega)
 have hpos : 1 ≤ I.length := by cases I with | nil => exact absurd rfl hI0 | cons a l => simp
 refine ⟨K1 + K2 + K3 + K4 + 3, fun k hk => ?_⟩
 obtain ⟨k, rfl⟩ : ∃ m, k = m + 2 := ⟨k - 2, by omega⟩
 have h1a := h1 (k + 1) (by omega); have h1b := h1 (k + 2) (by omega); have h2 := h2 (k + 1) (by omega); have h3 := h3 k (by omega); have h4 := h4 (k + 1) (by omega)
 dsimp only at h1a h1b h2 h3 h4
 have e2 : graph_Graph_edges.f (k + 1) (n : Int) (E.map c95) I = some none := h2
 have e3 : graph_Graph_inputs.f (k + 1) (n : Int) (E.map c95) I = some none := by
  unfold graph_Graph_inputs.f
  rw [if_neg (by omega), graph_Graph_inputs.j0, if_neg (by simp; omega)]
  exact h3
 have e4 : graph_Graph_cycle.f (k + 1) (n : Int) (E.map c95) I (mat n (wk (E.map ed9) n)) = some (-1) := h4
 have ec : graph_Check.f (k + 2) (n : Int) (E.map c95) I = some none := by
  unfold graph_Check.f
  rw [if_neg (by omega), decide_eq_false (by omega), graph_Check.j0, if_neg (by decide), if_neg (by omega), e2, Option.bind_some, if_pos (show (none : Option Int).isNone = true from rfl), e3, Option.bind_some, if_pos (show (none : Option Int).isNone = true from rfl), h1a, Option.bind_some, e4, Option.bind_some, if_neg (by decide)]
 show graph_Paths.f (k + 2) _ _ _ = _
 unfold graph_Paths.f
 rw [ec, Option.bind_some, if_pos (show (none : Option Int).isNone = true from rfl), h1b, Option.bind_some]
end
open Go.RowKit Go.Proofs.Ytgeldmhgbnamcaa.P Go.Proofs.YtgeldmhgbnamcaaW.PrintWords Go.Proofs.YtgeldmhgbnamcaaW.PrintLast
theorem ordv_neg {a b : S50} : ordv a b < 0 ↔ kl a b := by unfold ordv; split <;> (try split) <;> simp_all
theorem ordv_zero {a b : S50} : ordv a b = 0 ↔ ke a b := by
 unfold ordv
 split
 ·rename_i h; simp; unfold kl ke at *; omega
 ·split <;> simp_all
theorem set5 (p : List S50) (x : S50) (q : List S50) (y : S50) {n : Nat} (h : n = p.length) : (p ++ x :: q).set n y = p ++ y :: q := by subst h; simp
theorem order_at (a b : S50) : Ev (fun k => batch_order.f k a.f0 a.f1 a.f2 b.f0 b.f1 b.f2) (ordv a b) := order_ev _ _ _ _ _ _
theorem l1_pos {p q : List S50} {y x : S50} {x1 x2 x8 : Int} {r : List S50} (hp : p.length ≤ 8000000000000000000) (hx : x1 ≤ p.length) {i : Int} (hi : i = p.length + 1)
  (h1 : kl x y → Ev (fun k => batch_Change_95.l1 k (p ++ x :: y :: q) x1 x2 x8 p.length) r)
  (h2 : ¬ kl x y → Ev (fun k => batch_Change_95.l0 k (p ++ y :: x :: q) x1 x2 (wrap64 (x8 + 1))) r) :
  Ev (fun k => batch_Change_95.l1 k (p ++ y :: x :: q) x1 x2 x8 i) r := by
 obtain ⟨K, h⟩ := order_at x y
 have hw : wrap64 (i - 1) = p.length := by unfold wrap64; omega
 have e1 : rd_T50 (p ++ y :: x :: q) i = x := by
  have := rd5 (p ++ [y]) x q (i := i) (by simp; omega)
  simpa using this
 have e2 : rd_T50 (p ++ y :: x :: q) (p.length : Int) = y := rd5 p y (x :: q) rfl
 have c1 : i > x1 := by omega
 have c2 : 0 ≤ i := by omega
 have c3 : i < ((p ++ y :: x :: q).length : Int) := by simp; omega
 have c4 : (0 : Int) ≤ p.length := by omega
 have c5 : (p.length : Int) < ((p ++ y :: x :: q).length : Int) := by simp; omega
 have s : ((p ++ y :: x :: q).set i.toNat ⟨y.f0, y.f1, y.f2⟩).set (p.length : Int).toNat ⟨x.f0, x.f1, x.f2⟩ = p ++ x :: y :: q := by
  have a := set5 (p ++ [y]) x q y (n := i.toNat) (by simp; omega)
  have b := set5 p y (y :: q) x (n := (p.length : Int).toNat) (by simp)
  have a' : (p ++ y :: x :: q).set i.toNat y = p ++ y :: y :: q := by simpa using a
  calc _ = ((p ++ y :: x :: q).set i.toNat y).set (p.length : Int).toNat x := rfl
   _ = _ := by rw [a', b]
 by_cases hc : kl x y
 ·obtain ⟨K', h'⟩ := h1 hc
  refine ⟨K + K' + 1, fun k hk => ?_⟩
  obtain ⟨k, rfl⟩ : ∃ m, k = m + 1 := ⟨k - 1, by omega⟩
  have o := h k (by omega)
  simp only [batch_Change_95.l1, hw, if_pos c1, if_pos c2, if_pos c3, if_pos c4, if_pos c5, e1, e2, o, Option.bind_some, if_pos (ordv_neg.2 hc), s]
  exact h' k (by omega)
 ·obtain ⟨K', h'⟩ := h2 hc
  refine ⟨K + K' + 1, fun k hk => ?_⟩
  obtain ⟨k, rfl⟩ : ∃ m, k = m + 1 := ⟨k - 1, by omega⟩
  have o := h k (by omega)
  simp only [batch_Change_95.l1, hw, if_pos c1, if_pos c2, if_pos c3, if_pos c4, if_pos c5, e1, e2, o, Option.bind_some, if_neg (mt ordv_neg.1 hc)]
  exact h' k (by omega)
theorem l1_end {X : List S50} {x1 x2 x8 i : Int} {r : List S50} (hx : i ≤ x1) (h : Ev (fun k => batch_Change_95.l0 k X x1 x2 (wrap64 (x8 + 1))) r) : Ev (fun k => batch_Change_95.l1 k X x1 x2 x8 i) r :=
 Ev.step (fun k => by show batch_Change_95.l1 (k + 1) X x1 x2 x8 i = _; rw [batch_Change_95.l1, if_neg (by omega)]) h
theorem ins95_l1 (P D : List S50) (x2 x8 : Int) : ∀ (n : Nat) (A B : List S50) (x : S50), A.length = n → Srt (A ++ B) → (∀ b ∈ B, kl x b) → P.length + n ≤ 8000000000000000000 →
  ∃ S' : List S50, S'.Perm (A ++ x :: B) ∧ Srt S' ∧ ∀ r, Ev (fun k => batch_Change_95.l0 k (P ++ (S' ++ D)) P.length x2 (wrap64 (x8 + 1))) r → Ev (fun k => batch_Change_95.l1 k (P ++ (A ++ x :: B ++ D)) P.length x2 x8 ((P.length + n : Nat) : Int)) r := by
 intro n
 induction n with
 | zero =>
  intro A B x hA hs hB hP
  obtain rfl : A = [] := List.eq_nil_of_length_eq_zero hA
  refine ⟨x :: B, List.Perm.refl _, List.pairwise_cons.2 ⟨fun b hb => ?_, hs⟩, fun r h => l1_end (by simp) h⟩
  have := hB b hb; unfold kl at *; omega
 | succ n ih =>
  intro A B x hA hs hB hP
  rcases List.eq_nil_or_concat A with rfl | ⟨A', y, rfl⟩
  ·simp at hA
  simp only [List.concat_eq_append] at hA hs ⊢
  have hA' : A'.length = n := by simpa using hA
  have e0 : P ++ (A' ++ [y] ++ x :: B ++ D) = (P ++ A') ++ y :: x :: (B ++ D) := by simp
  by_cases hc : kl x y
  ·obtain ⟨S', p, s, k⟩ := ih A' (y :: B) x hA' (by simpa using hs) (fun b hb => (List.mem_cons.1 hb).elim (fun e => e ▸ hc) (fun hb => hB b hb)) (by omega)
   refine ⟨S', p.trans (by simpa using (List.Perm.append_left A' (List.Perm.swap y x B))), s, fun r h => ?_⟩
   rw [e0]
   refine l1_pos (by simp; omega) (by simp only [List.length_append]; omega) (by simp only [List.length_append]; omega) (fun _ => ?_) (fun h => absurd hc h)
   have := k r h
   have e1 : (P ++ A') ++ x :: y :: (B ++ D) = P ++ (A' ++ x :: (y :: B) ++ D) := by simp
   have e2 : ((P ++ A').length : Int) = ((P.length + n : Nat) : Int) := by simp; omega
   rw [e1, e2]
   exact this
  ·refine ⟨A' ++ [y] ++ x :: B, List.Perm.refl _, ?_, fun r h => ?_⟩
   ·have hs1 := List.pairwise_append.1 hs
    refine List.pairwise_append.2 ⟨hs1.1, List.pairwise_cons.2 ⟨fun b hb => ?_, hs1.2.1⟩, fun a ha b hb => ?_⟩
    ·have := hB b hb; unfold kl at *; omega
    ·rcases List.mem_cons.1 hb with rfl | hb
     ·rcases List.mem_append.1 ha with ha | ha
      ·have := (List.pairwise_append.1 hs1.1).2.2 a ha y (by simp); unfold kl at *; omega
      ·simp at ha; subst ha; exact hc
     ·exact hs1.2.2 a ha b hb
   ·rw [e0]
    refine l1_pos (by simp; omega) (by simp only [List.length_append]; omega) (by simp only [List.length_append]; omega) (fun h => absurd h hc) (fun _ => ?_)
    have e1 : (P ++ A') ++ y :: x :: (B ++ D) = P ++ (A' ++ [y] ++ x :: B ++ D) := by simp
    rw [e1]
    exact h
theorem ins95_l0 (P D : List S50) : ∀ (R S : List S50), Srt S → P.length + S.length + R.length ≤ 8000000000000000000 →
  ∃ S' : List S50, S'.Perm (S ++ R) ∧ Srt S' ∧ Ev (fun k => batch_Change_95.l0 k (P ++ (S ++ R ++ D)) P.length ((P.length + S.length + R.length : Nat) : Int) ((P.length + S.length : Nat) : Int)) (P ++ (S' ++ D)) := by
 intro R
 induction R with
 | nil =>
  intro S hs hl
  refine ⟨S, by simp, hs, 1, fun k hk => ?_⟩
  obtain ⟨k, rfl⟩ : ∃ m, k = m + 1 := ⟨k - 1, by omega⟩
  show batch_Change_95.l0 (k + 1) _ _ _ _ = _
  rw [batch_Change_95.l0, if_neg (by simp)]
  simp
 | cons x R ih =>
  intro S hs hl
  simp only [List.length_cons] at hl
  obtain ⟨S1, p1, s1, k1⟩ := ins95_l1 P (R ++ D) ((P.length + S.length + (x :: R).length : Nat) : Int) ((P.length + S.length : Nat) : Int) S.length S [] x rfl (by simpa using hs) (fun _ h => by cases h) (by omega)
  have len : S1.length = S.length + 1 := by have := p1.length_eq; simpa using this
  obtain ⟨S2, p2, s2, k2⟩ := ih S1 s1 (by omega)
  refine ⟨S2, p2.trans ?_, s2, ?_⟩
  ·have := p1.append_right R
   simpa using this
  ·have e : ((P.length + S1.length + R.length : Nat) : Int) = ((P.length + S.length + (x :: R).length : Nat) : Int) := by simp only [List.length_cons]; omega
   have e2 : ((P.length + S1.length : Nat) : Int) = wrap64 (((P.length + S.length : Nat) : Int) + 1) := by rw [w64s (by omega), len]; rfl
   rw [e, e2] at k2
   have := k1 _ (by simpa using k2)
   refine Ev.step (fun k => ?_) this
   show batch_Change_95.l0 (k + 1) _ _ _ _ = _
   rw [batch_Change_95.l0, if_pos (by simp only [List.length_cons]; omega)]
   simp
theorem ins95 (P D S : List S50) (hl : P.length + S.length ≤ 8000000000000000000) {a b : Int} (ha : a = P.length) (hb : b = P.length + S.length) :
  ∃ S' : List S50, S'.Perm S ∧ Srt S' ∧ Ev (fun k => batch_Change_95.f k (P ++ (S ++ D)) a b) (P ++ (S' ++ D)) := by
 subst ha hb
 cases S with
 | nil =>
  refine ⟨[], List.Perm.refl _, List.Pairwise.nil, 1, fun k hk => ?_⟩
  obtain ⟨k, rfl⟩ : ∃ m, k = m + 1 := ⟨k - 1, by omega⟩
  show batch_Change_95.f (k + 1) _ _ _ = _
  rw [batch_Change_95.f, batch_Change_95.l0, if_neg]
  have : wrap64 ((P.length : Int) + 1) = P.length + 1 := by unfold wrap64; simp at hl; omega
  rw [this]; simp; omega
 | cons x S =>
  simp only [List.length_cons] at hl
  obtain ⟨S', p, s, h⟩ := ins95_l0 P D S [x] (by simp) (by simp; omega)
  refine ⟨S', p, s, Ev.congr (fun k => ?_) h⟩
  show batch_Change_95.f k _ _ _ = _
  rw [batch_Change_95.f, w64s (by omega)]
  have : ((P.length + [x].length + S.length : Nat) : Int) = (P.length : Int) + ((x :: S).length : Nat) := by simp; omega
  rw [this]; rfl
theorem ke_comm {a b : S50} : ke a b ↔ ke b a := by unfold ke; omega
theorem summed_j2 {X acc : List S50} {i : Int} {c : S50} {r : List S50 × Int × List S50} (ha : Short acc.length)
  (h1 : wi c.f2 → Ev (fun k => batch_summed.l0 k X (acc ++ fin [c]) i) r) (h2 : ¬ wi c.f2 → r = ([], 10, X)) : Ev (fun k => batch_summed.j2 k X acc i c.f0 c.f1 c.f2) r := by
 by_cases hc : wi c.f2
 ·obtain ⟨K, h⟩ := h1 hc
  refine ⟨K + 1, fun k hk => ?_⟩
  obtain ⟨k, rfl⟩ : ∃ m, k = m + 1 := ⟨k - 1, by omega⟩
  have h := h k (by omega); dsimp only at h
  show batch_summed.j2 (k + 1) _ _ _ _ _ _ = _
  simp only [batch_summed.j2, within_eq, Option.bind_some, hc, decide_true, if_true]
  by_cases hz : c.f2 = 0
  ·rw [if_pos hz]
   simpa [fin, hz] using h
  ·rw [if_neg hz, if_pos (by omega)]
   simpa [fin, hz] using h
 ·refine ⟨1, fun k hk => ?_⟩
  obtain ⟨k, rfl⟩ : ∃ m, k = m + 1 := ⟨k - 1, by omega⟩
  show batch_summed.j2 (k + 1) _ _ _ _ _ _ = _
  simp only [batch_summed.j2, within_eq, Option.bind_some, hc, decide_false, Bool.false_eq_true, if_false, h2 hc]
theorem good_cons {c : S50} {G : List S50} : good (c :: G) = (decide (wi c.f2) && good G) := by simp [good]
theorem fin_cons {c : S50} {G : List S50} : fin (c :: G) = fin [c] ++ fin G := by simp only [fin, List.filter_cons]; split <;> simp
theorem fin_len (G : List S50) : (fin G).length ≤ G.length := List.length_filter_le _ _
def sumo (X acc G : List S50) : List S50 × Int × List S50 := if good G = true then (acc ++ fin G, 0, X) else ([], 10, X)
theorem summed_l1 : ∀ (r pre acc : List S50) (c : S50), acc.length + r.length + 1 ≤ 5864062014634 → pre.length + r.length ≤ 8000000000000000000 →
  Ev (fun k => batch_summed.l1 k (pre ++ r) acc (pre.length : Int) c.f0 c.f1 c.f2) (sumo (pre ++ r) acc (grp c r)) := by
 intro r
 induction r with
 | nil =>
  intro pre acc c ha hp
  simp only [List.length_nil] at ha hp
  refine Ev.step (f := fun k => batch_summed.j2 k (pre ++ []) acc (pre.length : Int) c.f0 c.f1 c.f2) (fun k => ?_) (summed_j2 (by unfold Short; omega) (fun hc => ?_) (fun hc => ?_))
  ·show batch_summed.l1 (k + 1) _ _ _ _ _ _ = _
   rw [batch_summed.l1, if_neg (by simp)]
  ·refine ⟨1, fun k hk => ?_⟩
   obtain ⟨k, rfl⟩ : ∃ m, k = m + 1 := ⟨k - 1, by omega⟩
   show batch_summed.l0 (k + 1) _ _ _ = _
   rw [batch_summed.l0, if_neg (by simp)]
   simp [sumo, grp, good, hc]
  ·simp [sumo, grp, good, hc]
 | cons y r ih =>
  intro pre acc c ha hp
  simp only [List.length_cons] at ha hp
  have c1 : (pre.length : Int) < ((pre ++ y :: r).length : Int) := by simp; omega
  have c2 : (0 : Int) ≤ pre.length := by omega
  have e1 : rd_T50 (pre ++ y :: r) (pre.length : Int) = y := rd5 _ _ _ rfl
  have ew : wrap64 ((pre.length : Int) + 1) = ((pre ++ [y]).length : Int) := by rw [w64s (by omega)]; simp
  have eX : pre ++ y :: r = (pre ++ [y]) ++ r := by simp
  obtain ⟨K, o⟩ := order_at y c
  by_cases hk : ke c y
  ·obtain ⟨K1, h1⟩ := ih (pre ++ [y]) acc (plus c y) (by omega) (by simp; omega)
   refine ⟨K + K1 + 1, fun k hk' => ?_⟩
   obtain ⟨k, rfl⟩ : ∃ m, k = m + 1 := ⟨k - 1, by omega⟩
   have o := o k (by omega); dsimp only at o
   have h1 := h1 k (by omega); dsimp only at h1
   show batch_summed.l1 (k + 1) _ _ _ _ _ _ = _
   rw [batch_summed.l1, if_pos c1, if_pos c2, e1, o, Option.bind_some, if_pos (ordv_zero.2 (ke_comm.1 hk)), ew]
   simp only [grp, if_pos hk, eX]
   exact h1
  ·suffices h : Ev (fun k => batch_summed.j2 k (pre ++ y :: r) acc (pre.length : Int) c.f0 c.f1 c.f2) (sumo (pre ++ y :: r) acc (c :: grp y r)) by
    obtain ⟨K1, h1⟩ := h
    refine ⟨K + K1 + 1, fun k hk' => ?_⟩
    obtain ⟨k, rfl⟩ : ∃ m, k = m + 1 := ⟨k - 1, by omega⟩
    have o := o k (by omega); dsimp only at o
    have h1 := h1 k (by omega); dsimp only at h1
    show batch_summed.l1 (k + 1) _ _ _ _ _ _ = _
    rw [batch_summed.l1, if_pos c1, if_pos c2, e1, o, Option.bind_some, if_neg (fun h => hk (ke_comm.1 (ordv_zero.1 h)))]
    simp only [grp, if_neg hk]
    exact h1
   refine summed_j2 (by unfold Short; omega) (fun hc => ?_) (fun hc => by simp [sumo, good_cons, hc])
   obtain ⟨K1, h1⟩ := ih (pre ++ [y]) (acc ++ fin [c]) y (by have := fin_len [c]; simp at this ⊢; omega) (by simp; omega)
   refine ⟨K1 + 1, fun k hk' => ?_⟩
   obtain ⟨k, rfl⟩ : ∃ m, k = m + 1 := ⟨k - 1, by omega⟩
   have h1 := h1 k (by omega); dsimp only at h1
   show batch_summed.l0 (k + 1) _ _ _ = _
   rw [batch_summed.l0, if_pos c1, if_pos c2, e1, ew, eX, h1]
   simp only [sumo, good_cons, hc, decide_true, Bool.true_and, fin_cons (c := c) (G := grp y r), List.append_assoc]
theorem summed_l0 (X : List S50) (h : Srt X) (hl : Short X.length) : Ev (fun k => batch_summed.l0 k X [] 0) (sumo X [] (tot X)) := by
 unfold Short at hl
 cases X with
 | nil =>
  refine ⟨1, fun k hk => ?_⟩
  obtain ⟨k, rfl⟩ : ∃ m, k = m + 1 := ⟨k - 1, by omega⟩
  show batch_summed.l0 (k + 1) _ _ _ = _
  rw [batch_summed.l0, if_neg (by simp)]
  rfl
 | cons c r =>
  simp only [List.length_cons] at hl
  have := summed_l1 r [c] [] c (by simp; omega) (by simp; omega)
  rw [tot_grp h]
  refine Ev.step (fun k => ?_) this
  show batch_summed.l0 (k + 1) _ _ _ = _
  have ew : wrap64 ((0 : Int) + 1) = 1 := by unfold wrap64; omega
  rw [batch_summed.l0, if_pos (by simp), if_pos (Int.le_refl 0), ew]
  rfl
def Sorts (l : List S50) : Prop := ∃ l' : List S50, l'.Perm l ∧ Srt l' ∧ Ev (fun k => batch_Change_74.f k l) l'
theorem summed_ev {l : List S50} (hs : Sorts l) (hl : Short l.length) : ∃ s, Ev (fun k => batch_summed.f k l) (sumo s [] (tot l)) := by
 obtain ⟨s, p, hs, h⟩ := hs
 refine ⟨s, Ev.bind h ?_⟩
 rw [← tot_perm p]
 exact summed_l0 s hs (by rw [p.length_eq]; exact hl)
def sumv (l : List S50) : List S50 × Int := if good (tot l) = true then (fin (tot l), 0) else ([], 10)
deriving instance DecidableEq for S50
theorem to_l0 (X : List S50) (hl : Short X.length) : ∀ (r pre : List S50), X = pre ++ r → Ev (fun k => marchlandlaw03_To.l0 k (X.map v) pre (pre.length : Int)) X := by
 unfold Short at hl
 intro r
 induction r with
 | nil =>
  intro pre e
  refine ⟨1, fun k hk => ?_⟩
  obtain ⟨k, rfl⟩ : ∃ m, k = m + 1 := ⟨k - 1, by omega⟩
  show marchlandlaw03_To.l0 (k + 1) _ _ _ = _
  rw [marchlandlaw03_To.l0, if_neg (by subst e; simp)]
  simp [e]
 | cons x r ih =>
  intro pre e
  obtain ⟨K1, h1⟩ := ih (pre ++ [x]) (by simp [e])
  refine ⟨K1 + 1, fun k hk => ?_⟩
  obtain ⟨k, rfl⟩ : ∃ m, k = m + 1 := ⟨k - 1, by omega⟩
  have h1 := h1 k (by omega); dsimp only at h1
  have ll : X.length = pre.length + (r.length + 1) := by rw [e]; simp
  have lm : (X.map v).length = X.length := by simp
  have e1 : rd_T40 (X.map v) (pre.length : Int) = v x := by rw [e, List.map_append]; exact rd4 _ _ _ (by simp)
  have ew : wrap64 ((pre.length : Int) + 1) = ((pre ++ [x]).length : Int) := by rw [w64s (by omega)]; simp
  show marchlandlaw03_To.l0 (k + 1) _ _ _ = _
  rw [marchlandlaw03_To.l0, if_pos (by omega), if_pos (by omega), if_pos (by omega), e1, ew]
  exact h1
theorem to_ev (X : List S50) (hl : Short X.length) : Ev (fun k => marchlandlaw03_To.f k (X.map v)) X := to_l0 X hl X [] rfl
theorem rd4m (p : List S50) (x : S50) (q : List S50) {i : Int} (h : i = p.length) : rd_T40 ((p ++ x :: q).map v) i = v x := by rw [List.map_append]; exact rd4 _ _ _ (by simp [h])
theorem set4m (p : List S50) (x : S50) (q : List S50) (y : S50) {n : Nat} (h : n = p.length) : ((p ++ x :: q).map v).set n (v y) = (p ++ y :: q).map v := by subst h; simp [List.map_append, List.set_append]
theorem sums_l3 (G : List S50) (hl : Short G.length) : ∀ (r pre acc : List S50), G = pre ++ r → acc.length ≤ pre.length →
  Ev (fun k => marchlandref03_sums.l3 k (G.map v) (acc.map v) (pre.length : Int)) (if good r = true then ((acc ++ fin r).map v, true) else ([], false)) := by
 unfold Short at hl
 intro r
 induction r with
 | nil =>
  intro pre acc e ha
  refine ⟨1, fun k hk => ?_⟩
  obtain ⟨k, rfl⟩ : ∃ m, k = m + 1 := ⟨k - 1, by omega⟩
  show marchlandref03_sums.l3 (k + 1) _ _ _ = _
  rw [marchlandref03_sums.l3, if_neg (by subst e; simp)]
  simp [good, fin]
 | cons x r ih =>
  intro pre acc e ha
  obtain ⟨K1, h1⟩ := ih (pre ++ [x]) (acc ++ fin [x]) (by simp [e]) (by have := fin_len [x]; simp at this ⊢; omega)
  refine ⟨K1 + 1, fun k hk => ?_⟩
  obtain ⟨k, rfl⟩ : ∃ m, k = m + 1 := ⟨k - 1, by omega⟩
  have h1 := h1 k (by omega); dsimp only at h1
  have ll : G.length = pre.length + (r.length + 1) := by rw [e]; simp
  have lm : (G.map v).length = G.length := by simp
  have lc : (acc.map v).length = acc.length := by simp
  have e1 : rd_T40 (G.map v) (pre.length : Int) = v x := by rw [e]; exact rd4m _ _ _ rfl
  have ew : wrap64 ((pre.length : Int) + 1) = ((pre ++ [x]).length : Int) := by rw [w64s (by omega)]; simp
  show marchlandref03_sums.l3 (k + 1) _ _ _ = _
  rw [marchlandref03_sums.l3, if_pos (by omega), if_pos (by omega), e1, within3_eq, Option.bind_some, good_cons, fin_cons, ew]
  by_cases hc : wi x.f2
  ·rw [if_pos (show decide (wi (v x).f2) = true from decide_eq_true hc)]
   simp only [hc, decide_true, Bool.true_and, ← List.append_assoc]
   by_cases hz : x.f2 = 0
   ·rw [if_pos (show (v x).f2 = 0 from hz)]
    have : fin [x] = [] := by simp [fin, hz]
    rw [this, List.append_nil] at h1 ⊢
    exact h1
   ·rw [if_neg (show ¬ (v x).f2 = 0 from hz), if_pos (by omega)]
    have : fin [x] = [x] := by simp [fin, hz]
    rw [this] at h1 ⊢
    have em : acc.map v ++ [(⟨(v x).f0, (v x).f1, (v x).f2⟩ : S40)] = (acc ++ [x]).map v := by simp [v]
    rw [em]; exact h1
  ·rw [if_neg (show ¬ decide (wi (v x).f2) = true from fun h => hc (of_decide_eq_true h))]
   simp [hc]
theorem ins_head {x : S50} {B : List S50} (h : ∀ b ∈ B, kl x b) : ins x B = x :: B := by
 cases B with
 | nil => rfl
 | cons b B =>
  have h := h b (by simp)
  have : ¬ ke b x := by unfold kl ke at *; omega
  simp [ins, this, h]
theorem sums_l2 (X' : List S40) (i : Int) {r : List S40 × Bool} : ∀ (n : Nat) (A : List S50) (x : S50) (B : List S50), A.length = n → n ≤ 8000000000000000000 → Str (A ++ B) → (∀ b ∈ B, kl x b) → (∀ a ∈ A, ¬ ke a x) →
  Ev (fun k => marchlandref03_sums.l0 k X' ((ins x (A ++ B)).map v) (wrap64 (i + 1))) r → Ev (fun k => marchlandref03_sums.l2 k X' ((A ++ x :: B).map v) i (n : Int)) r := by
 intro n
 induction n with
 | zero =>
  intro A x B hA hn hs hB hk h
  obtain rfl : A = [] := List.eq_nil_of_length_eq_zero hA
  refine Ev.step (fun k => ?_) h
  show marchlandref03_sums.l2 (k + 1) _ _ _ _ = _
  rw [marchlandref03_sums.l2, if_neg (by simp)]
  simp only [List.nil_append, ins_head hB]
 | succ n ih =>
  intro A x B hA hn hs hB hk h
  rcases List.eq_nil_or_concat A with rfl | ⟨A', y, rfl⟩
  ·simp at hA
  simp only [List.concat_eq_append] at hA hs hk h ⊢
  have hA' : A'.length = n := by simpa using hA
  have eL : A' ++ [y] ++ x :: B = A' ++ y :: x :: B := by simp
  have lL : ((A' ++ y :: x :: B).map v).length = n + 2 + B.length := by simp; omega
  have ew : wrap64 (((n + 1 : Nat) : Int) - 1) = (n : Int) := w64p (by omega)
  have e1 : rd_T40 ((A' ++ y :: x :: B).map v) ((n + 1 : Nat) : Int) = v x := by
   have := rd4m (A' ++ [y]) x B (i := ((n + 1 : Nat) : Int)) (by simp; omega)
   simpa using this
  have e2 : rd_T40 ((A' ++ y :: x :: B).map v) (n : Int) = v y := rd4m A' y (x :: B) (by omega)
  by_cases hc : kl x y
  ·obtain ⟨K, h1⟩ := ih A' x (y :: B) hA' (by omega) (by simpa using hs) (fun b hb => (List.mem_cons.1 hb).elim (fun e => e ▸ hc) (fun hb => hB b hb)) (fun a ha => hk a (by simp [ha])) (by simpa using h)
   refine ⟨K + 1, fun k hk => ?_⟩
   obtain ⟨k, rfl⟩ : ∃ m, k = m + 1 := ⟨k - 1, by omega⟩
   have h1 := h1 k (by omega); dsimp only at h1
   have s1 : ((A' ++ y :: x :: B).map v).set (n : Int).toNat (v x) = (A' ++ x :: x :: B).map v := set4m A' y (x :: B) x (by simp; omega)
   have s2 : ((A' ++ x :: x :: B).map v).set ((n + 1 : Nat) : Int).toNat (v y) = (A' ++ x :: y :: B).map v := by
    have := set4m (A' ++ [x]) x B y (n := ((n + 1 : Nat) : Int).toNat) (by simp; omega)
    simpa using this
   show marchlandref03_sums.l2 (k + 1) _ _ _ _ = _
   rw [marchlandref03_sums.l2, eL, ew, if_pos (by omega), if_pos (by omega), if_pos (by omega), if_pos (by omega), if_pos (by omega), e1, e2]
   rw [show marchlandref03_before.f (v x).f0 (v x).f1 (v x).f2 (v y).f0 (v y).f1 (v y).f2 = some (decide (kl x y)) from before_eq x y, Option.bind_some, if_pos (decide_eq_true hc)]
   rw [show (⟨(v x).f0, (v x).f1, (v x).f2⟩ : S40) = v x from rfl, show (⟨(v y).f0, (v y).f1, (v y).f2⟩ : S40) = v y from rfl, s1, s2]
   exact h1
  ·have hyx : kl y x := (kl_tri x y).elim (fun h => absurd h hc) (fun h => h.elim (fun h => absurd (ke_comm.1 h) (hk y (by simp))) id)
   have hall : ∀ a ∈ A' ++ [y], kl a x := fun a ha => by
    rcases List.mem_append.1 ha with ha | ha
    ·exact kl_trans ((List.pairwise_append.1 (List.pairwise_append.1 hs).1).2.2 a ha y (by simp)) hyx
    ·simp at ha; subst ha; exact hyx
   rw [ins_app B hall, ins_head hB] at h
   refine Ev.step (fun k => ?_) h
   show marchlandref03_sums.l2 (k + 1) _ _ _ _ = _
   rw [marchlandref03_sums.l2, eL, ew, if_pos (by omega), if_pos (by omega), if_pos (by omega), if_pos (by omega), if_pos (by omega), e1, e2]
   rw [show marchlandref03_before.f (v x).f0 (v x).f1 (v x).f2 (v y).f0 (v y).f1 (v y).f2 = some (decide (kl x y)) from before_eq x y, Option.bind_some, if_neg (fun h => hc (of_decide_eq_true h))]
theorem sums_skip {X' : List S40} {i : Int} {x : S50} (hi : 0 ≤ i) (hi' : i < X'.length) (hx : rd_T40 X' i = v x) {c : Int} {r : List S40 × Bool} (C : List S50) : ∀ (B A : List S50), (∀ y ∈ B, ¬ ke y x) → A.length + B.length ≤ 8000000000000000000 →
  Ev (fun k => marchlandref03_sums.l1 k X' ((A ++ B ++ C).map v) i c ((A.length + B.length : Nat) : Int)) r → Ev (fun k => marchlandref03_sums.l1 k X' ((A ++ B ++ C).map v) i c (A.length : Int)) r := by
 intro B
 induction B with
 | nil => intro A _ _ h; simpa using h
 | cons y B ih =>
  intro A hB hl h
  simp only [List.length_cons] at hl
  have hy := hB y (by simp)
  obtain ⟨K, h1⟩ := ih (A ++ [y]) (fun z hz => hB z (by simp [hz])) (by simp; omega) (by
   have e : (A ++ [y]).length + B.length = A.length + (y :: B).length := by simp; omega
   rw [e]; simpa using h)
  refine ⟨K + 1, fun k hk => ?_⟩
  obtain ⟨k, rfl⟩ : ∃ m, k = m + 1 := ⟨k - 1, by omega⟩
  have h1 := h1 k (by omega); dsimp only at h1
  have eL : A ++ [y] ++ B ++ C = A ++ y :: B ++ C := by simp
  have lL : ((A ++ y :: B ++ C).map v).length = A.length + (B.length + 1) + C.length := by simp; omega
  have e1 : rd_T40 ((A ++ y :: B ++ C).map v) (A.length : Int) = v y := by
   have := rd4m A y (B ++ C) (i := (A.length : Int)) rfl
   simpa using this
  have ew : wrap64 ((A.length : Int) + 1) = ((A ++ [y]).length : Int) := by rw [w64s (by omega)]; simp
  rw [eL] at h1
  show marchlandref03_sums.l1 (k + 1) _ _ _ _ _ = _
  rw [marchlandref03_sums.l1, if_pos (by omega), if_pos (by omega), if_pos hi, if_pos hi', e1, hx, ew, h1]
  by_cases q0 : (v y).f0 = (v x).f0
  ·have q1 : ¬ (v y).f1 = (v x).f1 := fun q1 => hy ⟨q0, q1⟩
   rw [if_pos q0, if_neg q1]
  ·rw [if_neg q0]
theorem mem_split_ke {x : S50} : ∀ {G : List S50}, (∃ y ∈ G, ke y x) → Str G → ∃ A y B, G = A ++ y :: B ∧ ke y x ∧ (∀ a ∈ A, ¬ ke a x) ∧ (∀ b ∈ B, ¬ ke b x) ∧ (∀ a ∈ A, kl a x) := by
 intro G ⟨y, hy, k⟩ hs
 obtain ⟨A, B, rfl⟩ := List.append_of_mem hy
 obtain ⟨h1, h2, h3⟩ := List.pairwise_append.1 hs
 refine ⟨A, y, B, rfl, k, fun a ha => ?_, fun b hb => ?_, fun a ha => ?_⟩
 ·have := h3 a ha y (by simp); unfold kl ke at *; omega
 ·have := (List.pairwise_cons.1 h2).1 b hb; unfold kl ke at *; omega
 ·have := h3 a ha y (by simp); unfold kl ke at *; omega
theorem sums_step {X' : List S40} {i : Int} {x : S50} (hi : 0 ≤ i) (hi' : i < X'.length) (hx : rd_T40 X' i = v x) {r : List S40 × Bool} {G : List S50} (hs : Str G) (hl : Short G.length)
  (h : Ev (fun k => marchlandref03_sums.l0 k X' ((ins x G).map v) (wrap64 (i + 1))) r) : Ev (fun k => marchlandref03_sums.l1 k X' (G.map v) i (-1) 0) r := by
 unfold Short at hl
 by_cases hk : ∃ y ∈ G, ke y x
 ·obtain ⟨A, y, B, rfl, ky, hA, hB, hAl⟩ := mem_split_ke hk hs
  have hl' : A.length + (B.length + 1) ≤ 5864062014634 := by simpa using hl
  have ei : ins x (A ++ y :: B) = A ++ plus y x :: B := by rw [ins_app _ hAl]; simp [ins, ky]
  rw [ei] at h
  have lL : ((A ++ y :: B).map v).length = A.length + (B.length + 1) := by simp
  have e1 : rd_T40 ((A ++ y :: B).map v) (A.length : Int) = v y := rd4m A y B rfl
  have ew : wrap64 ((A.length : Int) + 1) = ((A ++ [y]).length : Int) := by rw [w64s (by omega)]; simp
  have h1 := sums_skip hi hi' hx (c := -1) (r := r) (y :: B) A [] hA (by simp; omega)
  simp only [List.nil_append, List.length_nil, Nat.zero_add] at h1
  refine h1 ?_
  have h2 := sums_skip hi hi' hx (c := (A.length : Int)) (r := r) [] B (A ++ [y]) hB (by simp; omega)
  simp only [List.append_nil, List.append_assoc, List.singleton_append] at h2
  suffices h3 : Ev (fun k => marchlandref03_sums.l1 k X' ((A ++ y :: B).map v) i (A.length : Int) (((A ++ [y]).length + B.length : Nat) : Int)) r by
   obtain ⟨K, h2⟩ := h2 h3
   refine ⟨K + 1, fun k hk => ?_⟩
   obtain ⟨k, rfl⟩ : ∃ m, k = m + 1 := ⟨k - 1, by omega⟩
   have h2 := h2 k (by omega); dsimp only at h2
   show marchlandref03_sums.l1 (k + 1) _ _ _ _ _ = _
   rw [marchlandref03_sums.l1, if_pos (by omega), if_pos (by omega), if_pos hi, if_pos hi', e1, hx, ew, if_pos (show (v y).f0 = (v x).f0 from ky.1), if_pos (show (v y).f1 = (v x).f1 from ky.2)]
   exact h2
  have s1 : ((A ++ y :: B).map v).set (A.length : Int).toNat ⟨(v y).f0, (v y).f1, wrap64 ((v y).f2 + (v x).f2)⟩ = (A ++ plus y x :: B).map v := set4m A y B (plus y x) (by simp)
  refine Ev.step (fun k => ?_) h
  show marchlandref03_sums.l1 (k + 1) _ _ _ _ _ = _
  rw [marchlandref03_sums.l1, if_neg (by simp; omega), if_pos (by omega), if_pos (by omega), if_pos (by omega), if_pos hi, if_pos hi', e1, hx, s1]
 ·have hk' : ∀ y ∈ G, ¬ ke y x := fun y hy h => hk ⟨y, hy, h⟩
  have h1 := sums_skip hi hi' hx (c := -1) (r := r) [] G [] hk' (by simp; omega)
  simp only [List.nil_append, List.length_nil, Nat.zero_add, List.append_nil] at h1
  refine h1 ?_
  have h2 := sums_l2 X' i (r := r) G.length G x [] rfl (by omega) (by simpa using hs) (fun _ h => by cases h) hk' (by simpa using h)
  have e2 : (G.map v) ++ [(⟨(v x).f0, (v x).f1, (v x).f2⟩ : S40)] = (G ++ [x]).map v := by simp [v]
  refine Ev.step (fun k => ?_) h2
  show marchlandref03_sums.l1 (k + 1) _ _ _ _ _ = _
  have ew : wrap64 ((((G ++ [x]).map v).length : Int) - 1) = (G.length : Int) := by rw [show ((G ++ [x]).map v).length = G.length + 1 by simp]; exact w64p (by omega)
  rw [marchlandref03_sums.l1, if_neg (by simp), if_neg (by omega), if_pos hi, if_pos hi', if_pos (by simp; omega), hx, e2, Option.bind_some, ew]
theorem sums_l0 (X : List S50) (hl : Short X.length) : ∀ (r pre G : List S50), X = pre ++ r → Str G → G.length ≤ pre.length →
  Ev (fun k => marchlandref03_sums.l0 k (X.map v) (G.map v) (pre.length : Int)) (let T := r.foldl (fun a x => ins x a) G; if good T = true then ((fin T).map v, true) else ([], false)) := by
 unfold Short at hl
 intro r
 induction r with
 | nil =>
  intro pre G e hs hg
  have ll : X.length = pre.length := by rw [e]; simp
  refine Ev.step (f := fun k => marchlandref03_sums.l3 k (G.map v) [] 0) (fun k => ?_) (sums_l3 G (by unfold Short; omega) G [] [] rfl (by simp))
  show marchlandref03_sums.l0 (k + 1) _ _ _ = _
  rw [marchlandref03_sums.l0, if_neg (by simp; omega)]
 | cons x r ih =>
  intro pre G e hs hg
  have ll : X.length = pre.length + (r.length + 1) := by rw [e]; simp
  have lm : (X.map v).length = X.length := by simp
  have h := ih (pre ++ [x]) (ins x G) (by simp [e]) (ins_str hs) (by have := ins_len (x := x) (l := G); simp; omega)
  have ew : wrap64 ((pre.length : Int) + 1) = ((pre ++ [x]).length : Int) := by rw [w64s (by omega)]; simp
  rw [← ew] at h
  refine Ev.step (fun k => ?_) (sums_step (X' := X.map v) (i := (pre.length : Int)) (x := x) (by omega) (by omega) (by rw [e]; exact rd4m _ _ _ rfl) hs (by unfold Short; omega) h)
  show marchlandref03_sums.l0 (k + 1) _ _ _ = _
  rw [marchlandref03_sums.l0, if_pos (by omega)]
theorem sums_ev (X : List S50) (hl : Short X.length) : Ev (fun k => marchlandref03_sums.f k (X.map v)) (if good (tot X) = true then ((fin (tot X)).map v, true) else ([], false)) :=
 sums_l0 X hl X [] [] rfl List.Pairwise.nil (by simp)
end Go.Proofs.Ytgeldmhgbnamcaa.Pure
end
section
namespace Go.Proofs.Ytgeldmhgbnamcaa.P
open Go.RowKit Go.Proofs.YtgeldmhgbnamcaaW.PrintWords Go.Proofs.YtgeldmhgbnamcaaW.PrintLast Go.Proofs.YtgeldmhgbnamcaaW.PrintMore
attribute [local go_sem] max2_int min2_int max_two min_two max_three min_three max_four min_four   -- for this text's walks alone
set_option linter.unusedVariables false
set_option linter.unusedSimpArgs false
end Go.Proofs.Ytgeldmhgbnamcaa.P
end
section
namespace Go.Proofs.Ytgeldmhgbnamcaa.Pure
open Go.RowKit Go.Proofs.Ytgeldmhgbnamcaa.P Go.Proofs.YtgeldmhgbnamcaaW.PrintWords Go.Proofs.YtgeldmhgbnamcaaW.PrintLast
set_option linter.unusedVariables false
set_option linter.unusedSimpArgs false
def ofv (X : List S50) (q : S50) : Int := match X.find? (fun y => decide (ke y q)) with
 | some y => y.f2
 | none => 0
theorem mid {i j : Nat} (h : i < j) (hj : j ≤ 4000000000000000000) : wrap64 ((IntKind.u64.wrap (wrap64 ((i : Int) + (j : Int)))) / 2) = ((i + (j - i) / 2 : Nat) : Int) := by
 have e : wrap64 ((i : Int) + (j : Int)) = ((i + j : Nat) : Int) := by unfold wrap64; omega
 have e2 : IntKind.u64.wrap ((i + j : Nat) : Int) = ((i + j : Nat) : Int) := by simp [IntKind.wrap, IntKind.bits, IntKind.signed]; omega
 rw [e, e2]; unfold wrap64; omega
theorem find_l0 (X : List S50) (q : S50) (hs : Str X) (hl : X.length ≤ 4000000000000000000) : ∀ (n : Nat) (A M C : List S50), M.length ≤ n → X = A ++ M ++ C → (∀ a ∈ A, kl a q) → (∀ c ∈ C, ¬ kl c q) →
  ∃ A' C' : List S50, X = A' ++ C' ∧ (∀ a ∈ A', kl a q) ∧ (∀ c ∈ C', ¬ kl c q) ∧ Ev (fun k => batch_Change_55.l0 k X (X.length : Int) (A.length : Int) ((A.length + M.length : Nat) : Int) q.f0 q.f1 q.f2) ((A'.length : Int), match C' with | [] => false | c :: _ => decide (ke c q)) := by
 intro n
 induction n with
 | zero =>
  intro A M C hM e hA hC
  obtain rfl : M = [] := List.eq_nil_of_length_eq_zero (by omega)
  rw [List.append_nil] at e
  refine ⟨A, C, e, hA, hC, ?_⟩
  cases C with
  | nil =>
   refine ⟨1, fun k hk => ?_⟩
   obtain ⟨k, rfl⟩ : ∃ m, k = m + 1 := ⟨k - 1, by omega⟩
   show batch_Change_55.l0 (k + 1) _ _ _ _ _ _ _ = _
   rw [batch_Change_55.l0, if_neg (by simp), if_neg (by rw [e]; simp)]
  | cons c C =>
   obtain ⟨K, o⟩ := order_at c q
   refine ⟨K + 1, fun k hk => ?_⟩
   obtain ⟨k, rfl⟩ : ∃ m, k = m + 1 := ⟨k - 1, by omega⟩
   have o := o k (by omega); dsimp only at o
   have ll : X.length = A.length + (C.length + 1) := by rw [e]; simp
   have e1 : rd_T50 X (A.length : Int) = c := by rw [e]; exact rd5 _ _ _ rfl
   show batch_Change_55.l0 (k + 1) _ _ _ _ _ _ _ = _
   rw [batch_Change_55.l0, if_neg (by simp), if_pos (by omega), if_pos (by omega), if_pos (by omega), e1, o, Option.bind_some]
   by_cases hk : ke c q
   ·have : ordv c q = 0 := ordv_zero.2 hk
    simp [this, hk]
   ·have : ¬ ordv c q = 0 := fun h => hk (ordv_zero.1 h)
    simp [this, hk]
 | succ n ih =>
  intro A M C hM e hA hC
  by_cases hm : M.length ≤ n
  ·exact ih A M C hm e hA hC
  have hp : M.length / 2 < M.length := by omega
  have ed : M = M.take (M.length / 2) ++ M[M.length / 2] :: M.drop (M.length / 2 + 1) := by rw [List.getElem_cons_drop]; simp
  have l1 : (M.take (M.length / 2)).length = M.length / 2 := by simp; omega
  generalize M.take (M.length / 2) = M1 at *
  generalize M[M.length / 2] = m at *
  generalize M.drop (M.length / 2 + 1) = M2 at *
  have lM : M.length = M1.length + (M2.length + 1) := by rw [ed]; simp
  have ll : X.length = A.length + M.length + C.length := by rw [e]; simp only [List.length_append]
  have hmid := mid (i := A.length) (j := A.length + M.length) (by omega) (by omega)
  have ehm : A.length + (A.length + M.length - A.length) / 2 = A.length + M1.length := by omega
  rw [ehm] at hmid
  have eX : X = (A ++ M1) ++ m :: (M2 ++ C) := by rw [e, ed]; simp
  have e1 : rd_T50 X ((A.length + M1.length : Nat) : Int) = m := by rw [eX]; exact rd5 _ _ _ (by simp)
  obtain ⟨K, o⟩ := order_at m q
  have hs' : Str ((A ++ M1) ++ m :: (M2 ++ C)) := eX ▸ hs
  obtain ⟨p1, p2, p3⟩ := List.pairwise_append.1 hs'
  by_cases hk : kl m q
  ·obtain ⟨A', C', x1, x2, x3, K1, h1⟩ := ih (A ++ M1 ++ [m]) M2 C (by omega) (by rw [eX]; simp)
    (fun a ha => by
     rcases List.mem_append.1 ha with h | h
     ·exact kl_trans (p3 a h m (by simp)) hk
     ·simp at h; subst h; exact hk) hC
   refine ⟨A', C', x1, x2, x3, K + K1 + 1, fun k hk' => ?_⟩
   obtain ⟨k, rfl⟩ : ∃ m, k = m + 1 := ⟨k - 1, by omega⟩
   have o := o k (by omega); dsimp only at o
   have h1 := h1 k (by omega); dsimp only at h1
   have ea : wrap64 (((A.length + M1.length : Nat) : Int) + 1) = ((A ++ M1 ++ [m]).length : Int) := by rw [w64s (by omega)]; simp only [List.length_append, List.length_singleton]
   have eb : (((A ++ M1 ++ [m]).length + M2.length : Nat) : Int) = ((A.length + M.length : Nat) : Int) := by simp; omega
   show batch_Change_55.l0 (k + 1) _ _ _ _ _ _ _ = _
   rw [batch_Change_55.l0, if_pos (by omega), hmid, if_pos (by omega), if_pos (by omega), e1, o, Option.bind_some, if_pos (ordv_neg.2 hk), ea, ← eb]
   exact h1
  ·obtain ⟨A', C', x1, x2, x3, K1, h1⟩ := ih A M1 (m :: (M2 ++ C)) (by omega) (by rw [eX]) hA
    (fun c hc => by
     rcases List.mem_cons.1 hc with rfl | h
     ·exact hk
     ·have := (List.pairwise_cons.1 p2).1 c h; intro hk2; exact hk (kl_trans this hk2))
   refine ⟨A', C', x1, x2, x3, K + K1 + 1, fun k hk' => ?_⟩
   obtain ⟨k, rfl⟩ : ∃ m, k = m + 1 := ⟨k - 1, by omega⟩
   have o := o k (by omega); dsimp only at o
   have h1 := h1 k (by omega); dsimp only at h1
   show batch_Change_55.l0 (k + 1) _ _ _ _ _ _ _ = _
   rw [batch_Change_55.l0, if_pos (by omega), hmid, if_pos (by omega), if_pos (by omega), e1, o, Option.bind_some, if_neg (fun h => hk (ordv_neg.1 h))]
   exact h1
theorem of_ev (X : List S50) (hs : Str X) (hl : X.length ≤ 4000000000000000000) (a b : Int) : Ev (fun k => batch_Of.f k X a b) (ofv X ⟨a, b, 0⟩) := by
 obtain ⟨A, C, e, hA, hC, K, h⟩ := find_l0 X ⟨a, b, 0⟩ hs hl X.length [] X [] (Nat.le_refl _) (by simp) (fun _ h => by cases h) (fun _ h => by cases h)
 have nA : ∀ y ∈ A, ¬ ke y ⟨a, b, 0⟩ := fun y hy h => by have := hA y hy; unfold kl ke at *; omega
 have fA : A.find? (fun y => decide (ke y ⟨a, b, 0⟩)) = none := List.find?_eq_none.2 (fun y hy => by simpa using nA y hy)
 refine ⟨K, fun k hk => ?_⟩
 have h := h k hk
 simp only [List.length_nil, Nat.zero_add] at h
 have h : batch_Change_55.l0 k X (X.length : Int) 0 (X.length : Int) a b 0 = _ := h
 show batch_Of.f k X a b = _
 rw [batch_Of.f, batch_Change_55.f, h, Option.bind_some]
 cases C with
 | nil =>
  have : ofv X ⟨a, b, 0⟩ = 0 := by unfold ofv; rw [e, List.find?_append, fA]; rfl
  simp [this]
 | cons c C =>
  have ll : X.length = A.length + (C.length + 1) := by rw [e]; simp
  have e1 : rd_T50 X (A.length : Int) = c := by rw [e]; exact rd5 _ _ _ rfl
  by_cases hk : ke c ⟨a, b, 0⟩
  ·have : ofv X ⟨a, b, 0⟩ = c.f2 := by unfold ofv; rw [e, List.find?_append, fA]; simp [hk]
   dsimp only
   rw [if_pos (decide_eq_true hk), if_pos (by omega), if_pos (by omega), e1, this]
  ·have : ofv X ⟨a, b, 0⟩ = 0 := by
    have fC : (c :: C).find? (fun y => decide (ke y ⟨a, b, 0⟩)) = none := List.find?_eq_none.2 (fun y hy => by
     have hs' : Str (A ++ c :: C) := e ▸ hs
     have p2 := (List.pairwise_append.1 hs').2.1
     rcases List.mem_cons.1 hy with rfl | hy
     ·simpa using hk
     ·have a1 := (List.pairwise_cons.1 p2).1 y hy
      have a2 := hC c (by simp)
      have : ¬ ke y ⟨a, b, 0⟩ := by unfold kl ke at *; omega
      simpa using this)
    unfold ofv; rw [e, List.find?_append, fA, fC]; rfl
   dsimp only
   rw [if_neg (fun h => hk (of_decide_eq_true h)), this]
theorem ofv_mem {X : List S50} {q : S50} (h : ofv X q ≠ 0) : ∃ y ∈ X, ke y q ∧ y.f2 = ofv X q := by
 unfold ofv at *
 split at h
 ·rename_i y hy
  exact ⟨y, List.mem_of_find?_eq_some hy, by simpa using List.find?_some hy, by simp⟩
 ·simp at h
theorem ofv_of_mem {X : List S50} (hs : Str X) {y : S50} (hy : y ∈ X) (b : Int) : ofv X ⟨y.f0, y.f1, b⟩ = y.f2 := by
 unfold ofv
 cases h : X.find? (fun z => decide (ke z ⟨y.f0, y.f1, b⟩)) with
 | none => have := List.find?_eq_none.1 h y hy; simp [ke] at this
 | some z =>
  have hz := List.mem_of_find?_eq_some h
  have kz : ke z ⟨y.f0, y.f1, b⟩ := by simpa using List.find?_some h
  have : z = y := by
   obtain ⟨A, B, rfl⟩ := List.append_of_mem hy
   obtain ⟨_, p2, p3⟩ := List.pairwise_append.1 hs
   rcases List.mem_append.1 hz with hz | hz
   ·have := p3 z hz y (by simp); unfold kl ke at *; simp at kz; omega
   ·rcases List.mem_cons.1 hz with rfl | hz
    ·rfl
    ·have := (List.pairwise_cons.1 p2).1 z hz; unfold kl ke at *; simp at kz; omega
  simp [this]
def fix1 (x : S40) : S50 := ⟨wrap64 (Int.tmod (IntKind.u64.wrap x.f0) 64), Int.tmod x.f1 18446744073709551615, Int.tmod x.f2 1000⟩
def sumk (l : List S50) : List S50 := if good (tot l) = true then fin (tot l) else []
theorem fix_l0 (X : List S40) : ∀ (r pre : List S40), X = pre ++ r → pre.length ≤ 12 → Ev (fun k => marchlandref03_Fix.l0 k X ((pre.map fix1).map v) (pre.length : Int)) ((sumk ((X.take 12).map fix1)).map v) := by
 have fin_ : ∀ pre : List S40, pre.length ≤ 12 → Ev (fun k => (marchlandref03_sums.f k ((pre.map fix1).map v)).bind fun b => some b.1) ((sumk (pre.map fix1)).map v) := by
  intro pre h
  have := Ev.bind (sums_ev (pre.map fix1) (by unfold Short; simp; omega)) (Ev.now _) (f := fun _ b => some b.1)
  unfold sumk
  split
  ·rename_i g; rw [if_pos g] at this; exact this
  ·rename_i g; rw [if_neg g] at this; exact this
 intro r
 induction r with
 | nil =>
  intro pre e hp
  obtain ⟨K, h⟩ := fin_ pre hp
  refine ⟨K + 1, fun k hk => ?_⟩
  obtain ⟨k, rfl⟩ : ∃ m, k = m + 1 := ⟨k - 1, by omega⟩
  have h := h k (by omega); dsimp only at h
  have e' : X.take 12 = pre := by rw [e, List.append_nil]; exact List.take_of_length_le hp
  show marchlandref03_Fix.l0 (k + 1) _ _ _ = _
  rw [marchlandref03_Fix.l0, if_neg (by subst e; simp), e']
  exact h
 | cons x r ih =>
  intro pre e hp
  have ll : X.length = pre.length + (r.length + 1) := by rw [e]; simp
  by_cases h12 : pre.length = 12
  ·obtain ⟨K, h⟩ := fin_ pre hp
   refine ⟨K + 1, fun k hk => ?_⟩
   obtain ⟨k, rfl⟩ : ∃ m, k = m + 1 := ⟨k - 1, by omega⟩
   have h := h k (by omega); dsimp only at h
   have e' : X.take 12 = pre := by rw [e, ← h12]; simp
   show marchlandref03_Fix.l0 (k + 1) _ _ _ = _
   rw [marchlandref03_Fix.l0, if_pos (by omega), if_neg (by omega), e']
   exact h
  ·obtain ⟨K, h⟩ := ih (pre ++ [x]) (by simp [e]) (by simp; omega)
   refine ⟨K + 1, fun k hk => ?_⟩
   obtain ⟨k, rfl⟩ : ∃ m, k = m + 1 := ⟨k - 1, by omega⟩
   have h := h k (by omega); dsimp only at h
   have e1 : rd_T40 X (pre.length : Int) = x := by rw [e]; exact rd4 _ _ _ rfl
   have ew : wrap64 ((pre.length : Int) + 1) = ((pre ++ [x]).length : Int) := by rw [w64s (by omega)]; simp
   have em : (pre.map fix1).map v ++ [(⟨wrap64 (Int.tmod (IntKind.u64.wrap x.f0) 64), Int.tmod x.f1 18446744073709551615, Int.tmod x.f2 1000⟩ : S40)] = ((pre ++ [x]).map fix1).map v := by simp [v, fix1]
   show marchlandref03_Fix.l0 (k + 1) _ _ _ = _
   rw [marchlandref03_Fix.l0, if_pos (by omega), if_pos (by omega), if_pos (by omega), if_pos (by simp; omega), e1, em, ew]
   exact h
theorem fix_ev (X : List S40) : Ev (fun k => marchlandref03_Fix.f k X) ((sumk ((X.take 12).map fix1)).map v) := fix_l0 X X [] rfl (by simp)
theorem sumk_str (l : List S50) : Str (sumk l) := by unfold sumk; split; exact (tot_str l).sublist List.filter_sublist; exact List.Pairwise.nil
theorem sumk_len (l : List S50) : (sumk l).length ≤ l.length := by
 unfold sumk; split
 ·have t1 := fin_len (tot l); have t2 := tot_len l; omega
 ·simp
theorem sumk_nz {l : List S50} {x : S50} (h : x ∈ sumk l) : x.f2 ≠ 0 := by
 unfold sumk at h; split at h
 ·exact of_decide_eq_true (List.mem_filter.1 h).2
 ·cases h
theorem wrongv_key {x : S50} (h0 : 0 ≤ x.f0 ∧ x.f0 < 64) (h1 : x.f1 ≠ 18446744073709551615) (h2 : wi x.f2) : wrongv x = 0 := by unfold wrongv; rw [if_neg (by omega), if_neg h1, if_pos h2]
theorem fix1_key (x : S40) (h : wfC x) : (0 ≤ (fix1 x).f0 ∧ (fix1 x).f0 < 64) ∧ (fix1 x).f1 ≠ 18446744073709551615 := by
 obtain ⟨_, ⟨a, b⟩, _⟩ := h
 have hp : 0 ≤ IntKind.u64.wrap x.f0 := by simp [IntKind.wrap, IntKind.bits, IntKind.signed]; omega
 have h1 := Int.tmod_lt_of_pos (IntKind.u64.wrap x.f0) (b := 64) (by omega)
 have h2 := Int.tmod_nonneg (b := 64) hp (a := IntKind.u64.wrap x.f0)
 have h3 := Int.tmod_lt_of_pos x.f1 (b := 18446744073709551615) (by omega)
 simp only [fix1]
 generalize Int.tmod (IntKind.u64.wrap x.f0) 64 = z at *
 have : wrap64 z = z := by unfold wrap64; omega
 rw [this]
 exact ⟨⟨h2, h1⟩, by omega⟩
theorem sumk_right {l : List S50} (h : ∀ x ∈ l, (0 ≤ x.f0 ∧ x.f0 < 64) ∧ x.f1 ≠ 18446744073709551615) : ∀ x ∈ sumk l, wrongv x = 0 := by
 intro x hx
 unfold sumk at hx; split at hx
 ·rename_i g
  obtain ⟨hm, hz⟩ := List.mem_filter.1 hx
  obtain ⟨y, hy, ek⟩ := tot_mem hm
  have hy := h y hy
  exact wrongv_key (by rw [ek.1]; exact hy.1) (by rw [ek.2]; exact hy.2) (of_decide_eq_true (List.all_eq_true.1 g x hm))
 ·cases hx
def Rt (X : List S50) : Prop := Str X ∧ (∀ x ∈ X, wrongv x = 0 ∧ x.f2 ≠ 0)
theorem sumk_rt {l : List S50} (h : ∀ x ∈ l, (0 ≤ x.f0 ∧ x.f0 < 64) ∧ x.f1 ≠ 18446744073709551615) : Rt (sumk l) := ⟨sumk_str l, fun x hx => ⟨sumk_right h x hx, sumk_nz hx⟩⟩
theorem concat_ev (a b : List S50) (h : Short (a.length + b.length)) : Ev (fun k => batch_Change_57.f k [a, b]) (a ++ b) := by
 unfold Short at h
 refine ⟨8, fun k hk => ?_⟩
 obtain ⟨k, rfl⟩ : ∃ m, k = m + 8 := ⟨k - 8, by omega⟩
 have w0 : wrap64 (0 + 1) = 1 := by unfold wrap64; omega
 have w1 : wrap64 (1 + 1) = 2 := by unfold wrap64; omega
 have a0 : wrap64 (0 + (a.length : Int)) = a.length := by unfold wrap64; omega
 have a1 : wrap64 ((a.length : Int) + (b.length : Int)) = ((a.length + b.length : Nat) : Int) := by unfold wrap64; omega
 have r0 : rd_L4 [a, b] 0 = a := rfl
 have r1 : rd_L4 [a, b] 1 = b := rfl
 have n2 : (([a, b] : List (List S50)).length : Int) = 2 := rfl
 show batch_Change_57.f (k + 8) [a, b] = _
 rw [batch_Change_57.f, n2]
 rw [batch_Change_57.l0, n2, if_pos (by omega), if_pos (by omega), if_pos (by omega), r0, a0, if_neg (by omega), w0]
 rw [batch_Change_57.l0, n2, if_pos (by omega), if_pos (by omega), if_pos (by omega), r1, a1, if_neg (by omega), w1]
 rw [batch_Change_57.l0, if_neg (by omega), slices_GrowNil.f, if_pos (by omega), if_pos (by omega), Option.bind_some, n2]
 rw [batch_Change_57.l1, n2, if_pos (by omega), if_pos (by omega), if_pos (by omega), r0, if_pos (by simp; omega), w0]
 rw [batch_Change_57.l1, n2, if_pos (by omega), if_pos (by omega), if_pos (by omega), r1, if_pos (by simp; omega), w1]
 rw [batch_Change_57.l1, if_neg (by omega)]
 simp
theorem merge_ev {a b : List S50} (hs : Sorts (a ++ b)) (h : Short (a.length + b.length)) : Ev (fun k => batch_Merge.f k a b) (sumv (a ++ b)) := by
 obtain ⟨s, K1, h1⟩ := summed_ev hs (by unfold Short at *; simpa using h)
 obtain ⟨K2, h2⟩ := concat_ev a b h
 refine ⟨K1 + K2, fun k hk => ?_⟩
 have h1 := h1 k (by omega); have h2 := h2 k (by omega); dsimp only at h1 h2
 show batch_Merge.f k a b = _
 rw [batch_Merge.f, h2, Option.bind_some, h1, Option.bind_some]
 unfold sumo sumv
 split <;> simp
def applyv (a b : List S50) : List S50 × Int := if b.any (fun x => decide (wrap64 (ofv a ⟨x.f0, x.f1, 0⟩ + x.f2) < 0)) = true then ([], 11) else sumv (a ++ b)
theorem below_ev {a : List S50} (ha : Str a) (hl : a.length ≤ 4000000000000000000) (x : S50) : Ev (fun k => bag_below k a x) (decide (wrap64 (ofv a ⟨x.f0, x.f1, 0⟩ + x.f2) < 0)) := Ev.bind (of_ev a ha hl x.f0 x.f1) (Ev.now _)
theorem all_below {a : List S50} (ha : Str a) (hl : a.length ≤ 4000000000000000000) : ∀ b : List S50, ∃ K, ∀ k, K ≤ k → ∀ x ∈ b, bag_below k a x = some (decide (wrap64 (ofv a ⟨x.f0, x.f1, 0⟩ + x.f2) < 0)) := by
 intro b
 induction b with
 | nil => exact ⟨0, fun k _ x h => by cases h⟩
 | cons y b ih =>
  obtain ⟨K, h⟩ := ih
  obtain ⟨K1, h1⟩ := below_ev ha hl y
  refine ⟨K + K1, fun k hk x hx => ?_⟩
  rcases List.mem_cons.1 hx with rfl | hx
  ·exact h1 k (by omega)
  ·exact h k (by omega) x hx
theorem apply_ev {a b : List S50} (ha : Str a) (hs : Sorts (a ++ b)) (h : Short (a.length + b.length)) : Ev (fun k => bag_Apply.f k a b) (applyv a b) := by
 unfold Short at h
 obtain ⟨K, h1⟩ := all_below ha (by omega) b
 obtain ⟨K2, h2⟩ := merge_ev hs h
 refine ⟨K + K2, fun k hk => ?_⟩
 have h1 := h1 k (by omega); have h2 := h2 k (by omega); dsimp only at h2
 show bag_Apply.f k a b = _
 have c1 : b.all (fun x => (bag_below k a x).isSome) = true := List.all_eq_true.2 (fun x hx => by rw [h1 x hx]; rfl)
 have c2 : b.any (fun x => bag_below k a x == some true) = b.any (fun x => decide (wrap64 (ofv a ⟨x.f0, x.f1, 0⟩ + x.f2) < 0)) := by
  rw [Bool.eq_iff_iff, List.any_eq_true, List.any_eq_true]
  constructor
  ·rintro ⟨x, hx, h⟩; rw [h1 x hx] at h; exact ⟨x, hx, by simpa using h⟩
  ·rintro ⟨x, hx, h⟩; exact ⟨x, hx, by rw [h1 x hx, h]; rfl⟩
 rw [bag_Apply.f, if_pos c1, c2, h2]
 unfold applyv
 split <;> rfl
def leastv (p : Int) : List S50 → Int
 | [] => 18446744073709551615
 | x :: r => if x.f0 = p then x.f1 else leastv p r
theorem least_l0 (p : Int) (X : List S50) (hl : X.length ≤ 8000000000000000000) : ∀ (r pre : List S50), X = pre ++ r → Ev (fun k => bag_Least.l0 k p X (X.length : Int) (pre.length : Int)) (leastv p r) := by
 intro r
 induction r with
 | nil =>
  intro pre e
  refine ⟨1, fun k hk => ?_⟩
  obtain ⟨k, rfl⟩ : ∃ m, k = m + 1 := ⟨k - 1, by omega⟩
  show bag_Least.l0 (k + 1) _ _ _ _ = _
  rw [bag_Least.l0, if_neg (by subst e; simp)]
  rfl
 | cons x r ih =>
  intro pre e
  obtain ⟨K, h⟩ := ih (pre ++ [x]) (by simp [e])
  have ll : X.length = pre.length + (r.length + 1) := by rw [e]; simp
  have e1 : rd_T50 X (pre.length : Int) = x := by rw [e]; exact rd5 _ _ _ rfl
  have ew : wrap64 ((pre.length : Int) + 1) = ((pre ++ [x]).length : Int) := by rw [w64s (by omega)]; simp
  refine ⟨K + 1, fun k hk => ?_⟩
  obtain ⟨k, rfl⟩ : ∃ m, k = m + 1 := ⟨k - 1, by omega⟩
  have h := h k (by omega); dsimp only at h
  show bag_Least.l0 (k + 1) _ _ _ _ = _
  rw [bag_Least.l0, if_pos (by omega), if_pos (by omega), if_pos (by omega), e1, ew, h]
  simp only [leastv]
  split <;> rfl
theorem least_ev (X : List S50) (hl : X.length ≤ 8000000000000000000) (p : Int) : Ev (fun k => bag_Least.f k X p) (leastv p X) := least_l0 p X hl X [] rfl
def fix4 (x : S40) : S40 := ⟨x.f0, x.f1, wrap64 (1 + (wrap64 (Int.tmod (IntKind.u64.wrap x.f2) 5)))⟩
theorem fix4_val (x : S40) : 1 ≤ (fix4 x).f2 ∧ (fix4 x).f2 ≤ 5 := by
 have hp : 0 ≤ IntKind.u64.wrap x.f2 := by simp [IntKind.wrap, IntKind.bits, IntKind.signed]; omega
 have h1 := Int.tmod_lt_of_pos (IntKind.u64.wrap x.f2) (b := 5) (by omega)
 have h2 := Int.tmod_nonneg (b := 5) hp (a := IntKind.u64.wrap x.f2)
 simp only [fix4]
 generalize Int.tmod (IntKind.u64.wrap x.f2) 5 = z at *
 have : wrap64 z = z := by unfold wrap64; omega
 rw [this]
 have : wrap64 (1 + z) = 1 + z := by unfold wrap64; omega
 rw [this]; omega
theorem fix4_wf {x : S40} (h : wfC x) : wfC (fix4 x) := ⟨h.1, h.2.1, by have := fix4_val x; omega⟩
theorem fix4_l0 (X : List S40) : ∀ (r pre : List S40), X = pre ++ r → pre.length ≤ 12 → Ev (fun k => marchlandref04_Fix.l0 k X (pre.map fix4) (pre.length : Int)) ((sumk (((X.take 12).map fix4).map fix1)).map v) := by
 have fin_ : ∀ pre : List S40, pre.length ≤ 12 → Ev (fun k => (marchlandref03_Fix.f k (pre.map fix4)).bind fun b => some b) ((sumk ((pre.map fix4).map fix1)).map v) := by
  intro pre h
  have := Ev.bind (fix_ev (pre.map fix4)) (Ev.now _) (f := fun _ b => some b)
  rwa [List.take_of_length_le (by simpa using h)] at this
 intro r
 induction r with
 | nil =>
  intro pre e hp
  obtain ⟨K, h⟩ := fin_ pre hp
  refine ⟨K + 1, fun k hk => ?_⟩
  obtain ⟨k, rfl⟩ : ∃ m, k = m + 1 := ⟨k - 1, by omega⟩
  have h := h k (by omega); dsimp only at h
  have e' : X.take 12 = pre := by rw [e, List.append_nil]; exact List.take_of_length_le hp
  show marchlandref04_Fix.l0 (k + 1) _ _ _ = _
  rw [marchlandref04_Fix.l0, if_neg (by subst e; simp), e']
  exact h
 | cons x r ih =>
  intro pre e hp
  have ll : X.length = pre.length + (r.length + 1) := by rw [e]; simp
  by_cases h12 : pre.length = 12
  ·obtain ⟨K, h⟩ := fin_ pre hp
   refine ⟨K + 1, fun k hk => ?_⟩
   obtain ⟨k, rfl⟩ : ∃ m, k = m + 1 := ⟨k - 1, by omega⟩
   have h := h k (by omega); dsimp only at h
   have e' : X.take 12 = pre := by rw [e, ← h12]; simp
   show marchlandref04_Fix.l0 (k + 1) _ _ _ = _
   rw [marchlandref04_Fix.l0, if_pos (by omega), if_neg (by omega), e']
   exact h
  ·obtain ⟨K, h⟩ := ih (pre ++ [x]) (by simp [e]) (by simp; omega)
   refine ⟨K + 1, fun k hk => ?_⟩
   obtain ⟨k, rfl⟩ : ∃ m, k = m + 1 := ⟨k - 1, by omega⟩
   have h := h k (by omega); dsimp only at h
   have e1 : rd_T40 X (pre.length : Int) = x := by rw [e]; exact rd4 _ _ _ rfl
   have ew : wrap64 ((pre.length : Int) + 1) = ((pre ++ [x]).length : Int) := by rw [w64s (by omega)]; simp
   have em : pre.map fix4 ++ [(⟨x.f0, x.f1, wrap64 (1 + (wrap64 (Int.tmod (IntKind.u64.wrap x.f2) 5)))⟩ : S40)] = (pre ++ [x]).map fix4 := by simp [fix4]
   show marchlandref04_Fix.l0 (k + 1) _ _ _ = _
   rw [marchlandref04_Fix.l0, if_pos (by omega), if_pos (by omega), if_pos (by omega), if_pos (by simp; omega), e1, em, ew]
   exact h
theorem fix4_ev (X : List S40) : Ev (fun k => marchlandref04_Fix.f k X) ((sumk (((X.take 12).map fix4).map fix1)).map v) := fix4_l0 X X [] rfl (by simp)
theorem ins_bound {x : S50} {B : Int} (hB : 0 ≤ B ∧ B ≤ 1000000) (hx : 1 ≤ x.f2 ∧ x.f2 ≤ 5) : ∀ {l : List S50}, (∀ y ∈ l, 1 ≤ y.f2 ∧ y.f2 ≤ B) → ∀ y ∈ ins x l, 1 ≤ y.f2 ∧ y.f2 ≤ B + 5 := by
 intro l
 induction l with
 | nil => intro _ y hy; simp only [ins, List.mem_singleton] at hy; subst hy; omega
 | cons z l ih =>
  intro h y hy
  have hz := h z (by simp)
  have hl := fun w hw => h w (List.mem_cons_of_mem z hw)
  simp only [ins] at hy
  split at hy
  ·rcases List.mem_cons.1 hy with rfl | hy
   ·have : wrap64 (z.f2 + x.f2) = z.f2 + x.f2 := by unfold wrap64; omega
    simp only [plus, this]; omega
   ·have := hl y hy; omega
  ·split at hy
   ·rcases List.mem_cons.1 hy with rfl | hy
    ·omega
    ·have := h y hy; omega
   ·rcases List.mem_cons.1 hy with rfl | hy
    ·omega
    ·exact ih hl y hy
theorem fold_bound : ∀ (l a : List S50) (B : Int), (0 ≤ B ∧ B + 5 * l.length ≤ 1000000) → (∀ x ∈ l, 1 ≤ x.f2 ∧ x.f2 ≤ 5) → (∀ y ∈ a, 1 ≤ y.f2 ∧ y.f2 ≤ B) → ∀ y ∈ l.foldl (fun a x => ins x a) a, 1 ≤ y.f2 ∧ y.f2 ≤ B + 5 * l.length := by
 intro l
 induction l with
 | nil => intro a B _ _ h y hy; have := h y hy; simp; omega
 | cons x l ih =>
  intro a B hB hl ha y hy
  simp only [List.length_cons] at hB ⊢
  have := ih (ins x a) (B + 5) (by omega) (fun z hz => hl z (by simp [hz])) (ins_bound (by omega) (hl x (by simp)) ha) y hy
  omega
theorem fix1_f2 {x : S40} (h : 1 ≤ x.f2 ∧ x.f2 ≤ 5) : 1 ≤ (fix1 x).f2 ∧ (fix1 x).f2 ≤ 5 := by
 have : Int.tmod x.f2 1000 = x.f2 := Int.tmod_eq_of_lt (by omega) (by omega)
 simp only [fix1, this]; exact h
theorem fix4_pos (X : List S40) : ∀ y ∈ sumk (((X.take 12).map fix4).map fix1), 1 ≤ y.f2 ∧ y.f2 ≤ 60 := by
 intro y hy
 have hm : y ∈ tot (((X.take 12).map fix4).map fix1) := by
  unfold sumk at hy; split at hy
  ·exact (List.mem_filter.1 hy).1
  ·cases hy
 have hl : (((X.take 12).map fix4).map fix1).length ≤ 12 := by simp only [List.length_map, List.length_take]; omega
 have := fold_bound (((X.take 12).map fix4).map fix1) [] 0 (by omega) (fun x hx => by
  obtain ⟨z, hz, rfl⟩ := List.mem_map.1 hx
  obtain ⟨w, hw, rfl⟩ := List.mem_map.1 hz
  exact fix1_f2 (fix4_val w)) (fun _ h => by cases h) y hm
 omega
theorem fix4_rt {X : List S40} (h : ∀ y ∈ X, wfC y) : Rt (sumk (((X.take 12).map fix4).map fix1)) := sumk_rt (fun x hx => by
 obtain ⟨y, hy, rfl⟩ := List.mem_map.1 hx
 obtain ⟨w, hw, rfl⟩ := List.mem_map.1 hy
 exact fix1_key _ (fix4_wf (h w (List.mem_of_mem_take hw))))
theorem fix4_len (X : List S40) : (sumk (((X.take 12).map fix4).map fix1)).length ≤ 12 := by
 have := sumk_len (((X.take 12).map fix4).map fix1); rw [List.length_map, List.length_map, List.length_take] at this; omega
open Go.RowKit Go.Proofs.Ytgeldmhgbnamcaa.P Go.Proofs.YtgeldmhgbnamcaaW.PrintWords Go.Proofs.YtgeldmhgbnamcaaW.PrintLast Go.Proofs.YtgeldmhgbnamcaaW.PrintMore
open FW
theorem leastm_le {p : Int} : ∀ {X : List S50}, Str X → ∀ x ∈ X, x.f0 = p → leastv p X ≤ x.f1
 | y :: X, hs, x, hx, h => by
  obtain ⟨h1, h2⟩ := List.pairwise_cons.1 hs
  simp only [leastv]
  by_cases c : y.f0 = p
  ·rw [if_pos c]
   rcases List.mem_cons.1 hx with rfl | hx
   ·exact Int.le_refl _
   ·have := h1 x hx; unfold kl at this; omega
  ·rw [if_neg c]
   rcases List.mem_cons.1 hx with rfl | hx
   ·exact absurd h c
   ·exact leastm_le h2 x hx h
theorem leastm_mem (p : Int) : ∀ X : List S50, leastv p X = N ∨ ∃ x ∈ X, x.f0 = p ∧ leastv p X = x.f1
 | [] => Or.inl rfl
 | y :: X => by
  simp only [leastv]
  by_cases c : y.f0 = p
  ·rw [if_pos c]; exact Or.inr ⟨y, List.mem_cons_self, c, rfl⟩
  ·rw [if_neg c]
   rcases leastm_mem p X with h | ⟨x, hx, h1, h2⟩
   ·exact Or.inl h
   ·exact Or.inr ⟨x, List.mem_cons_of_mem _ hx, h1, h2⟩
theorem leastm_in {X : List S50} (h : ∀ x ∈ X, In x.f1) (p : Int) : In (leastv p X) := by
 rcases leastm_mem p X with e | ⟨x, hx, _, e⟩
 ·rw [e]; exact in_N
 ·rw [e]; exact h x hx
def fr (b : List S50) (W : Mat) : Nat → Nat → Int
 | 0, _ => N
 | f + 1, c => min (fr b W f c) (pl (leastv (f : Int) b) (W f c))
theorem le_fr (b : List S50) (W : Mat) (z : Int) (c : Nat) : ∀ f, z ≤ fr b W f c ↔ z ≤ N ∧ ∀ g, g < f → z ≤ pl (leastv (g : Int) b) (W g c)
 | 0 => ⟨fun h => ⟨h, fun g hg => by omega⟩, fun h => h.1⟩
 | f + 1 => by
  have ih := le_fr b W z c f
  show z ≤ min _ _ ↔ _
  constructor
  ·intro h
   obtain ⟨h1, h2⟩ := ih.1 (by omega)
   refine ⟨h1, fun g hg => ?_⟩
   by_cases e : g = f
   ·subst e; omega
   ·exact h2 g (by omega)
  ·rintro ⟨h1, h2⟩
   have h3 := ih.2 ⟨h1, fun g hg => h2 g (by omega)⟩
   have h4 := h2 f (by omega)
   omega
section
variable {n : Nat} {W : Mat} {b : List S50}
theorem fr_in (hb : ∀ x ∈ b, In x.f1) (hW : ∀ i j, i < n → j < n → In (W i j)) {c : Nat} (hc : c < n) : ∀ f, f ≤ n → In (fr b W f c)
 | 0, _ => in_N
 | f + 1, h => by
  have h1 := fr_in hb hW hc f (by omega)
  have h2 := pl_in (leastm_in hb (f : Int)) (hW f c (by omega) hc)
  show In (min _ _)
  unfold In at *; omega
theorem of_l1 (hn : n ≤ 1000) (hb : ∀ x ∈ b, In x.f1) (hW : ∀ i j, i < n → j < n → In (W i j)) {f : Nat} (hf : f < n) (R : List Int) (h : Ev (fun k => front_Of.l0 k (mat n W) b (Ls n (fr b W (f + 1))) (n : Int) ((f + 1 : Nat) : Int)) R) :
  ∀ d j : Nat, j + d = n → Ev (fun k => front_Of.l1 k (mat n W) b (Ls n fun c => if c < j then fr b W (f + 1) c else fr b W f c) (leastv (f : Int) b) (n : Int) (f : Int) (Ls n (W f)) (n : Int) (j : Int)) R
 | 0, j, hj => by
  have e : (Ls n fun c => if c < j then fr b W (f + 1) c else fr b W f c) = Ls n (fr b W (f + 1)) := ls_congr fun c hc => if_pos (by omega)
  refine Ev.s (fun k => ?_) h
  show front_Of.l1 (k + 1) _ _ _ _ _ _ _ _ _ = _
  rw [front_Of.l1, if_neg (by omega), e, w64 (by omega)]
 | d + 1, j, hj => by
  have hjn : j < n := by omega
  refine Ev.s (fun k => ?_) (of_l1 hn hb hW hf R h d (j + 1) (by omega))
  show front_Of.l1 (k + 1) _ _ _ _ _ _ _ _ _ = _
  rw [front_Of.l1, if_pos (by omega), if_pos (by omega), ls_len, if_pos (by omega), ls_len, if_pos (by omega), ls_rd n _ hjn, plus_eq (leastm_in hb _) (hW f j hf hjn), Option.bind_some, ls_rd n _ hjn, if_neg (Nat.lt_irrefl j), Int.toNat_natCast, ls_set, mn_eq, w64 (by omega)]
  have e : (Ls n fun a => if a = j then min (fr b W f j) (pl (leastv (f : Int) b) (W f j)) else if a < j then fr b W (f + 1) a else fr b W f a) = Ls n fun c => if c < j + 1 then fr b W (f + 1) c else fr b W f c := ls_congr fun a ha => by
   by_cases c1 : a = j
   ·rw [if_pos c1, if_pos (show a < j + 1 by omega), c1]; rfl
   ·rw [if_neg c1]
    by_cases c2 : a < j
    ·rw [if_pos c2, if_pos (show a < j + 1 by omega)]
    ·rw [if_neg c2, if_neg (show ¬ a < j + 1 by omega)]
  rw [e]
theorem of_l0 (hn : n ≤ 1000) (hb : ∀ x ∈ b, In x.f1) (hl : b.length ≤ 1000000) (hW : ∀ i j, i < n → j < n → In (W i j)) : ∀ d f : Nat, f + d = n → Ev (fun k => front_Of.l0 k (mat n W) b (Ls n (fr b W f)) (n : Int) (f : Int)) (Ls n (fr b W n))
 | 0, f, hf => by
  obtain rfl : f = n := by omega
  refine Ev.o (fun k => ?_)
  show front_Of.l0 (k + 1) _ _ _ _ _ = _
  rw [front_Of.l0, if_neg (by omega)]
 | d + 1, f, hf => by
  have hfn : f < n := by omega
  obtain ⟨K1, h1⟩ := of_l1 hn hb hW hfn _ (of_l0 hn hb hl hW d (f + 1) (by omega)) n 0 (by omega)
  obtain ⟨K2, h2⟩ := least_ev b (by omega) (f : Int)
  refine ⟨K1 + K2 + 1, fun k hk => ?_⟩
  obtain ⟨k, rfl⟩ : ∃ m, k = m + 1 := ⟨k - 1, by omega⟩
  have h1 := h1 k (by omega); have h2 := h2 k (by omega); dsimp only at h1 h2
  have e : (Ls n fun c => if c < 0 then fr b W (f + 1) c else fr b W f c) = Ls n (fr b W f) := ls_congr fun c hc => if_neg (Nat.not_lt_zero c)
  rw [e] at h1
  show front_Of.l0 (k + 1) _ _ _ _ _ = _
  rw [front_Of.l0, if_pos (by omega), h2, Option.bind_some, if_pos (by omega), mat_len, if_pos (by omega), mat_row n W hfn, ls_len]
  exact h1
theorem of6_ev (hn : n ≤ 1000) (hb : ∀ x ∈ b, In x.f1) (hl : b.length ≤ 1000000) (hW : ∀ i j, i < n → j < n → In (W i j)) : Ev (fun k => front_Of.f k (mat n W) b) (Ls n (fr b W n)) := by
 obtain ⟨K, h⟩ := of_l0 hn hb hl hW n 0 (by omega)
 refine ⟨K, fun k hk => ?_⟩
 show front_Of.f k (mat n W) b = _
 unfold front_Of.f
 rw [mat_len, rep_eq (by omega), Option.bind_some, ls_rep]
 exact h k hk
end
abbrev Fits (n : Nat) : Prop := n ≤ 1000000000000000000
theorem swap2 (p q r : List S50) (x y : S50) {i j : Nat} (hi : i = p.length) (hj : j = p.length + 1 + q.length) : ((p ++ x :: (q ++ y :: r)).set i y).set j x = p ++ y :: (q ++ x :: r) := by
 rw [set5 p x (q ++ y :: r) y hi]
 have := set5 (p ++ y :: q) y r x (n := j) (by simp; omega)
 simpa using this
theorem swap_l0 (P M D : List S50) {a b n : Int} (N : Nat) (hn : n = N) (ha : a = P.length) (hb : b = P.length + N + M.length) (hf : Fits (P.length + N + M.length + N)) : ∀ (A2 B2 A1 B1 : List S50), A1.length = B1.length → A2.length = B2.length → A1.length + A2.length = N →
  Ev (fun k => batch_Change_99.l0 k (P ++ (B1 ++ A2 ++ (M ++ (A1 ++ B2 ++ D)))) a b n (A1.length : Int)) (P ++ (B1 ++ B2 ++ (M ++ (A1 ++ A2 ++ D)))) := by
 unfold Fits at hf
 intro A2
 induction A2 with
 | nil =>
  intro B2 A1 B1 h1 h2 h3
  obtain rfl : B2 = [] := List.eq_nil_of_length_eq_zero h2.symm
  refine ⟨1, fun k hk => ?_⟩
  obtain ⟨k, rfl⟩ : ∃ m, k = m + 1 := ⟨k - 1, by omega⟩
  show batch_Change_99.l0 (k + 1) _ _ _ _ _ = _
  simp only [List.length_nil] at h3
  rw [batch_Change_99.l0, if_neg (by omega)]
 | cons x A2 ih =>
  intro B2 A1 B1 h1 h2 h3
  cases B2 with
  | nil => simp at h2
  | cons y B2 =>
   simp only [List.length_cons] at h2 h3
   obtain ⟨K, h⟩ := ih B2 (A1 ++ [x]) (B1 ++ [y]) (by simp; omega) (by omega) (by simp; omega)
   refine ⟨K + 1, fun k hk => ?_⟩
   obtain ⟨k, rfl⟩ : ∃ m, k = m + 1 := ⟨k - 1, by omega⟩
   have h := h k (by omega); dsimp only at h
   have eL : P ++ (B1 ++ x :: A2 ++ (M ++ (A1 ++ y :: B2 ++ D))) = (P ++ B1) ++ x :: ((A2 ++ M ++ A1) ++ y :: (B2 ++ D)) := by simp
   have eL2 : P ++ (B1 ++ [y] ++ A2 ++ (M ++ (A1 ++ [x] ++ B2 ++ D))) = (P ++ B1) ++ y :: ((A2 ++ M ++ A1) ++ x :: (B2 ++ D)) := by simp
   have ll : ((P ++ B1) ++ x :: ((A2 ++ M ++ A1) ++ y :: (B2 ++ D))).length = P.length + B1.length + 1 + A2.length + M.length + A1.length + 1 + B2.length + D.length := by simp; omega
   have wb : wrap64 (b + (A1.length : Int)) = ((P.length + N + M.length + A1.length : Nat) : Int) := by unfold wrap64; omega
   have wa : wrap64 (a + (A1.length : Int)) = ((P.length + A1.length : Nat) : Int) := by unfold wrap64; omega
   have e1 : rd_T50 ((P ++ B1) ++ x :: ((A2 ++ M ++ A1) ++ y :: (B2 ++ D))) ((P.length + A1.length : Nat) : Int) = x := rd5 _ _ _ (by simp; omega)
   have e2 : rd_T50 ((P ++ B1) ++ x :: ((A2 ++ M ++ A1) ++ y :: (B2 ++ D))) ((P.length + N + M.length + A1.length : Nat) : Int) = y := by
    have := rd5 (P ++ B1 ++ x :: (A2 ++ M ++ A1)) y (B2 ++ D) (i := ((P.length + N + M.length + A1.length : Nat) : Int)) (by simp; omega)
    simpa using this
   have s := swap2 (P ++ B1) (A2 ++ M ++ A1) (B2 ++ D) x y (i := ((P.length + A1.length : Nat) : Int).toNat) (j := ((P.length + N + M.length + A1.length : Nat) : Int).toNat) (by simp; omega) (by simp; omega)
   have ew : wrap64 ((A1.length : Int) + 1) = ((A1 ++ [x]).length : Int) := by rw [w64s (by omega)]; simp
   show batch_Change_99.l0 (k + 1) _ _ _ _ _ = _
   rw [eL, batch_Change_99.l0, if_pos (by omega), wb, wa, if_pos (by omega), if_pos (by omega), if_pos (by omega), if_pos (by omega), e1, e2, ew]
   rw [show (⟨x.f0, x.f1, x.f2⟩ : S50) = x from rfl, show (⟨y.f0, y.f1, y.f2⟩ : S50) = y from rfl, s, ← eL2, h]
   simp
theorem swap_ev (P A M B D : List S50) (h : A.length = B.length) (hf : Fits (P.length + A.length + M.length + A.length)) {a b n : Int} (ha : a = P.length) (hb : b = P.length + A.length + M.length) (hn : n = A.length) :
  Ev (fun k => batch_Change_99.f k (P ++ (A ++ (M ++ (B ++ D)))) a b n) (P ++ (B ++ (M ++ (A ++ D)))) := by
 have t := swap_l0 P M D A.length hn ha hb hf A B [] [] rfl h (by simp)
 simp only [List.nil_append, List.append_assoc, List.length_nil] at t
 exact t
theorem rot_l0 (m : Int) : ∀ (n : Nat) (P U V D : List S50), U.length + V.length ≤ n → U ≠ [] → V ≠ [] → Fits (P.length + U.length + V.length) → m = P.length + U.length →
  Ev (fun k => batch_Change_98.l0 k (P ++ (U ++ (V ++ D))) m (U.length : Int) (V.length : Int)) (P ++ (V ++ (U ++ D))) := by
 intro n
 induction n with
 | zero => intro P U V D h hU hV; exact absurd (List.eq_nil_of_length_eq_zero (by omega)) hU
 | succ n ih =>
  intro P U V D h hU hV hf hm
  have u0 := List.length_pos_iff.2 hU
  have v0 := List.length_pos_iff.2 hV
  have hf' := hf
  unfold Fits at hf'
  have w1 : wrap64 (m - (U.length : Int)) = (P.length : Int) := by unfold wrap64; omega
  rcases Nat.lt_trichotomy U.length V.length with hc | hc | hc
  ·-- U shorter
   have eV : V = V.take (V.length - U.length) ++ V.drop (V.length - U.length) := by simp
   have l1 : (V.take (V.length - U.length)).length = V.length - U.length := by simp
   have l2 : (V.drop (V.length - U.length)).length = U.length := by simp; omega
   generalize V.take (V.length - U.length) = V1 at *
   generalize V.drop (V.length - U.length) = V2 at *
   obtain ⟨K, hs⟩ := swap_ev P U V1 V2 D l2.symm (by unfold Fits; omega) (a := (P.length : Int)) (b := ((P.length + U.length + V1.length : Nat) : Int)) (n := (U.length : Int)) rfl (by omega) rfl
   obtain ⟨K1, h1⟩ := ih P V2 V1 (U ++ D) (by omega) (by intro e; rw [e] at l2; simp at l2; omega) (by intro e; rw [e] at l1; simp at l1; omega) (by unfold Fits; omega) (by omega)
   refine ⟨K + K1 + 1, fun k hk => ?_⟩
   obtain ⟨k, rfl⟩ : ∃ m, k = m + 1 := ⟨k - 1, by omega⟩
   have hs := hs k (by omega); have h1 := h1 k (by omega); dsimp only at hs h1
   have lV : V.length = V1.length + V2.length := by rw [eV]; simp
   have w2 : wrap64 (wrap64 (m + (V.length : Int)) - (U.length : Int)) = ((P.length + U.length + V1.length : Nat) : Int) := by unfold wrap64; omega
   have w3 : wrap64 ((V.length : Int) - (U.length : Int)) = (V1.length : Int) := by unfold wrap64; omega
   show batch_Change_98.l0 (k + 1) _ _ _ _ = _
   rw [batch_Change_98.l0, if_neg (by omega), if_neg (by omega), w1, w2, w3]
   have e1 : P ++ (U ++ (V ++ D)) = P ++ (U ++ (V1 ++ (V2 ++ D))) := by rw [eV]; simp
   rw [e1, hs, Option.bind_some, show (U.length : Int) = (V2.length : Int) by omega, h1, eV]
   simp
  ·obtain ⟨K, hs⟩ := swap_ev P U [] V D hc (by unfold Fits; simp; omega) (a := (P.length : Int)) (b := m) (n := (U.length : Int)) rfl (by simp; omega) rfl
   refine ⟨K + 1, fun k hk => ?_⟩
   obtain ⟨k, rfl⟩ : ∃ m, k = m + 1 := ⟨k - 1, by omega⟩
   have hs := hs k (by omega); dsimp only at hs
   show batch_Change_98.l0 (k + 1) _ _ _ _ = _
   rw [batch_Change_98.l0, if_pos (by omega), w1]
   simp only [List.nil_append] at hs
   rw [hs]; rfl
  ·have eU : U = U.take V.length ++ U.drop V.length := by simp
   have l1 : (U.take V.length).length = V.length := by simp; omega
   have l2 : (U.drop V.length).length = U.length - V.length := by simp
   generalize U.take V.length = U1 at *
   generalize U.drop V.length = U2 at *
   obtain ⟨K, hs⟩ := swap_ev P U1 U2 V D l1 (by unfold Fits; omega) (a := (P.length : Int)) (b := m) (n := (V.length : Int)) rfl (by omega) (by omega)
   obtain ⟨K1, h1⟩ := ih (P ++ V) U2 U1 D (by omega) (by intro e; rw [e] at l2; simp at l2; omega) (by intro e; rw [e] at l1; simp at l1; omega) (by unfold Fits; simp; omega) (by simp; omega)
   refine ⟨K + K1 + 1, fun k hk => ?_⟩
   obtain ⟨k, rfl⟩ : ∃ m, k = m + 1 := ⟨k - 1, by omega⟩
   have hs := hs k (by omega); have h1 := h1 k (by omega); dsimp only at hs h1
   have w3 : wrap64 ((U.length : Int) - (V.length : Int)) = (U2.length : Int) := by unfold wrap64; omega
   show batch_Change_98.l0 (k + 1) _ _ _ _ = _
   rw [batch_Change_98.l0, if_neg (by omega), if_pos (by omega), w1, w3]
   have e1 : P ++ (U ++ (V ++ D)) = P ++ (U1 ++ (U2 ++ (V ++ D))) := by rw [eU]; simp
   have e2 : P ++ (V ++ (U2 ++ (U1 ++ D))) = (P ++ V) ++ (U2 ++ (U1 ++ D)) := by simp
   rw [e1, hs, Option.bind_some, e2, show (V.length : Int) = (U1.length : Int) by omega, h1, eU]
   simp
theorem rot_ev (P U V D : List S50) (hU : U ≠ []) (hV : V ≠ []) (hf : Fits (P.length + U.length + V.length)) {a m b : Int} (ha : a = P.length) (hm : m = P.length + U.length) (hb : b = P.length + U.length + V.length) :
  Ev (fun k => batch_Change_98.f k (P ++ (U ++ (V ++ D))) a m b) (P ++ (V ++ (U ++ D))) := by
 refine Ev.congr (fun k => ?_) (rot_l0 m (U.length + V.length) P U V D (Nat.le_refl _) hU hV hf hm)
 show batch_Change_98.f k _ _ _ _ = _
 unfold Fits at hf
 rw [batch_Change_98.f, show wrap64 (m - a) = (U.length : Int) by unfold wrap64; omega, show wrap64 (b - m) = (V.length : Int) by unfold wrap64; omega]
theorem bsearch {α : Type} (F : Nat → Int → Int → Option α) (q : Nat → Prop) (lo hi : Nat)
  (hstep : ∀ i j h : Nat, lo ≤ i → i ≤ h → h < j → j ≤ hi → h = i + (j - i) / 2 → ∀ res, (q h → Ev (fun k => F k i h) res) → (¬ q h → Ev (fun k => F k ((h + 1 : Nat) : Int) j) res) → Ev (fun k => F k i j) res) :
  ∀ n i j : Nat, j - i ≤ n → lo ≤ i → i ≤ j → j ≤ hi → ∃ t : Nat, i ≤ t ∧ t ≤ j ∧ (t = i ∨ ¬ q (t - 1)) ∧ (t = j ∨ q t) ∧ ∀ res, Ev (fun k => F k t t) res → Ev (fun k => F k i j) res := by
 intro n
 induction n with
 | zero =>
  intro i j h1 h2 h3 h4
  obtain rfl : i = j := by omega
  exact ⟨i, by omega, by omega, .inl rfl, .inl rfl, fun _ h => h⟩
 | succ n ih =>
  intro i j h1 h2 h3 h4
  by_cases hij : i = j
  ·subst hij; exact ⟨i, by omega, by omega, .inl rfl, .inl rfl, fun _ h => h⟩
  have hh : i + (j - i) / 2 < j := by omega
  generalize eh : i + (j - i) / 2 = h at hh
  have hi' : i ≤ h := by omega
  by_cases hq : q h
  ·obtain ⟨t, a1, a2, a3, a4, a5⟩ := ih i h (by omega) h2 hi' (by omega)
   refine ⟨t, a1, by omega, a3, ?_, fun res hr => hstep i j h h2 hi' hh h4 eh.symm res (fun _ => a5 res hr) (fun k => absurd hq k)⟩
   rcases a4 with rfl | a4
   ·exact .inr hq
   ·exact .inr a4
  ·obtain ⟨t, a1, a2, a3, a4, a5⟩ := ih (h + 1) j (by omega) (by omega) (by omega) h4
   refine ⟨t, by omega, a2, ?_, a4, fun res hr => hstep i j h h2 hi' hh h4 eh.symm res (fun k => absurd k hq) (fun _ => a5 res hr)⟩
   rcases a3 with rfl | a3
   ·exact .inr hq
   ·exact .inr a3
def g (X : List S50) (i : Nat) : S50 := rd_T50 X (i : Int)
theorem g_at (p : List S50) (x : S50) (q : List S50) {i : Nat} (h : i = p.length) : g (p ++ x :: q) i = x := rd5 p x q (by omega)
theorem mid2 {i j h : Nat} (hh : h = i + (j - i) / 2) (h2 : i < j) (hj : j ≤ 4000000000000000000) : wrap64 ((IntKind.u64.wrap (wrap64 ((i : Int) + (j : Int)))) / 2) = (h : Int) := by rw [mid h2 hj, hh]
theorem s0_step (X : List S50) (a : Nat) (ha : a < X.length) (hX : Fits X.length) (i j h : Nat) (h1 : i ≤ h) (h2 : h < j) (h3 : j ≤ X.length) (hh : h = i + (j - i) / 2) (res : List S50)
  (y1 : ¬ kl (g X h) (g X a) → Ev (fun k => batch_Change_96.l0 k X a i h) res) (y2 : ¬ ¬ kl (g X h) (g X a) → Ev (fun k => batch_Change_96.l0 k X a ((h + 1 : Nat) : Int) j) res) : Ev (fun k => batch_Change_96.l0 k X a i j) res := by
 unfold Fits at hX
 obtain ⟨K, o⟩ := order_at (g X h) (g X a)
 have hm := mid2 hh (by omega) (by omega)
 by_cases hk : kl (g X h) (g X a)
 ·obtain ⟨K1, h1'⟩ := y2 (fun c => c hk)
  refine ⟨K + K1 + 1, fun k hk' => ?_⟩
  obtain ⟨k, rfl⟩ : ∃ m, k = m + 1 := ⟨k - 1, by omega⟩
  have o := o k (by omega); have h1' := h1' k (by omega); dsimp only [g] at o h1' hk
  show batch_Change_96.l0 (k + 1) _ _ _ _ = _
  rw [batch_Change_96.l0, if_pos (by omega), hm, if_pos (by omega), if_pos (by omega), if_pos (by omega), if_pos (by omega), o, Option.bind_some, if_pos (ordv_neg.2 hk), w64s (by omega)]
  exact h1'
 ·obtain ⟨K1, h1'⟩ := y1 hk
  refine ⟨K + K1 + 1, fun k hk' => ?_⟩
  obtain ⟨k, rfl⟩ : ∃ m, k = m + 1 := ⟨k - 1, by omega⟩
  have o := o k (by omega); have h1' := h1' k (by omega); dsimp only [g] at o h1' hk
  show batch_Change_96.l0 (k + 1) _ _ _ _ = _
  rw [batch_Change_96.l0, if_pos (by omega), hm, if_pos (by omega), if_pos (by omega), if_pos (by omega), if_pos (by omega), o, Option.bind_some, if_neg (fun c => hk (ordv_neg.1 c))]
  exact h1'
theorem s2_step (X : List S50) (m : Nat) (hm' : m < X.length) (hX : Fits X.length) (i j h : Nat) (h1 : i ≤ h) (h2 : h < j) (h3 : j ≤ X.length) (hh : h = i + (j - i) / 2) (res : List S50)
  (y1 : kl (g X m) (g X h) → Ev (fun k => batch_Change_96.l2 k X m i h) res) (y2 : ¬ kl (g X m) (g X h) → Ev (fun k => batch_Change_96.l2 k X m ((h + 1 : Nat) : Int) j) res) : Ev (fun k => batch_Change_96.l2 k X m i j) res := by
 unfold Fits at hX
 obtain ⟨K, o⟩ := order_at (g X m) (g X h)
 have hm := mid2 hh (by omega) (by omega)
 by_cases hk : kl (g X m) (g X h)
 ·obtain ⟨K1, h1'⟩ := y1 hk
  refine ⟨K + K1 + 1, fun k hk' => ?_⟩
  obtain ⟨k, rfl⟩ : ∃ m, k = m + 1 := ⟨k - 1, by omega⟩
  have o := o k (by omega); have h1' := h1' k (by omega); dsimp only [g] at o h1' hk
  show batch_Change_96.l2 (k + 1) _ _ _ _ = _
  rw [batch_Change_96.l2, if_pos (by omega), hm, if_pos (by omega), if_pos (by omega), if_pos (by omega), if_pos (by omega), o, Option.bind_some, if_pos (ordv_neg.2 hk)]
  exact h1'
 ·obtain ⟨K1, h1'⟩ := y2 hk
  refine ⟨K + K1 + 1, fun k hk' => ?_⟩
  obtain ⟨k, rfl⟩ : ∃ m, k = m + 1 := ⟨k - 1, by omega⟩
  have o := o k (by omega); have h1' := h1' k (by omega); dsimp only [g] at o h1' hk
  show batch_Change_96.l2 (k + 1) _ _ _ _ = _
  rw [batch_Change_96.l2, if_pos (by omega), hm, if_pos (by omega), if_pos (by omega), if_pos (by omega), if_pos (by omega), o, Option.bind_some, if_neg (fun c => hk (ordv_neg.1 c)), w64s (by omega)]
  exact h1'
theorem s4_step (X : List S50) (p : Nat) (hX : Fits X.length) {x1 x2 x3 x18 x19 : Int} (i j h : Nat) (h1 : i ≤ h) (h2 : h < j) (h3 : j ≤ X.length) (hp : h ≤ p ∧ p - h < X.length) (hh : h = i + (j - i) / 2) (res : List S50)
  (y1 : kl (g X (p - h)) (g X h) → Ev (fun k => batch_Change_96.l4 k X x1 x2 x3 x18 x19 i h p) res) (y2 : ¬ kl (g X (p - h)) (g X h) → Ev (fun k => batch_Change_96.l4 k X x1 x2 x3 x18 x19 ((h + 1 : Nat) : Int) j p) res) : Ev (fun k => batch_Change_96.l4 k X x1 x2 x3 x18 x19 i j p) res := by
 unfold Fits at hX
 obtain ⟨K, o⟩ := order_at (g X (p - h)) (g X h)
 have hm := mid2 hh (by omega) (by omega)
 have hd : wrap64 ((p : Int) - (h : Int)) = ((p - h : Nat) : Int) := by unfold wrap64; omega
 by_cases hk : kl (g X (p - h)) (g X h)
 ·obtain ⟨K1, h1'⟩ := y1 hk
  refine ⟨K + K1 + 1, fun k hk' => ?_⟩
  obtain ⟨k, rfl⟩ : ∃ m, k = m + 1 := ⟨k - 1, by omega⟩
  have o := o k (by omega); have h1' := h1' k (by omega); dsimp only [g] at o h1' hk
  show batch_Change_96.l4 (k + 1) _ _ _ _ _ _ _ _ _ = _
  rw [batch_Change_96.l4, if_pos (by omega), hm, hd, if_pos (by omega), if_pos (by omega), if_pos (by omega), if_pos (by omega), o, Option.bind_some, if_pos (ordv_neg.2 hk)]
  exact h1'
 ·obtain ⟨K1, h1'⟩ := y2 hk
  refine ⟨K + K1 + 1, fun k hk' => ?_⟩
  obtain ⟨k, rfl⟩ : ∃ m, k = m + 1 := ⟨k - 1, by omega⟩
  have o := o k (by omega); have h1' := h1' k (by omega); dsimp only [g] at o h1' hk
  show batch_Change_96.l4 (k + 1) _ _ _ _ _ _ _ _ _ = _
  rw [batch_Change_96.l4, if_pos (by omega), hm, hd, if_pos (by omega), if_pos (by omega), if_pos (by omega), if_pos (by omega), o, Option.bind_some, if_neg (fun c => hk (ordv_neg.1 c)), w64s (by omega)]
  exact h1'
theorem move_right (i : Int) (x : S50) : ∀ (R P D : List S50), Fits (P.length + R.length + 2) → i = P.length + R.length + 1 → Ev (fun k => batch_Change_96.l1 k (P ++ x :: (R ++ D)) i (P.length : Int)) (P ++ (R ++ x :: D)) := by
 intro R
 induction R with
 | nil =>
  intro P D hf hi
  unfold Fits at hf
  refine ⟨1, fun k hk => ?_⟩
  obtain ⟨k, rfl⟩ : ∃ m, k = m + 1 := ⟨k - 1, by omega⟩
  show batch_Change_96.l1 (k + 1) _ _ _ = _
  simp only [List.length_nil] at hi hf
  rw [batch_Change_96.l1, if_neg]
  ·simp
  ·have : wrap64 (i - 1) = P.length := by unfold wrap64; omega
   omega
 | cons y R ih =>
  intro P D hf hi
  unfold Fits at hf
  simp only [List.length_cons] at hf hi
  obtain ⟨K, h⟩ := ih (P ++ [y]) D (by unfold Fits; simp; omega) (by simp; omega)
  refine ⟨K + 1, fun k hk => ?_⟩
  obtain ⟨k, rfl⟩ : ∃ m, k = m + 1 := ⟨k - 1, by omega⟩
  have h := h k (by omega); dsimp only at h
  have w0 : wrap64 (i - 1) = i - 1 := by unfold wrap64; omega
  have w1 : wrap64 ((P.length : Int) + 1) = ((P.length + 1 : Nat) : Int) := w64s (by omega)
  have ll : (P ++ x :: y :: (R ++ D)).length = P.length + 2 + R.length + D.length := by simp; omega
  have e1 : rd_T50 (P ++ x :: y :: (R ++ D)) (P.length : Int) = x := rd5 _ _ _ rfl
  have e2 : rd_T50 (P ++ x :: y :: (R ++ D)) ((P.length + 1 : Nat) : Int) = y := by
   have := rd5 (P ++ [x]) y (R ++ D) (i := ((P.length + 1 : Nat) : Int)) (by simp)
   simpa using this
  have s := swap2 P [] (R ++ D) x y (i := (P.length : Int).toNat) (j := ((P.length + 1 : Nat) : Int).toNat) (by simp) (by simp)
  simp only [List.nil_append] at s
  show batch_Change_96.l1 (k + 1) _ _ _ = _
  rw [List.cons_append, batch_Change_96.l1, w0, w1, if_pos (by omega), if_pos (by omega), if_pos (by omega), if_pos (by omega), if_pos (by omega), e1, e2]
  rw [show (⟨x.f0, x.f1, x.f2⟩ : S50) = x from rfl, show (⟨y.f0, y.f1, y.f2⟩ : S50) = y from rfl, s]
  have e3 : P ++ y :: x :: (R ++ D) = (P ++ [y]) ++ x :: (R ++ D) := by simp
  have e4 : ((P.length + 1 : Nat) : Int) = ((P ++ [y]).length : Int) := by simp
  rw [e3, e4, h]; simp
theorem move_left (i : Int) (y : S50) : ∀ (n : Nat) (L P D : List S50), L.length = n → Fits (P.length + n + 2) → i = P.length → Ev (fun k => batch_Change_96.l3 k (P ++ (L ++ y :: D)) i ((P.length + n : Nat) : Int)) (P ++ y :: (L ++ D)) := by
 intro n
 induction n with
 | zero =>
  intro L P D hL hf hi
  obtain rfl : L = [] := List.eq_nil_of_length_eq_zero hL
  refine ⟨1, fun k hk => ?_⟩
  obtain ⟨k, rfl⟩ : ∃ m, k = m + 1 := ⟨k - 1, by omega⟩
  show batch_Change_96.l3 (k + 1) _ _ _ = _
  rw [batch_Change_96.l3, if_neg (by omega)]
  simp
 | succ n ih =>
  intro L P D hL hf hi
  unfold Fits at hf
  rcases List.eq_nil_or_concat L with rfl | ⟨L', x, rfl⟩
  ·simp at hL
  simp only [List.concat_eq_append] at hL ⊢
  have hL' : L'.length = n := by simpa using hL
  obtain ⟨K, h⟩ := ih L' P (x :: D) hL' (by unfold Fits; omega) hi
  refine ⟨K + 1, fun k hk => ?_⟩
  obtain ⟨k, rfl⟩ : ∃ m, k = m + 1 := ⟨k - 1, by omega⟩
  have h := h k (by omega); dsimp only at h
  have eL : P ++ (L' ++ [x] ++ y :: D) = (P ++ L') ++ x :: (y :: D) := by simp
  have ll : ((P ++ L') ++ x :: (y :: D)).length = P.length + n + 2 + D.length := by simp; omega
  have w1 : wrap64 (((P.length + (n + 1) : Nat) : Int) - 1) = ((P.length + n : Nat) : Int) := by unfold wrap64; omega
  have e1 : rd_T50 ((P ++ L') ++ x :: (y :: D)) ((P.length + n : Nat) : Int) = x := rd5 _ _ _ (by simp; omega)
  have e2 : rd_T50 ((P ++ L') ++ x :: (y :: D)) ((P.length + (n + 1) : Nat) : Int) = y := by
   have := rd5 (P ++ L' ++ [x]) y D (i := ((P.length + (n + 1) : Nat) : Int)) (by simp; omega)
   simpa using this
  have s : (((P ++ L') ++ x :: (y :: D)).set ((P.length + (n + 1) : Nat) : Int).toNat x).set ((P.length + n : Nat) : Int).toNat y = (P ++ L') ++ y :: (x :: D) := by
   have a := set5 (P ++ L' ++ [x]) y D x (n := ((P.length + (n + 1) : Nat) : Int).toNat) (by simp; omega)
   have b := set5 (P ++ L') x (x :: D) y (n := ((P.length + n : Nat) : Int).toNat) (by simp; omega)
   have a' : ((P ++ L') ++ x :: (y :: D)).set ((P.length + (n + 1) : Nat) : Int).toNat x = (P ++ L') ++ x :: (x :: D) := by simpa using a
   rw [a', b]
  show batch_Change_96.l3 (k + 1) _ _ _ = _
  rw [eL, batch_Change_96.l3, w1, if_pos (by omega), if_pos (by omega), if_pos (by omega), if_pos (by omega), if_pos (by omega), e1, e2]
  rw [show (⟨x.f0, x.f1, x.f2⟩ : S50) = x from rfl, show (⟨y.f0, y.f1, y.f2⟩ : S50) = y from rfl, s]
  have e3 : (P ++ L') ++ y :: (x :: D) = P ++ (L' ++ y :: (x :: D)) := by simp
  rw [e3, h]; simp
theorem srt_last {A : List S50} {z : S50} (h : Srt (A ++ [z])) : ∀ a ∈ A ++ [z], ¬ kl z a := by
 intro a ha
 rcases List.mem_append.1 ha with ha | ha
 ·exact (List.pairwise_append.1 h).2.2 a ha z (by simp)
 ·simp at ha; subst ha; exact kl_irrefl
theorem srt_head {B : List S50} {y : S50} (h : Srt (y :: B)) : ∀ b ∈ y :: B, ¬ kl b y := by
 intro b hb
 rcases List.mem_cons.1 hb with rfl | hb
 ·exact kl_irrefl
 ·exact (List.pairwise_cons.1 h).1 b hb
theorem srt_split {A B : List S50} (h : Srt (A ++ B)) : Srt A ∧ Srt B := ⟨(List.pairwise_append.1 h).1, (List.pairwise_append.1 h).2.1⟩
theorem srt_one {A B : List S50} (hA : Srt A) (hB : Srt B) (h : A = [] ∨ B = []) : Srt (A ++ B) := by
 rcases h with rfl | rfl
 ·simpa using hB
 ·simpa using hA
abbrev Le (A B : List S50) : Prop := ∀ a ∈ A, ∀ b ∈ B, ¬ kl b a
theorem le_join {A B : List S50} (hA : Srt A) (hB : Srt B) (h : ∀ A' z y B', A = A' ++ [z] → B = y :: B' → ¬ kl y z) : Le A B := by
 intro a ha b hb
 rcases List.eq_nil_or_concat A with rfl | ⟨A', z, rfl⟩
 ·cases ha
 simp only [List.concat_eq_append] at *
 cases B with
 | nil => cases hb
 | cons y B' =>
  have h1 := h A' z y B' rfl rfl
  have h2 := srt_last hA a ha
  have h3 := srt_head hB b hb
  unfold kl at *; omega
theorem sym1 (P : List S50) (x : S50) (R D : List S50) (hR : Srt R) (hf : Fits (P.length + R.length + D.length + 2)) :
  ∃ S : List S50, S.Perm (x :: R) ∧ Srt S ∧ Ev (fun k => batch_Change_96.l0 k (P ++ x :: (R ++ D)) (P.length : Int) ((P.length + 1 : Nat) : Int) ((P.length + 1 + R.length : Nat) : Int)) (P ++ (S ++ D)) := by
 unfold Fits at hf
 have lX : (P ++ x :: (R ++ D)).length = P.length + 1 + R.length + D.length := by simp; omega
 have ga : g (P ++ x :: (R ++ D)) P.length = x := g_at _ _ _ rfl
 obtain ⟨t, t1, t2, t3, t4, t5⟩ := bsearch (fun k i j => batch_Change_96.l0 k (P ++ x :: (R ++ D)) (P.length : Int) i j) (fun h => ¬ kl (g (P ++ x :: (R ++ D)) h) (g (P ++ x :: (R ++ D)) P.length)) (P.length + 1) (P.length + 1 + R.length)
  (fun i j h a1 a2 a3 a4 a5 res y1 y2 => s0_step _ P.length (by omega) (by unfold Fits; omega) i j h a2 a3 (by omega) a5 res y1 y2) R.length (P.length + 1) (P.length + 1 + R.length) (by omega) (by omega) (by omega) (by omega)
 rw [ga] at t3 t4
 have eR : R = R.take (t - (P.length + 1)) ++ R.drop (t - (P.length + 1)) := by simp
 have l1 : (R.take (t - (P.length + 1))).length = t - (P.length + 1) := by simp; omega
 generalize R.take (t - (P.length + 1)) = R1 at *
 generalize R.drop (t - (P.length + 1)) = R2 at *
 subst eR
 obtain ⟨s1, s2⟩ := srt_split hR
 have hA : ∀ a ∈ R1, kl a x := by
  intro a ha
  rcases List.eq_nil_or_concat R1 with rfl | ⟨R', z, rfl⟩
  ·cases ha
  simp only [List.concat_eq_append] at *
  have gz : g (P ++ x :: (R' ++ [z] ++ R2 ++ D)) (t - 1) = z := by
   have := g_at (P ++ x :: R') z (R2 ++ D) (i := t - 1) (by simp at l1 ⊢; omega)
   simpa using this
  rw [gz] at t3
  rcases t3 with t3 | t3
  ·simp at l1; omega
  ·have t3 := Classical.not_not.1 t3
   have := srt_last s1 a ha
   unfold kl at *; omega
 have hB : ∀ b ∈ R2, ¬ kl b x := by
  intro b hb
  cases R2 with
  | nil => cases hb
  | cons y R' =>
   have gy : g (P ++ x :: (R1 ++ y :: R' ++ D)) t = y := by
    have := g_at (P ++ x :: R1) y (R' ++ D) (i := t) (by simp at l1 ⊢; omega)
    simpa using this
   rw [gy] at t4
   rcases t4 with t4 | t4
   ·simp at t4; omega
   ·have := srt_head s2 b hb
    unfold kl at *; omega
 refine ⟨R1 ++ x :: R2, List.perm_middle, List.pairwise_append.2 ⟨s1, List.pairwise_cons.2 ⟨hB, s2⟩, fun a ha b hb => ?_⟩, t5 _ ?_⟩
 ·have h1 := hA a ha
  rcases List.mem_cons.1 hb with rfl | hb
  ·unfold kl at *; omega
  ·have h2 := hB b hb; unfold kl at *; omega
 ·have mv := move_right (t : Int) x R1 P (R2 ++ D) (by unfold Fits; simp at hf; omega) (by omega)
  refine Ev.step (fun k => ?_) (by simpa using mv)
  show batch_Change_96.l0 (k + 1) _ _ _ _ = _
  rw [batch_Change_96.l0, if_neg (by omega)]
  simp
theorem sym2 (P L : List S50) (y : S50) (D : List S50) (hL : Srt L) (hf : Fits (P.length + L.length + D.length + 2)) :
  ∃ S : List S50, S.Perm (L ++ [y]) ∧ Srt S ∧ Ev (fun k => batch_Change_96.l2 k (P ++ (L ++ y :: D)) ((P.length + L.length : Nat) : Int) (P.length : Int) ((P.length + L.length : Nat) : Int)) (P ++ (S ++ D)) := by
 unfold Fits at hf
 have lX : (P ++ (L ++ y :: D)).length = P.length + L.length + 1 + D.length := by simp; omega
 have gm : g (P ++ (L ++ y :: D)) (P.length + L.length) = y := by
  have := g_at (P ++ L) y D (i := P.length + L.length) (by simp)
  simpa using this
 obtain ⟨t, t1, t2, t3, t4, t5⟩ := bsearch (fun k i j => batch_Change_96.l2 k (P ++ (L ++ y :: D)) ((P.length + L.length : Nat) : Int) i j) (fun h => kl (g (P ++ (L ++ y :: D)) (P.length + L.length)) (g (P ++ (L ++ y :: D)) h)) P.length (P.length + L.length)
  (fun i j h a1 a2 a3 a4 a5 res y1 y2 => s2_step _ (P.length + L.length) (by omega) (by unfold Fits; omega) i j h a2 a3 (by omega) a5 res y1 y2) L.length P.length (P.length + L.length) (by omega) (by omega) (by omega) (by omega)
 rw [gm] at t3 t4
 have eL : L = L.take (t - P.length) ++ L.drop (t - P.length) := by simp
 have l1 : (L.take (t - P.length)).length = t - P.length := by simp; omega
 generalize L.take (t - P.length) = L1 at *
 generalize L.drop (t - P.length) = L2 at *
 subst eL
 obtain ⟨s1, s2⟩ := srt_split hL
 have hA : ∀ a ∈ L1, ¬ kl y a := by
  intro a ha
  rcases List.eq_nil_or_concat L1 with rfl | ⟨L', z, rfl⟩
  ·cases ha
  simp only [List.concat_eq_append] at *
  have gz : g (P ++ (L' ++ [z] ++ L2 ++ y :: D)) (t - 1) = z := by
   have := g_at (P ++ L') z (L2 ++ y :: D) (i := t - 1) (by simp at l1 ⊢; omega)
   simpa using this
  rw [gz] at t3
  rcases t3 with t3 | t3
  ·simp at l1; omega
  ·have := srt_last s1 a ha
   unfold kl at *; omega
 have hB : ∀ b ∈ L2, kl y b := by
  intro b hb
  cases L2 with
  | nil => cases hb
  | cons w L' =>
   have gy : g (P ++ (L1 ++ w :: L' ++ y :: D)) t = w := by
    have := g_at (P ++ L1) w (L' ++ y :: D) (i := t) (by simp; omega)
    simpa using this
   rw [gy] at t4
   rcases t4 with t4 | t4
   ·simp at t4; omega
   ·have := srt_head s2 b hb
    unfold kl at *; omega
 refine ⟨L1 ++ y :: L2, ?_, List.pairwise_append.2 ⟨s1, List.pairwise_cons.2 ⟨fun b hb => ?_, s2⟩, fun a ha b hb => ?_⟩, t5 _ ?_⟩
 ·have : (L1 ++ y :: L2).Perm (y :: (L1 ++ L2)) := List.perm_middle
  exact this.trans (List.perm_append_singleton y (L1 ++ L2)).symm
 ·have := hB b hb; unfold kl at *; omega
 ·have h1 := hA a ha
  rcases List.mem_cons.1 hb with rfl | hb
  ·exact h1
  ·have h2 := hB b hb; unfold kl at *; omega
 ·have mv := move_left (t : Int) y L2.length L2 (P ++ L1) D rfl (by unfold Fits; simp at hf ⊢; omega) (by simp; omega)
  have e2 : (((P ++ L1).length + L2.length : Nat) : Int) = ((P.length + (L1 ++ L2).length : Nat) : Int) := by simp; omega
  rw [e2] at mv
  refine Ev.step (fun k => ?_) (by simpa using mv)
  show batch_Change_96.l2 (k + 1) _ _ _ _ = _
  rw [batch_Change_96.l2, if_neg (by omega)]
  simp
end Go.Proofs.Ytgeldmhgbnamcaa.Pure
end
