/- Walks and laws of several statements of this seat, joined into one text; no condition. -/
import Derived.Test.YtlcnckbmolefpaaProg
import Derived.Below
import Derived.Deep.Draws
import Derived.Deep.AppendLies
import Derived.Maps.AppendAt
import Derived.OwnWalk
import Derived.Laws.BytesArg
import Derived.Laws.MakeOwn
import Derived.Laws.OwnMore
import Derived.Deep.OwnRows
import Derived.Tactics
import Derived.Lib.ConvBytes
import Derived.Laws.Slices
import Derived.WalkKit
import Derived.KernelRfl
import Derived.RowKit3
import Derived.Deep.LoopGhost
import Derived.Deep.QuietTactic
import Derived.BigQuiet
import Derived.WideLaws
import Derived.Deep.DeepCutAuto
import Derived.Deep.CutBlock
import Derived.Deep.RegionHeld3
import Derived.Laws.Rows
import Derived.Lib.AppendStr
import Derived.ArgAppend
import Derived.Laws.IdiomCopy
import Derived.OrdersHeld
import Derived.Laws.BitsLemmas
import Derived.RowKit
import Derived.Laws.StructEq
import Derived.Deep.Slices
import Derived.SizedLaws
import Derived.OpenShut
import Derived.Lib.SmallJoins
import Derived.IntWalk
import Derived.Maps.RangeWalk
import Derived.Maps.OwnRows
import Derived.Maps.Views
import Derived.Maps.OwnSet
import Derived.Shelf.SlMaps.Clone
import Derived.Laws.CopyOwn
import Derived.Deep.RegionLaw
import Derived.LoopTactic
import Derived.Outline
import Derived.Lib.BufferMore
import Derived.Deep.CutRange
import Derived.Lib.Zigzag
import Derived.Laws.EntriesVeiled
import Derived.Lib.Builder
import Derived.LaidEqlPtr
import Derived.Test.YtlcnckbmolefpaaRTa0
import Derived.Test.YtlcnckbmolefpaaRTa1
import Derived.Test.YtlcnckbmolefpaaRTa4
import Derived.Test.YtlcnckbmolefpaaRTa5
import Derived.Test.YtlcnckbmolefpaaRTa2
import Derived.Test.YtlcnckbmolefpaaRTa3
section
namespace Go.Proofs.Ytlcnckbmolefpaa.P
open Go.RowKit Go.Proofs.YtlcnckbmolefpaaW.PrintWords Go.Proofs.YtlcnckbmolefpaaW.PrintLast Go.Proofs.YtlcnckbmolefpaaW.PrintMore
set_option linter.unusedVariables false
set_option linter.unusedSimpArgs false
open Go.ChangeShapes Go.WideShapes Go.Deep
def Opens (P : Program) (t : TypeId) {α : Type} (d : Kd α) (q : α → Prop) : Prop :=
  ∀ (H : Type) (enc : TypeId × Value → H) (w : World) (base : Nat) (spare : Nat → Bool) (held : Bool) (fuel : Nat) (cs : List Value) (x : DataW H × List MemPlace),
    DataW.trod enc P w base spare held fuel t cs = some x → ∃ y : α, d.K w y cs ∧ q y
theorem Opens.int {P : Program} {t : TypeId} {k : IntKind} (hu : P.underlying t = some (.int k)) : Opens P t (Kd.int k) (fun n => (Lit.int k n).wf = true) := by
  intro H enc w base spare held fuel cs x h
  obtain ⟨n, rfl, _, hw⟩ := DataW.trod_int hu h
  exact ⟨n, rfl, hw⟩
theorem Opens.bool {P : Program} {t : TypeId} (hu : P.underlying t = some .bool) : Opens P t Kd.bool (fun _ => True) := by
  intro H enc w base spare held fuel cs x h
  obtain ⟨b, rfl, _⟩ := DataW.trod_bool hu h
  exact ⟨b, rfl, trivial⟩
theorem Opens.imp {P : Program} {t : TypeId} {α : Type} {d : Kd α} {q q' : α → Prop} (h : Opens P t d q) (hq : ∀ y, q y → q' y) : Opens P t d q' := by
  intro H enc w base spare held fuel cs x hx
  obtain ⟨y, h1, h2⟩ := h H enc w base spare held fuel cs x hx
  exact ⟨y, h1, hq y h2⟩
theorem Opens.iso {P : Program} {t : TypeId} {α β : Type} {d : Kd α} {q : α → Prop} (h : Opens P t d q) (f : β → α) (g : α → β) (hfg : ∀ y, f (g y) = y) : Opens P t (Kd.iso d f) (fun x => q (f x)) := by
  intro H enc w base spare held fuel cs x hx
  obtain ⟨y, h1, h2⟩ := h H enc w base spare held fuel cs x hx
  refine ⟨g y, ?_, by show q (f (g y)); rw [hfg]; exact h2⟩
  show d.K w (f (g y)) cs
  rw [hfg]; exact h1
theorem Opens.slice {P : Program} {t e : TypeId} {α : Type} [Inhabited α] {d : Kd α} {q : α → Prop} (hu : P.underlying t = some (.slice e)) (hc : P.cellsOf e = d.sz) (h : Opens P e d q) : Opens P t (Kd.slice e d) (fun l => l.length ≤ maxLen ∧ ∀ y ∈ l, q y) := by
  intro H enc w base spare held fuel cs x hx
  rcases open_slice hu hx with ⟨rfl, _⟩ | ⟨a, len, cap, m, n, D, Pl, rfl, hb, hl, hm, hmm, _, hel⟩
  · exact ⟨[], ⟨none, 0, rfl, Nat.le_refl _, rfl, Nat.zero_le _, fun h => absurd h (by simp)⟩, Nat.zero_le _, fun y hy => by simp at hy⟩
  · have hlm : len ≤ m := by rw [hmm]; split <;> omega
    obtain ⟨Y, hY⟩ := choose_lt (α := α) (n := len) (p := fun i y => ∃ cs', w.cells? base (a.add (i * P.cellsOf e)) (P.cellsOf e) = some cs' ∧ d.K w y cs' ∧ q y) (fun i hi => by
      obtain ⟨cs', h1, h2⟩ := hel i (by omega)
      obtain ⟨y, h3, h4⟩ := h H enc w base spare held n cs' _ h2
      exact ⟨y, cs', h1, h3, h4⟩)
    have hlen : ((List.range len).map Y).length = len := by simp
    refine ⟨(List.range len).map Y, ⟨some a, cap, by rw [hlen], by rw [hlen]; exact hl, rfl, ?_, fun _ => ⟨a, rfl, fun j p hj => ?_⟩⟩, ?_, fun y hy => ?_⟩
    · rw [hlen]; unfold maxLen at hm; omega
    · obtain ⟨hjl, hje⟩ := List.getElem?_eq_some_iff.1 hj
      rw [hlen] at hjl
      have hpj : p = Y j := by rw [← hje]; simp
      obtain ⟨cs', h1, h3, _⟩ := hY j hjl
      obtain ⟨_, hcl, hcc⟩ := World.cells?_some h1
      refine ⟨cs', d.K_len h3, by rw [hpj]; exact h3, fun i u hu2 => ?_⟩
      have hi := (List.getElem?_eq_some_iff.1 hu2).1
      rw [d.K_len h3] at hi
      have h5 := hcc i (by rw [hc]; exact hi)
      rw [hc, Go.Deep.add_add] at h5
      rw [h5, ← hu2]
    · rw [hlen]; omega
    · obtain ⟨j, hj, rfl⟩ := List.mem_map.1 hy
      obtain ⟨_, _, _, h4⟩ := hY j (List.mem_range.1 hj)
      exact h4
def OpensSeg (P : Program) (fs : List Field) (off : Nat) {α : Type} (d : Kd α) (q : α → Prop) : Prop :=
  ∀ (H : Type) (enc : TypeId × Value → H) (w : World) (base : Nat) (spare : Nat → Bool) (held : Bool) (fuel : Nat) (cs : List Value), cs.length = d.sz →
    (∀ f ∈ fs, ∃ x : DataW H × List MemPlace, DataW.trod enc P w base spare held fuel f.type ((cs.drop (f.offset - off)).take (P.cellsOf f.type)) = some x) → ∃ y : α, d.K w y cs ∧ q y
theorem OpensSeg.one {P : Program} {f : Field} {off : Nat} {α : Type} {d : Kd α} {q : α → Prop} (ho : f.offset = off) (hc : P.cellsOf f.type = d.sz) (h : Opens P f.type d q) : OpensSeg P [f] off d q := by
  intro H enc w base spare held fuel cs hl hf
  obtain ⟨x, hx⟩ := hf f List.mem_cons_self
  rw [ho, Nat.sub_self, List.drop_zero, hc, ← hl, List.take_length] at hx
  exact h H enc w base spare held fuel cs x hx
theorem OpensSeg.cons {P : Program} {f : Field} {fs : List Field} {off : Nat} {α β : Type} {d : Kd α} {d2 : Kd β} {q : α → Prop} {q2 : β → Prop} (ho : f.offset = off) (hc : P.cellsOf f.type = d.sz) (hm : ∀ g ∈ fs, off + d.sz ≤ g.offset) (h : Opens P f.type d q) (h2 : OpensSeg P fs (off + d.sz) d2 q2) :
    OpensSeg P (f :: fs) off (Kd.pair d d2) (fun y => q y.1 ∧ q2 y.2) := by
  intro H enc w base spare held fuel cs hl hf
  have hl' : cs.length = d.sz + d2.sz := hl
  obtain ⟨x, hx⟩ := hf f List.mem_cons_self
  rw [ho, Nat.sub_self, List.drop_zero, hc] at hx
  obtain ⟨y, h3, h4⟩ := h H enc w base spare held fuel _ x hx
  obtain ⟨y2, h5, h6⟩ := h2 H enc w base spare held fuel (cs.drop d.sz) (by rw [List.length_drop]; omega) (fun g hg => by
    obtain ⟨x2, hx2⟩ := hf g (List.mem_cons_of_mem _ hg)
    refine ⟨x2, ?_⟩
    have := hm g hg
    rw [List.drop_drop, show d.sz + (g.offset - (off + d.sz)) = g.offset - off by omega]
    exact hx2)
  exact ⟨(y, y2), ⟨cs.take d.sz, cs.drop d.sz, (List.take_append_drop _ _).symm, h3, h5⟩, h4, h6⟩
theorem Opens.struct {P : Program} {t : TypeId} {fs : Array Field} {α : Type} {d : Kd α} {q : α → Prop} (hu : P.underlying t = some (.struct fs)) (hc : P.cellsOf t = d.sz) (h : OpensSeg P fs.toList 0 d q) : Opens P t d q := by
  intro H enc w base spare held fuel cs x hx
  obtain ⟨xs, n, rfl, _, hl, hxs, hf⟩ := DataW.trod_struct hu hx
  refine h H enc w base spare held n cs (by rw [hl, hc]) (fun f hf2 => ?_)
  obtain ⟨i, hi, rfl⟩ := List.getElem_of_mem hf2
  have h1 := hf i fs.toList[i] (by rw [Array.getElem?_eq_getElem (by simpa using hi)]; simp)
  have hi2 : i < fs.size := by simpa using hi
  rw [List.getElem?_eq_getElem (by omega)] at h1
  exact ⟨_, by rw [Nat.sub_zero]; exact h1⟩
theorem Opens.arg {P : Program} {t e : TypeId} {α : Type} {d : Kd α} {q : List α → Prop} (ho : Opens P t (Kd.slice e d) q) {H : Type} {enc : TypeId × Value → H} {w : World} {base : Nat} {spare : Nat → Bool} {held : Bool} {a : Option Addr} {len cap : Nat} {D : DataW H} {ps : List MemPlace} (h : DataW.Trod enc P w base spare held t (.slice a len cap) D ps) :
    ∃ l : List α, len = l.length ∧ Kd.C d w a l.length l ∧ l.length ≤ cap ∧ q l := by
  obtain ⟨fuel, hf⟩ := h
  obtain ⟨l, ⟨A, c, he, hlc, hC⟩, hq⟩ := ho H enc w base spare held fuel _ _ hf
  simp [Value.cells] at he
  obtain ⟨rfl, rfl, rfl⟩ := he
  exact ⟨l, rfl, hC, hlc, hq⟩
theorem sized_slice_any {H : Type} {enc : TypeId × Value → H} {P : Program} {W : World} {base : Nat} {spare : Nat → Bool} {held : Bool} {t e : TypeId} {a : Option Addr} {len cap : Nat} {d : DataW H} {ps : List MemPlace} {ts : List TypeId} {ds : List (DataW H)} {j : Nat}
    (hsz : (DataW.weightsEach P ts ds).all (· ≤ reachBytes) = true) (ht : ts[j]? = some t) (hd : ds[j]? = some d) (hu : P.underlying t = some (.slice e)) {B : Nat} (hB : P.bytesOf e = B)
    (h : DataW.Trod enc P W base spare held t (.slice a len cap) d ps) : len * B ≤ 140737488351232 := by
  obtain ⟨fuel, hf⟩ := h
  rcases open_slice hu hf with ⟨hcs, _⟩ | ⟨x, l, c, m, n, D, Pl, hcs, _, hl, _, hm, hx, _⟩
  · simp [Value.cells] at hcs
    obtain ⟨rfl, rfl, rfl⟩ := hcs
    simp
  · simp [Value.cells] at hcs
    obtain ⟨rfl, rfl, rfl⟩ := hcs
    obtain ⟨hx, _⟩ := Prod.mk.inj hx
    subst hx
    have z := sized_slice hsz ht hd hu
    rw [hB] at z
    have h1 : len ≤ ((List.range len).map D).length + ((List.range (m - len)).map fun j => D (len + j)).length := by simp
    exact Nat.le_trans (Nat.mul_le_mul_right _ h1) z
theorem opens_i64 {P : Program} {t : TypeId} (hu : P.underlying t = some (.int .i64)) : Opens P t (Kd.int .i64) (fun n => -9223372036854775808 ≤ n ∧ n ≤ 9223372036854775807) := (Opens.int hu).imp fun _ h => bounds_i64 h
theorem opens_u64 {P : Program} {t : TypeId} (hu : P.underlying t = some (.int .u64)) : Opens P t (Kd.int .u64) (fun n => 0 ≤ n ∧ n ≤ 18446744073709551615) := (Opens.int hu).imp fun _ h => bounds_u64 h
theorem opens25 : Opens Try.prog 25 (Kd.slice 3 (Kd.int .i64)) (fun l => l.length ≤ maxLen ∧ ∀ y ∈ l, -9223372036854775808 ≤ y ∧ y ≤ 9223372036854775807) := Opens.slice Try.underlying25 (by kernel_rfl) (opens_i64 Try.underlying3)
instance : Inhabited S127 := ⟨z127⟩
end Go.Proofs.Ytlcnckbmolefpaa.P
end
section
namespace Go.Proofs.Ytlcnckbmolefpaa.Pure
open Go.RowKit Go.Proofs.Ytlcnckbmolefpaa.P Go.Proofs.YtlcnckbmolefpaaW.PrintWords Go.Proofs.YtlcnckbmolefpaaW.PrintLast
set_option linter.unusedVariables false
set_option linter.unusedSimpArgs false
abbrev Short (n : Nat) : Prop := n ≤ 5864062014634
theorem w64s {n : Nat} (h : n ≤ 9000000000000000000) : wrap64 ((n : Int) + 1) = ((n + 1 : Nat) : Int) := by unfold wrap64; omega
theorem w64p {n : Nat} (h : n ≤ 9000000000000000000) : wrap64 (((n + 1 : Nat) : Int) - 1) = (n : Int) := by unfold wrap64; omega
theorem rd4 (p : List S140) (x : S140) (q : List S140) {i : Int} (h : i = p.length) : rd_T140 (p ++ x :: q) i = x := by subst h; simp [rd_T140]
theorem rd5 (p : List S143) (x : S143) (q : List S143) {i : Int} (h : i = p.length) : rd_T143 (p ++ x :: q) i = x := by subst h; simp [rd_T143]
theorem Ev.id {α : Type} {g f : Nat → Option α} {r : α} (k : Ev f r) (h : ∀ k, f k = g k) : Ev g r := Ev.congr (fun k => (h k).symm) k
def u (x : S140) : S143 := ⟨x.f0, x.f1, x.f2⟩
def v (x : S143) : S140 := ⟨x.f0, x.f1, x.f2⟩
def kl (a b : S143) : Prop := a.f0 < b.f0 ∨ (a.f0 = b.f0 ∧ a.f1 < b.f1)
def ke (a b : S143) : Prop := a.f0 = b.f0 ∧ a.f1 = b.f1
instance (a b : S143) : Decidable (kl a b) := by unfold kl; exact inferInstance
instance (a b : S143) : Decidable (ke a b) := by unfold ke; exact inferInstance
theorem kl_trans {a b c : S143} (h : kl a b) (k : kl b c) : kl a c := by unfold kl at *; omega
theorem kl_tri (a b : S143) : kl a b ∨ ke a b ∨ kl b a := by unfold kl ke; omega
def wi (n : Int) : Prop := -576460752303423488 ≤ n ∧ n ≤ 576460752303423488
instance (n : Int) : Decidable (wi n) := by unfold wi; exact inferInstance
theorem within3_eq (n : Int) : marchlandref03_within.f n = some (decide (wi n)) := by
  unfold marchlandref03_within.f wi
  by_cases h : n ≥ -576460752303423488
  · rw [if_pos h]; simp [h]
  · rw [if_neg h]; simp [h]
theorem before_eq (a b : S143) : marchlandref03_before.f a.f0 a.f1 a.f2 b.f0 b.f1 b.f2 = some (decide (kl a b)) := by
  unfold marchlandref03_before.f kl
  by_cases h : a.f0 < b.f0
  · rw [if_pos h]; simp [h]
  · rw [if_neg h]
    by_cases h2 : a.f0 = b.f0
    · rw [if_pos h2]; simp [h2]
    · rw [if_neg h2]; simp [h, h2]
def plus (y x : S143) : S143 := ⟨y.f0, y.f1, wrap64 (y.f2 + x.f2)⟩
def ins (x : S143) : List S143 → List S143
  | [] => [x]
  | y :: l => if ke y x then plus y x :: l else if kl x y then x :: y :: l else y :: ins x l
def tot (l : List S143) : List S143 := l.foldl (fun a x => ins x a) []
theorem ins_app {x : S143} : ∀ {A : List S143} (B : List S143), (∀ a ∈ A, kl a x) → ins x (A ++ B) = A ++ ins x B := by
  intro A
  induction A with
  | nil => intro B _; rfl
  | cons a A ih =>
    intro B h
    have h1 : kl a x := h a (by simp)
    have a1 : ¬ ke a x := by unfold kl ke at *; omega
    have a2 : ¬ kl x a := by unfold kl at *; omega
    simp [ins, a1, a2, ih B (fun b hb => h b (by simp [hb]))]
abbrev Str (l : List S143) : Prop := l.Pairwise kl
theorem ins_mem {x : S143} : ∀ {l : List S143} {z : S143}, z ∈ ins x l → ke z x ∨ ∃ y ∈ l, ke z y := by
  intro l
  induction l with
  | nil => intro z h; simp only [ins, List.mem_singleton] at h; subst h; exact .inl ⟨rfl, rfl⟩
  | cons y l ih =>
    intro z h
    simp only [ins] at h
    split at h
    · rcases List.mem_cons.1 h with rfl | h
      · exact .inr ⟨y, by simp, rfl, rfl⟩
      · exact .inr ⟨z, by simp [h], rfl, rfl⟩
    · split at h
      · rcases List.mem_cons.1 h with rfl | h
        · exact .inl ⟨rfl, rfl⟩
        · exact .inr ⟨z, h, rfl, rfl⟩
      · rcases List.mem_cons.1 h with rfl | h
        · exact .inr ⟨z, by simp, rfl, rfl⟩
        · rcases ih h with h | ⟨w, hw, h⟩
          · exact .inl h
          · exact .inr ⟨w, by simp [hw], h⟩
theorem ins_str {x : S143} : ∀ {l : List S143}, Str l → Str (ins x l) := by
  intro l
  induction l with
  | nil => intro _; simp [ins]
  | cons y l ih =>
    intro h
    obtain ⟨h1, h2⟩ := List.pairwise_cons.1 h
    simp only [ins]
    split
    · exact List.pairwise_cons.2 ⟨fun z hz => h1 z hz, h2⟩
    · rename_i e
      split
      · rename_i c
        refine List.pairwise_cons.2 ⟨fun z hz => ?_, h⟩
        rcases List.mem_cons.1 hz with rfl | hz
        · exact c
        · exact kl_trans c (h1 z hz)
      · rename_i c
        refine List.pairwise_cons.2 ⟨fun z hz => ?_, ih h2⟩
        rcases ins_mem hz with k | ⟨w, hw, k⟩
        · have := kl_tri x y; unfold kl ke at *; omega
        · have := h1 w hw; unfold kl ke at *; omega
theorem ins_len {x : S143} : ∀ {l : List S143}, (ins x l).length ≤ l.length + 1 := by
  intro l
  induction l with
  | nil => simp [ins]
  | cons y l ih => simp only [ins]; split <;> (try split) <;> simp <;> omega
theorem foldl_ins_len : ∀ (l a : List S143), (l.foldl (fun a x => ins x a) a).length ≤ a.length + l.length := by
  intro l
  induction l with
  | nil => intro a; simp
  | cons x l ih => intro a; have := ih (ins x a); have := ins_len (x := x) (l := a); simp only [List.foldl_cons, List.length_cons]; omega
theorem tot_len (l : List S143) : (tot l).length ≤ l.length := by have := foldl_ins_len l []; simpa [tot] using this
def good (G : List S143) : Bool := G.all (fun x => decide (wi x.f2))
def fin (G : List S143) : List S143 := G.filter (fun x => decide (x.f2 ≠ 0))
end Go.Proofs.Ytlcnckbmolefpaa.Pure
end
section
namespace Go.Proofs.Ytlcnckbmolefpaa.P
open Go.RowKit Go.Proofs.YtlcnckbmolefpaaW.PrintWords Go.Proofs.YtlcnckbmolefpaaW.PrintLast Go.Proofs.YtlcnckbmolefpaaW.PrintMore
attribute [local go_sem] max2_int min2_int max_two min_two max_three min_three max_four min_four   -- for this text's walks alone
set_option linter.unusedVariables false
set_option linter.unusedSimpArgs false
/-! ### marchlandlaw03_To: function 35 -/
def marchlandlaw03_To.l0 : Nat → List (S140) → List (S143) → Int → Option ((List (S143)))
  | 0, _, _, _ => none
  | k + 1, x0, x3, x4 => if x4 < (x0.length : Int) then (if 0 ≤ x4 then (if x3.length < 5864062014805 then (marchlandlaw03_To.l0 k x0 (x3 ++ [(⟨(rd_T140 x0 x4).f0, (rd_T140 x0 x4).f1, (rd_T140 x0 x4).f2⟩ : S143)]) (wrap64 (x4 + 1))) else (none)) else (none)) else (some x3)
def marchlandlaw03_To.f (k : Nat) (l0 : List (S140)) : Option ((List (S143))) := marchlandlaw03_To.l0 k l0 ([] : List (S143)) 0
def marchlandlaw03_To.T5 : Bool × List (List Nat × List Nat) := (true, [([], []), ([], []), ([], []), ([1, 2], [1, 2]), ([3], [3]), ([4], [4]), ([], []), ([], []), ([6, 7], [6, 7]), ([8], [8]), ([9], [9]), ([], []), ([], []), ([11, 12], [11, 12]), ([13], [13]), ([14], [14]), ([5, 10, 15], [5, 10, 15]), ([16], [16]), ([0, 17], [0, 17]), ([18, 18, 0, 1, 2, 3, 4, 5, 6, 7, 8, 9, 10, 11, 12, 13, 14, 15, 16, 17, 18], [0, 18])])
def marchlandlaw03_To.B5 : List Nat := [0, 0, 0, 6, 14, 30, 0, 0, 192, 448, 960, 0, 0, 6144, 14336, 30720, 65534, 131070, 262143, 524287]
theorem marchlandlaw03_To.tab5 : rtab .any (opsOf Try.f35 5) = marchlandlaw03_To.T5 := by kernel_rfl
theorem marchlandlaw03_To.bits5 : waitsOk marchlandlaw03_To.T5.2 marchlandlaw03_To.B5 = true := by kernel_rfl
set_option maxHeartbeats 8000000 in
set_option maxRecDepth 100000 in
theorem marchlandlaw03_To.calls (k : Nat) (A0 : Option Addr) (c0 : Nat) (l0 : List (S140)) (r : List (S143)) (w : World) (hr0 : Kd.C k140 w A0 l0.length l0) (hc0 : l0.length ≤ c0) (h : marchlandlaw03_To.f k l0 = some r) :
    Calls Try.prog 35 #[.slice A0 l0.length c0] w fun e w' => ∃ v0_ : Value, e = .returned (v0_) ∧ Kd.R k143 143 w' w.heap.size (fun _ => True) v0_ r ∧ Below w.heap.size w w' := by
  have hu143 := Try.underlying143
  have HR0 := Aside0.mk hr0
  have HC0 := Aside0.mk hc0
  clear hr0 hc0
  have HB := Aside0.mk (Below.refl w.heap.size w)
  have H : (marchlandlaw03_To.l0 k l0 ([] : List (S143)) 0) = some r := h
  clear h
  have H' := Aside0.mk H
  clear H
  go_enter Try.func35, Try.ntmps35
  go_wp2
  go_loopg [3, 4] k (fun kq v3 v4 w' => ∃ (x3_1 : List (S143)) (x4_1 : Int), v4 = .int .i64 x4_1 ∧ Aside0 (marchlandlaw03_To.l0 kq l0 x3_1 x4_1 = some r) ∧ Aside0 (kq ≤ k) ∧ Aside0 (Kd.R k143 143 w' w.heap.size (fun _ => True) v3 x3_1) ∧ Aside0 (Below w.heap.size w w'))
  case atStart => exact ⟨(([] : List (S143))), (0), (by first | rfl | (simp; done) | (simp [*]; done)), H', ⟨Nat.le_refl _⟩, ⟨by first | exact Kd.R_nil _ _ _ _ _ | exact Kd.N_nil _ _ _ _ _ | exact Kd.V_nil _ _ _ _ _ | exact Kd.Q_nil _ _ _ _ _ | exact Kd.S_nil _ _ _ _ _⟩, ⟨by repeat (first | (with_reducible first | exact HB.out | apply below_alloc | apply pw_below_drewN | apply below_drew1) | exact HB.out)⟩⟩
  case round =>
    clear H'
    obtain ⟨x3_1, x4_1, rfl, HA, HK1, HO_3, HB⟩ := hrel
    cases gk with
    | zero => exact absurd HA.out (by simp [marchlandlaw03_To.l0])
    | succ k1 =>
      have H := HA.out
      clear HA
      simp only [marchlandlaw03_To.l0] at H
      by_cases c2 : x4_1 < (l0.length : Int)
      · rw [if_pos c2] at H
        have c2b0 : decide (x4_1 < (l0.length : Int)) = true := decide_eq_true c2
        clear c2
        by_cases c3 : 0 ≤ x4_1
        · rw [if_pos c3] at H
          have c3b0 : decide (0 ≤ x4_1) = true := decide_eq_true c3
          clear c3
          by_cases c4 : x3_1.length < 5864062014805
          · rw [if_pos c4] at H
            have LMc4 := Aside0.mk c4
            clear c4
            obtain ⟨y284, hy284⟩ : ∃ y_ : List (S143), y_ = (x3_1 ++ [(⟨(rd_T140 l0 x4_1).f0, (rd_T140 l0 x4_1).f1, (rd_T140 l0 x4_1).f2⟩ : S143)]) := ⟨_, rfl⟩
            replace H : (marchlandlaw03_To.l0 k1 l0 y284 (wrap64 (x4_1 + 1))) = some r := by first | (rw [hy284]; with_reducible exact H) | (have H2_ := (Option.bind_some _ _).symm.trans H; rw [hy284]; with_reducible exact H2_) | (have H2_ := (Option.bind_some _ _).symm.trans H; with_reducible exact H2_) | with_reducible exact H | (rw [hy284]; exact H) | exact H
            have Ny284 := Aside0.mk hy284
            clear hy284
            have H' := Aside0.mk H
            clear H
            try go_wp2
            have n0_ := Aside0.mk (Kd.R_drew HO_3.out)
            have n1_ := Aside0.mk (below_drew1 HB.out)
            clear HO_3
            clear HB
            have HO_3 := n0_
            have HB := n1_
            clear n0_ n1_
            have p281 : 0 ≤ (x4_1 : Int) := of_decide_eq_true (by first | (with_reducible assumption) | assumption)
            have q281 : x4_1 < (l0.length : Int) := of_decide_eq_true (by first | (with_reducible assumption) | assumption)
            obtain ⟨ad281, e281, hx281_0, hx281_1, hx281_2⟩ := at_T140 HR0.out x4_1 p281 q281
            have hw281_2 := hx281_2
            have hw281_1 := hx281_1
            have hw281_0 := hx281_0
            cases e281
            replace hx281_0 := (HB.out.cell (World.block_lt_of_cell? w _ hx281_0)).trans hx281_0
            replace hx281_1 := (HB.out.cell (World.block_lt_of_cell? w _ hx281_1)).trans hx281_1
            replace hx281_2 := (HB.out.cell (World.block_lt_of_cell? w _ hx281_2)).trans hx281_2
            replace p281 := eq_true p281
            replace q281 := eq_true q281
            have p282 : 0 ≤ (x4_1 : Int) := of_decide_eq_true (by first | (with_reducible assumption) | assumption)
            have q282 : x4_1 < (l0.length : Int) := of_decide_eq_true (by first | (with_reducible assumption) | assumption)
            obtain ⟨ad282, e282, hx282_0, hx282_1, hx282_2⟩ := at_T140 HR0.out x4_1 p282 q282
            have hw282_2 := hx282_2
            have hw282_1 := hx282_1
            have hw282_0 := hx282_0
            obtain rfl : ad281 = ad282 := (by injection e282)
            replace hx282_0 := (HB.out.cell (World.block_lt_of_cell? w _ hx282_0)).trans hx282_0
            replace hx282_1 := (HB.out.cell (World.block_lt_of_cell? w _ hx282_1)).trans hx282_1
            replace hx282_2 := (HB.out.cell (World.block_lt_of_cell? w _ hx282_2)).trans hx282_2
            replace p282 := eq_true p282
            replace q282 := eq_true q282
            have p283 : 0 ≤ (x4_1 : Int) := of_decide_eq_true (by first | (with_reducible assumption) | assumption)
            have q283 : x4_1 < (l0.length : Int) := of_decide_eq_true (by first | (with_reducible assumption) | assumption)
            obtain ⟨ad283, e283, hx283_0, hx283_1, hx283_2⟩ := at_T140 HR0.out x4_1 p283 q283
            have hw283_2 := hx283_2
            have hw283_1 := hx283_1
            have hw283_0 := hx283_0
            obtain rfl : ad281 = ad283 := (by injection e283)
            replace hx283_0 := (HB.out.cell (World.block_lt_of_cell? w _ hx283_0)).trans hx283_0
            replace hx283_1 := (HB.out.cell (World.block_lt_of_cell? w _ hx283_1)).trans hx283_1
            replace hx283_2 := (HB.out.cell (World.block_lt_of_cell? w _ hx283_2)).trans hx283_2
            replace p283 := eq_true p283
            replace q283 := eq_true q283
            refine start_ (n := 20) (S := fun w' => w'.cell? (ad281.add ((x4_1).toNat * 3)) = some (.int .i64 ((rd_T140 l0 x4_1).f0)) ∧ w'.cell? ⟨(ad281.add ((x4_1).toNat * 3)).block, (ad281.add ((x4_1).toNat * 3)).off + 1, none⟩ = some (.int .u64 ((rd_T140 l0 x4_1).f1)) ∧ w'.cell? ⟨(ad281.add ((x4_1).toNat * 3)).block, (ad281.add ((x4_1).toNat * 3)).off + 2, none⟩ = some (.int .i64 ((rd_T140 l0 x4_1).f2)) ∧ w'.cell? (ad281.add ((x4_1).toNat * 3)) = some (.int .i64 ((rd_T140 l0 x4_1).f0)) ∧ w'.cell? ⟨(ad281.add ((x4_1).toNat * 3)).block, (ad281.add ((x4_1).toNat * 3)).off + 1, none⟩ = some (.int .u64 ((rd_T140 l0 x4_1).f1)) ∧ w'.cell? ⟨(ad281.add ((x4_1).toNat * 3)).block, (ad281.add ((x4_1).toNat * 3)).off + 2, none⟩ = some (.int .i64 ((rd_T140 l0 x4_1).f2)) ∧ w'.cell? (ad281.add ((x4_1).toNat * 3)) = some (.int .i64 ((rd_T140 l0 x4_1).f0)) ∧ w'.cell? ⟨(ad281.add ((x4_1).toNat * 3)).block, (ad281.add ((x4_1).toNat * 3)).off + 1, none⟩ = some (.int .u64 ((rd_T140 l0 x4_1).f1)) ∧ w'.cell? ⟨(ad281.add ((x4_1).toNat * 3)).block, (ad281.add ((x4_1).toNat * 3)).off + 2, none⟩ = some (.int .i64 ((rd_T140 l0 x4_1).f2))) (ds := []) #[false, false, false, false, false, false, false, false, false, false, false, false, false, false, false, false, false, false, false, false] (by kernel_rfl) rfl rfl ⟨((HB.out.cell (World.block_lt_of_cell? w _ hw281_0)).trans hw281_0), ((HB.out.cell (World.block_lt_of_cell? w _ hw281_1)).trans hw281_1), ((HB.out.cell (World.block_lt_of_cell? w _ hw281_2)).trans hw281_2), ((HB.out.cell (World.block_lt_of_cell? w _ hw282_0)).trans hw282_0), ((HB.out.cell (World.block_lt_of_cell? w _ hw282_1)).trans hw282_1), ((HB.out.cell (World.block_lt_of_cell? w _ hw282_2)).trans hw282_2), ((HB.out.cell (World.block_lt_of_cell? w _ hw283_0)).trans hw283_0), ((HB.out.cell (World.block_lt_of_cell? w _ hw283_1)).trans hw283_1), ((HB.out.cell (World.block_lt_of_cell? w _ hw283_2)).trans hw283_2)⟩ (fun hHeld => ?_); refine with_tabW marchlandlaw03_To.tab5 marchlandlaw03_To.bits5 (fun HT_ HW_ => ?_)
            generalize wr.drew = w5 at HO_3 HB hx281_0 hx281_1 hx281_2 hx282_0 hx282_1 hx282_2 hx283_0 hx283_1 hx283_2 hHeld ⊢
            refine pure_ (i := 0) (N := some 11) (v := ?_) (a' := ?_) #[true, false, false, false, false, false, false, false, false, false, false, false, false, false, false, false, false, false, false, false] rfl rfl (any_of HT_.out (by kernel_rfl)) (fun _ _ _ h => h) (Or.inl ⟨by rfl, ?_⟩) ?_ ?_
            rotate_left
            · intro w'
              go_simp
              with_reducible rfl
            rotate_left
            · simp only [Act.put, List.setIfInBounds_toArray, List.set_cons_zero, List.set_cons_succ, i64_w, i32_w]
              rfl
            refine pure_ (i := 1) (N := some 12) (v := ?_) (a' := ?_) #[true, true, false, false, false, false, false, false, false, false, false, false, false, false, false, false, false, false, false, false] rfl rfl (any_of HT_.out (by kernel_rfl)) (fun _ _ _ h => h) (Or.inl ⟨by rfl, ?_⟩) ?_ ?_
            rotate_left
            · intro w'
              go_simp
              with_reducible rfl
            rotate_left
            · simp only [Act.put, List.setIfInBounds_toArray, List.set_cons_zero, List.set_cons_succ, i64_w, i32_w]
              rfl
            refine pure_ (i := 2) (N := some 13) (v := ?_) (a' := ?_) #[true, true, true, false, false, false, false, false, false, false, false, false, false, false, false, false, false, false, false, false] rfl rfl (any_of HT_.out (by kernel_rfl)) (fun _ _ _ h => h) (Or.inl ⟨by rfl, ?_⟩) ?_ ?_
            rotate_left
            · intro w'
              go_simp
              with_reducible rfl
            rotate_left
            · simp only [Act.put, List.setIfInBounds_toArray, List.set_cons_zero, List.set_cons_succ, i64_w, i32_w]
              rfl
            refine pure_ (i := 3) (N := some 14) (v := ?_) (a' := ?_) #[true, true, true, true, false, false, false, false, false, false, false, false, false, false, false, false, false, false, false, false] rfl rfl (any_of HT_.out (by kernel_rfl)) (fun _ _ _ h => h) (Or.inl ⟨by rfl, ?_⟩) ?_ ?_
            rotate_left
            · intro w'
              go_simp
              with_reducible rfl
            rotate_left
            · simp only [Act.put, List.setIfInBounds_toArray, List.set_cons_zero, List.set_cons_succ, i64_w, i32_w]
              rfl
            refine pure_ (i := 4) (N := some 15) (v := ?_) (a' := ?_) #[true, true, true, true, true, false, false, false, false, false, false, false, false, false, false, false, false, false, false, false] rfl rfl (any_of HT_.out (by kernel_rfl)) (fun _ _ _ h => h) (Or.inl ⟨by rfl, ?_⟩) ?_ ?_
            rotate_left
            · intro w'
              go_simp
              with_reducible rfl
            rotate_left
            · simp only [Act.put, List.setIfInBounds_toArray, List.set_cons_zero, List.set_cons_succ, i64_w, i32_w]
              rfl
            refine pure_ (i := 6) (N := some 17) (v := ?_) (a' := ?_) #[true, true, true, true, true, false, true, false, false, false, false, false, false, false, false, false, false, false, false, false] rfl rfl (any_of HT_.out (by kernel_rfl)) (fun _ _ _ h => h) (Or.inl ⟨by rfl, ?_⟩) ?_ ?_
            rotate_left
            · intro w'
              go_simp
              with_reducible rfl
            rotate_left
            · simp only [Act.put, List.setIfInBounds_toArray, List.set_cons_zero, List.set_cons_succ, i64_w, i32_w]
              rfl
            refine pure_ (i := 7) (N := some 18) (v := ?_) (a' := ?_) #[true, true, true, true, true, false, true, true, false, false, false, false, false, false, false, false, false, false, false, false] rfl rfl (any_of HT_.out (by kernel_rfl)) (fun _ _ _ h => h) (Or.inl ⟨by rfl, ?_⟩) ?_ ?_
            rotate_left
            · intro w'
              go_simp
              with_reducible rfl
            rotate_left
            · simp only [Act.put, List.setIfInBounds_toArray, List.set_cons_zero, List.set_cons_succ, i64_w, i32_w]
              rfl
            refine pure_ (i := 8) (N := some 19) (v := ?_) (a' := ?_) #[true, true, true, true, true, false, true, true, true, false, false, false, false, false, false, false, false, false, false, false] rfl rfl (any_of HT_.out (by kernel_rfl)) (fun _ _ _ h => h) (Or.inl ⟨by rfl, ?_⟩) ?_ ?_
            rotate_left
            · intro w'
              go_simp
              with_reducible rfl
            rotate_left
            · simp only [Act.put, List.setIfInBounds_toArray, List.set_cons_zero, List.set_cons_succ, i64_w, i32_w]
              rfl
            refine pure_ (i := 9) (N := some 20) (v := ?_) (a' := ?_) #[true, true, true, true, true, false, true, true, true, true, false, false, false, false, false, false, false, false, false, false] rfl rfl (any_of HT_.out (by kernel_rfl)) (fun _ _ _ h => h) (Or.inl ⟨by rfl, ?_⟩) ?_ ?_
            rotate_left
            · intro w'
              go_simp
              with_reducible rfl
            rotate_left
            · simp only [Act.put, List.setIfInBounds_toArray, List.set_cons_zero, List.set_cons_succ, i64_w, i32_w]
              rfl
            refine pure_ (i := 11) (N := some 22) (v := ?_) (a' := ?_) #[true, true, true, true, true, false, true, true, true, true, false, true, false, false, false, false, false, false, false, false] rfl rfl (any_of HT_.out (by kernel_rfl)) (fun _ _ _ h => h) (Or.inl ⟨by rfl, ?_⟩) ?_ ?_
            rotate_left
            · intro w'
              go_simp
              with_reducible rfl
            rotate_left
            · simp only [Act.put, List.setIfInBounds_toArray, List.set_cons_zero, List.set_cons_succ, i64_w, i32_w]
              rfl
            refine pure_ (i := 12) (N := some 23) (v := ?_) (a' := ?_) #[true, true, true, true, true, false, true, true, true, true, false, true, true, false, false, false, false, false, false, false] rfl rfl (any_of HT_.out (by kernel_rfl)) (fun _ _ _ h => h) (Or.inl ⟨by rfl, ?_⟩) ?_ ?_
            rotate_left
            · intro w'
              go_simp
              with_reducible rfl
            rotate_left
            · simp only [Act.put, List.setIfInBounds_toArray, List.set_cons_zero, List.set_cons_succ, i64_w, i32_w]
              rfl
            refine pure_ (i := 13) (N := some 24) (v := ?_) (a' := ?_) #[true, true, true, true, true, false, true, true, true, true, false, true, true, true, false, false, false, false, false, false] rfl rfl (any_of HT_.out (by kernel_rfl)) (fun _ _ _ h => h) (Or.inl ⟨by rfl, ?_⟩) ?_ ?_
            rotate_left
            · intro w'
              go_simp
              with_reducible rfl
            rotate_left
            · simp only [Act.put, List.setIfInBounds_toArray, List.set_cons_zero, List.set_cons_succ, i64_w, i32_w]
              rfl
            refine pure_ (i := 14) (N := some 25) (v := ?_) (a' := ?_) #[true, true, true, true, true, false, true, true, true, true, false, true, true, true, true, false, false, false, false, false] rfl rfl (any_of HT_.out (by kernel_rfl)) (fun _ _ _ h => h) (Or.inl ⟨by rfl, ?_⟩) ?_ ?_
            rotate_left
            · intro w'
              go_simp
              with_reducible rfl
            rotate_left
            · simp only [Act.put, List.setIfInBounds_toArray, List.set_cons_zero, List.set_cons_succ, i64_w, i32_w]
              rfl
            refine take_ (i := 5) (N := some 16) (v := ?_) (a' := ?_) #[true, true, true, true, true, true, true, true, true, true, false, true, true, true, true, false, false, false, false, false] rfl rfl (take_ofW HT_.out HW_.out (by kernel_rfl)) (fun _ _ _ h => h) (Or.inl ⟨by rfl, ?_⟩) hHeld ?_ ?_
            rotate_left
            · rintro w' ⟨s0, s1, s2, s3, s4, s5, s6, s7, s8⟩
              go_simp
              with_reducible rfl
            rotate_left
            · simp only [Act.put, List.setIfInBounds_toArray, List.set_cons_zero, List.set_cons_succ, i64_w, i32_w]
              rfl
            refine take_ (i := 10) (N := some 21) (v := ?_) (a' := ?_) #[true, true, true, true, true, true, true, true, true, true, true, true, true, true, true, false, false, false, false, false] rfl rfl (take_ofW HT_.out HW_.out (by kernel_rfl)) (fun _ _ _ h => h) (Or.inl ⟨by rfl, ?_⟩) hHeld ?_ ?_
            rotate_left
            · rintro w' ⟨s0, s1, s2, s3, s4, s5, s6, s7, s8⟩
              go_simp
              with_reducible rfl
            rotate_left
            · simp only [Act.put, List.setIfInBounds_toArray, List.set_cons_zero, List.set_cons_succ, i64_w, i32_w]
              rfl
            refine take_ (i := 15) (N := some 26) (v := ?_) (a' := ?_) #[true, true, true, true, true, true, true, true, true, true, true, true, true, true, true, true, false, false, false, false] rfl rfl (take_ofW HT_.out HW_.out (by kernel_rfl)) (fun _ _ _ h => h) (Or.inl ⟨by rfl, ?_⟩) hHeld ?_ ?_
            rotate_left
            · rintro w' ⟨s0, s1, s2, s3, s4, s5, s6, s7, s8⟩
              go_simp
              with_reducible rfl
            rotate_left
            · simp only [Act.put, List.setIfInBounds_toArray, List.set_cons_zero, List.set_cons_succ, i64_w, i32_w]
              rfl
            refine pure_ (i := 16) (N := some 27) (v := ?_) (a' := ?_) #[true, true, true, true, true, true, true, true, true, true, true, true, true, true, true, true, true, false, false, false] rfl rfl (any_of HT_.out (by kernel_rfl)) (fun _ _ _ h => h) (Or.inl ⟨by rfl, ?_⟩) ?_ ?_
            rotate_left
            · intro w'
              go_simp
              with_reducible rfl
            rotate_left
            · simp only [Act.put, List.setIfInBounds_toArray, List.set_cons_zero, List.set_cons_succ, i64_w, i32_w]
              rfl
            refine one_ (i := 17) (N := some 28) #[true, true, true, true, true, true, true, true, true, true, true, true, true, true, true, true, true, true, false, false] rfl rfl (one_of HT_.out (by kernel_rfl)) (by decide) (fun K hK => ?_)
            refine value_ (w1 := ?_) (v := ?_) (by rfl) rfl ?_ ?_
            rotate_left 2
            · go_simp
              constructor
              · rfl
              · rfl
            refine hK.out _ _ ⟨(World.cell?_alloc_lt _ _ _ (World.block_lt_of_cell? _ _ (((HB.out.cell (World.block_lt_of_cell? w _ hw281_0)).trans hw281_0)))).trans (((HB.out.cell (World.block_lt_of_cell? w _ hw281_0)).trans hw281_0)), (World.cell?_alloc_lt _ _ _ (World.block_lt_of_cell? _ _ (((HB.out.cell (World.block_lt_of_cell? w _ hw281_1)).trans hw281_1)))).trans (((HB.out.cell (World.block_lt_of_cell? w _ hw281_1)).trans hw281_1)), (World.cell?_alloc_lt _ _ _ (World.block_lt_of_cell? _ _ (((HB.out.cell (World.block_lt_of_cell? w _ hw281_2)).trans hw281_2)))).trans (((HB.out.cell (World.block_lt_of_cell? w _ hw281_2)).trans hw281_2)), (World.cell?_alloc_lt _ _ _ (World.block_lt_of_cell? _ _ (((HB.out.cell (World.block_lt_of_cell? w _ hw282_0)).trans hw282_0)))).trans (((HB.out.cell (World.block_lt_of_cell? w _ hw282_0)).trans hw282_0)), (World.cell?_alloc_lt _ _ _ (World.block_lt_of_cell? _ _ (((HB.out.cell (World.block_lt_of_cell? w _ hw282_1)).trans hw282_1)))).trans (((HB.out.cell (World.block_lt_of_cell? w _ hw282_1)).trans hw282_1)), (World.cell?_alloc_lt _ _ _ (World.block_lt_of_cell? _ _ (((HB.out.cell (World.block_lt_of_cell? w _ hw282_2)).trans hw282_2)))).trans (((HB.out.cell (World.block_lt_of_cell? w _ hw282_2)).trans hw282_2)), (World.cell?_alloc_lt _ _ _ (World.block_lt_of_cell? _ _ (((HB.out.cell (World.block_lt_of_cell? w _ hw283_0)).trans hw283_0)))).trans (((HB.out.cell (World.block_lt_of_cell? w _ hw283_0)).trans hw283_0)), (World.cell?_alloc_lt _ _ _ (World.block_lt_of_cell? _ _ (((HB.out.cell (World.block_lt_of_cell? w _ hw283_1)).trans hw283_1)))).trans (((HB.out.cell (World.block_lt_of_cell? w _ hw283_1)).trans hw283_1)), (World.cell?_alloc_lt _ _ _ (World.block_lt_of_cell? _ _ (((HB.out.cell (World.block_lt_of_cell? w _ hw283_2)).trans hw283_2)))).trans (((HB.out.cell (World.block_lt_of_cell? w _ hw283_2)).trans hw283_2))⟩ (fun hHeld => ?_)
            clear hK K
            refine norm_ (a' := ?_) ?_ ?_
            rotate_left
            · show Act.put _ (some 28) _ = _
              simp only [Act.put, List.setIfInBounds_toArray, List.set_cons_zero, List.set_cons_succ, i64_w, i32_w]
              rfl
            refine one_ (i := 18) (N := some 29) #[true, true, true, true, true, true, true, true, true, true, true, true, true, true, true, true, true, true, true, false] rfl rfl (one_of HT_.out (by kernel_rfl)) (by decide) (fun K hK => ?_)
            refine Kd.R_append_step k143 (w0 := w) w.heap.size (by rfl) (.tmp 11) (.tmp 28) 56 143 (.agg #[(.int .i64 0), (.int .u64 0), (.int .i64 0)]) 24 rfl Try.underlying56 info143 rfl (by decide) (by omega) u3 x3_1 (⟨(rd_T140 l0 x4_1).f0, (rd_T140 l0 x4_1).f1, (rd_T140 l0 x4_1).f2⟩ : S143) [.int .i64 ((rd_T140 l0 x4_1).f0), .int .u64 ((rd_T140 l0 x4_1).f1), .int .i64 ((rd_T140 l0 x4_1).f2)] (fun _ => True) (fun _ => False) rfl rfl ?aP (fun _ hk => hk.elim) ?aF ?aO ?aB ?aS ?aL ?_
            (case aP => exact k143_mkM _ _ _ (⟨(rd_T140 l0 x4_1).f0, (rd_T140 l0 x4_1).f1, (rd_T140 l0 x4_1).f2⟩ : S143))
            (case aB => exact (by repeat (first | (with_reducible first | exact HB.out | apply below_alloc | apply pw_below_drewN | apply below_drew1) | exact HB.out)))
            (case aF => exact (fun _ _ => trivial))
            (case aO => exact (by (with_reducible repeat (first | apply Kd.R_alloc | apply Kd.R_drewN | apply Kd.R_drew)); exact HO_3.out))
            (case aS => exact (below_size (by repeat (first | (with_reducible first | exact HB.out | apply below_alloc | apply pw_below_drewN | apply below_drew1) | exact HB.out))))
            (case aL => have := LMc4.out; omega)
            intro v285 w6 ho hb hg hat
            rw [← Ny284.out] at ho
            have n0_ := Aside0.mk (hb)
            have n1_ := Aside0.mk (ho)
            clear HB
            clear HO_3
            have HB := n0_
            have HO286 := n1_
            clear n0_ n1_
            clear ho hb hg hat
            refine hK.out _ _ ⟨((HB.out.cell (World.block_lt_of_cell? w _ hw281_0)).trans hw281_0), ((HB.out.cell (World.block_lt_of_cell? w _ hw281_1)).trans hw281_1), ((HB.out.cell (World.block_lt_of_cell? w _ hw281_2)).trans hw281_2), ((HB.out.cell (World.block_lt_of_cell? w _ hw282_0)).trans hw282_0), ((HB.out.cell (World.block_lt_of_cell? w _ hw282_1)).trans hw282_1), ((HB.out.cell (World.block_lt_of_cell? w _ hw282_2)).trans hw282_2), ((HB.out.cell (World.block_lt_of_cell? w _ hw283_0)).trans hw283_0), ((HB.out.cell (World.block_lt_of_cell? w _ hw283_1)).trans hw283_1), ((HB.out.cell (World.block_lt_of_cell? w _ hw283_2)).trans hw283_2)⟩ (fun hHeld => ?_)
            clear hK K
            refine norm_ (a' := ?_) ?_ ?_
            rotate_left
            · show Act.put _ (some 29) _ = _
              simp only [Act.put, List.setIfInBounds_toArray, List.set_cons_zero, List.set_cons_succ, i64_w, i32_w]
              rfl
            refine pure_ (i := 19) (N := some 3) (v := ?_) (a' := ?_) #[true, true, true, true, true, true, true, true, true, true, true, true, true, true, true, true, true, true, true, true] rfl rfl (any_of HT_.out (by kernel_rfl)) (fun _ _ _ h => h) (Or.inl ⟨by rfl, ?_⟩) ?_ ?_
            rotate_left
            · intro w'
              go_simp
              with_reducible rfl
            rotate_left
            · simp only [Act.put, List.setIfInBounds_toArray, List.set_cons_zero, List.set_cons_succ, i64_w, i32_w]
              rfl
            refine done_ (done_of HT_.out (by kernel_rfl)) ?_
            try go_wp2
            go_roundg k1
            case measure => have := HK1.out; omega
            case rel => exact ⟨(y284), (wrap64 (x4_1 + 1)), (by first | rfl | (simp; done) | (simp [*]; done)), H', ⟨by have := HK1.out; omega⟩, ⟨by (with_reducible repeat (first | apply Kd.R_alloc | apply Kd.R_drewN | apply Kd.R_drew)); exact HO286.out⟩, ⟨by repeat (first | (with_reducible first | exact HB.out | apply below_alloc | apply pw_below_drewN | apply below_drew1) | exact HB.out)⟩⟩
          · rw [if_neg c4] at H
            exact absurd H (by simp)
        · rw [if_neg c3] at H
          exact absurd H (by simp)
      · rw [if_neg c2] at H
        have c2b0 : decide (x4_1 < (l0.length : Int)) = false := decide_eq_false c2
        clear c2
        obtain rfl := Option.some.inj H
        go_wp2
        go_ret
        exact ⟨_, by first | rfl | (simp [errW_none, errW_some] <;> rfl) | (simp [*, errW_none, errW_some] <;> rfl), by (with_reducible repeat (first | apply Kd.R_alloc | apply Kd.R_drewN | apply Kd.R_drew)); exact HO_3.out, by repeat (first | (with_reducible first | exact HB.out | apply below_alloc | apply pw_below_drewN | apply below_drew1) | exact HB.out)⟩
/-! ### marchlandlaw03_From: function 38 -/
def marchlandlaw03_From.l0 : Nat → List (S143) → List (S140) → Int → Option ((List (S140)))
  | 0, _, _, _ => none
  | k + 1, x0, x3, x4 => if x4 < (x0.length : Int) then (if 0 ≤ x4 then (if x3.length < 5864062014805 then (marchlandlaw03_From.l0 k x0 (x3 ++ [(⟨(rd_T143 x0 x4).f0, (rd_T143 x0 x4).f1, (rd_T143 x0 x4).f2⟩ : S140)]) (wrap64 (x4 + 1))) else (none)) else (none)) else (some x3)
def marchlandlaw03_From.f (k : Nat) (l0 : List (S143)) : Option ((List (S140))) := marchlandlaw03_From.l0 k l0 ([] : List (S140)) 0
def marchlandlaw03_From.T5 : Bool × List (List Nat × List Nat) := (true, [([], []), ([], []), ([], []), ([1, 2], [1, 2]), ([3], [3]), ([4], [4]), ([], []), ([], []), ([6, 7], [6, 7]), ([8], [8]), ([9], [9]), ([], []), ([], []), ([11, 12], [11, 12]), ([13], [13]), ([14], [14]), ([5, 10, 15], [5, 10, 15]), ([16], [16]), ([0, 17], [0, 17]), ([18, 18, 0, 1, 2, 3, 4, 5, 6, 7, 8, 9, 10, 11, 12, 13, 14, 15, 16, 17, 18], [0, 18])])
def marchlandlaw03_From.B5 : List Nat := [0, 0, 0, 6, 14, 30, 0, 0, 192, 448, 960, 0, 0, 6144, 14336, 30720, 65534, 131070, 262143, 524287]
theorem marchlandlaw03_From.tab5 : rtab .any (opsOf Try.f38 5) = marchlandlaw03_From.T5 := by kernel_rfl
theorem marchlandlaw03_From.bits5 : waitsOk marchlandlaw03_From.T5.2 marchlandlaw03_From.B5 = true := by kernel_rfl
set_option maxHeartbeats 8000000 in
set_option maxRecDepth 100000 in
theorem marchlandlaw03_From.calls (k : Nat) (A0 : Option Addr) (c0 : Nat) (l0 : List (S143)) (r : List (S140)) (w : World) (hr0 : Kd.C k143 w A0 l0.length l0) (hc0 : l0.length ≤ c0) (h : marchlandlaw03_From.f k l0 = some r) :
    Calls Try.prog 38 #[.slice A0 l0.length c0] w fun e w' => ∃ v0_ : Value, e = .returned (v0_) ∧ Kd.R k140 140 w' w.heap.size (fun _ => True) v0_ r ∧ Below w.heap.size w w' := by
  have hu140 := Try.underlying140
  have HR0 := Aside0.mk hr0
  have HC0 := Aside0.mk hc0
  clear hr0 hc0
  have HB := Aside0.mk (Below.refl w.heap.size w)
  have H : (marchlandlaw03_From.l0 k l0 ([] : List (S140)) 0) = some r := h
  clear h
  have H' := Aside0.mk H
  clear H
  go_enter Try.func38, Try.ntmps38
  go_wp2
  go_loopg [3, 4] k (fun kq v3 v4 w' => ∃ (x3_1 : List (S140)) (x4_1 : Int), v4 = .int .i64 x4_1 ∧ Aside0 (marchlandlaw03_From.l0 kq l0 x3_1 x4_1 = some r) ∧ Aside0 (kq ≤ k) ∧ Aside0 (Kd.R k140 140 w' w.heap.size (fun _ => True) v3 x3_1) ∧ Aside0 (Below w.heap.size w w'))
  case atStart => exact ⟨(([] : List (S140))), (0), (by first | rfl | (simp; done) | (simp [*]; done)), H', ⟨Nat.le_refl _⟩, ⟨by first | exact Kd.R_nil _ _ _ _ _ | exact Kd.N_nil _ _ _ _ _ | exact Kd.V_nil _ _ _ _ _ | exact Kd.Q_nil _ _ _ _ _ | exact Kd.S_nil _ _ _ _ _⟩, ⟨by repeat (first | (with_reducible first | exact HB.out | apply below_alloc | apply pw_below_drewN | apply below_drew1) | exact HB.out)⟩⟩
  case round =>
    clear H'
    obtain ⟨x3_1, x4_1, rfl, HA, HK1, HO_3, HB⟩ := hrel
    cases gk with
    | zero => exact absurd HA.out (by simp [marchlandlaw03_From.l0])
    | succ k1 =>
      have H := HA.out
      clear HA
      simp only [marchlandlaw03_From.l0] at H
      by_cases c2 : x4_1 < (l0.length : Int)
      · rw [if_pos c2] at H
        have c2b0 : decide (x4_1 < (l0.length : Int)) = true := decide_eq_true c2
        clear c2
        by_cases c3 : 0 ≤ x4_1
        · rw [if_pos c3] at H
          have c3b0 : decide (0 ≤ x4_1) = true := decide_eq_true c3
          clear c3
          by_cases c4 : x3_1.length < 5864062014805
          · rw [if_pos c4] at H
            have LMc4 := Aside0.mk c4
            clear c4
            obtain ⟨y292, hy292⟩ : ∃ y_ : List (S140), y_ = (x3_1 ++ [(⟨(rd_T143 l0 x4_1).f0, (rd_T143 l0 x4_1).f1, (rd_T143 l0 x4_1).f2⟩ : S140)]) := ⟨_, rfl⟩
            replace H : (marchlandlaw03_From.l0 k1 l0 y292 (wrap64 (x4_1 + 1))) = some r := by first | (rw [hy292]; with_reducible exact H) | (have H2_ := (Option.bind_some _ _).symm.trans H; rw [hy292]; with_reducible exact H2_) | (have H2_ := (Option.bind_some _ _).symm.trans H; with_reducible exact H2_) | with_reducible exact H | (rw [hy292]; exact H) | exact H
            have Ny292 := Aside0.mk hy292
            clear hy292
            have H' := Aside0.mk H
            clear H
            try go_wp2
            have n0_ := Aside0.mk (Kd.R_drew HO_3.out)
            have n1_ := Aside0.mk (below_drew1 HB.out)
            clear HO_3
            clear HB
            have HO_3 := n0_
            have HB := n1_
            clear n0_ n1_
            have p289 : 0 ≤ (x4_1 : Int) := of_decide_eq_true (by first | (with_reducible assumption) | assumption)
            have q289 : x4_1 < (l0.length : Int) := of_decide_eq_true (by first | (with_reducible assumption) | assumption)
            obtain ⟨ad289, e289, hx289_0, hx289_1, hx289_2⟩ := at_T143 HR0.out x4_1 p289 q289
            have hw289_2 := hx289_2
            have hw289_1 := hx289_1
            have hw289_0 := hx289_0
            cases e289
            replace hx289_0 := (HB.out.cell (World.block_lt_of_cell? w _ hx289_0)).trans hx289_0
            replace hx289_1 := (HB.out.cell (World.block_lt_of_cell? w _ hx289_1)).trans hx289_1
            replace hx289_2 := (HB.out.cell (World.block_lt_of_cell? w _ hx289_2)).trans hx289_2
            replace p289 := eq_true p289
            replace q289 := eq_true q289
            have p290 : 0 ≤ (x4_1 : Int) := of_decide_eq_true (by first | (with_reducible assumption) | assumption)
            have q290 : x4_1 < (l0.length : Int) := of_decide_eq_true (by first | (with_reducible assumption) | assumption)
            obtain ⟨ad290, e290, hx290_0, hx290_1, hx290_2⟩ := at_T143 HR0.out x4_1 p290 q290
            have hw290_2 := hx290_2
            have hw290_1 := hx290_1
            have hw290_0 := hx290_0
            obtain rfl : ad289 = ad290 := (by injection e290)
            replace hx290_0 := (HB.out.cell (World.block_lt_of_cell? w _ hx290_0)).trans hx290_0
            replace hx290_1 := (HB.out.cell (World.block_lt_of_cell? w _ hx290_1)).trans hx290_1
            replace hx290_2 := (HB.out.cell (World.block_lt_of_cell? w _ hx290_2)).trans hx290_2
            replace p290 := eq_true p290
            replace q290 := eq_true q290
            have p291 : 0 ≤ (x4_1 : Int) := of_decide_eq_true (by first | (with_reducible assumption) | assumption)
            have q291 : x4_1 < (l0.length : Int) := of_decide_eq_true (by first | (with_reducible assumption) | assumption)
            obtain ⟨ad291, e291, hx291_0, hx291_1, hx291_2⟩ := at_T143 HR0.out x4_1 p291 q291
            have hw291_2 := hx291_2
            have hw291_1 := hx291_1
            have hw291_0 := hx291_0
            obtain rfl : ad289 = ad291 := (by injection e291)
            replace hx291_0 := (HB.out.cell (World.block_lt_of_cell? w _ hx291_0)).trans hx291_0
            replace hx291_1 := (HB.out.cell (World.block_lt_of_cell? w _ hx291_1)).trans hx291_1
            replace hx291_2 := (HB.out.cell (World.block_lt_of_cell? w _ hx291_2)).trans hx291_2
            replace p291 := eq_true p291
            replace q291 := eq_true q291
            refine start_ (n := 20) (S := fun w' => w'.cell? (ad289.add ((x4_1).toNat * 3)) = some (.int .i64 ((rd_T143 l0 x4_1).f0)) ∧ w'.cell? ⟨(ad289.add ((x4_1).toNat * 3)).block, (ad289.add ((x4_1).toNat * 3)).off + 1, none⟩ = some (.int .u64 ((rd_T143 l0 x4_1).f1)) ∧ w'.cell? ⟨(ad289.add ((x4_1).toNat * 3)).block, (ad289.add ((x4_1).toNat * 3)).off + 2, none⟩ = some (.int .i64 ((rd_T143 l0 x4_1).f2)) ∧ w'.cell? (ad289.add ((x4_1).toNat * 3)) = some (.int .i64 ((rd_T143 l0 x4_1).f0)) ∧ w'.cell? ⟨(ad289.add ((x4_1).toNat * 3)).block, (ad289.add ((x4_1).toNat * 3)).off + 1, none⟩ = some (.int .u64 ((rd_T143 l0 x4_1).f1)) ∧ w'.cell? ⟨(ad289.add ((x4_1).toNat * 3)).block, (ad289.add ((x4_1).toNat * 3)).off + 2, none⟩ = some (.int .i64 ((rd_T143 l0 x4_1).f2)) ∧ w'.cell? (ad289.add ((x4_1).toNat * 3)) = some (.int .i64 ((rd_T143 l0 x4_1).f0)) ∧ w'.cell? ⟨(ad289.add ((x4_1).toNat * 3)).block, (ad289.add ((x4_1).toNat * 3)).off + 1, none⟩ = some (.int .u64 ((rd_T143 l0 x4_1).f1)) ∧ w'.cell? ⟨(ad289.add ((x4_1).toNat * 3)).block, (ad289.add ((x4_1).toNat * 3)).off + 2, none⟩ = some (.int .i64 ((rd_T143 l0 x4_1).f2))) (ds := []) #[false, false, false, false, false, false, false, false, false, false, false, false, false, false, false, false, false, false, false, false] (by kernel_rfl) rfl rfl ⟨((HB.out.cell (World.block_lt_of_cell? w _ hw289_0)).trans hw289_0), ((HB.out.cell (World.block_lt_of_cell? w _ hw289_1)).trans hw289_1), ((HB.out.cell (World.block_lt_of_cell? w _ hw289_2)).trans hw289_2), ((HB.out.cell (World.block_lt_of_cell? w _ hw290_0)).trans hw290_0), ((HB.out.cell (World.block_lt_of_cell? w _ hw290_1)).trans hw290_1), ((HB.out.cell (World.block_lt_of_cell? w _ hw290_2)).trans hw290_2), ((HB.out.cell (World.block_lt_of_cell? w _ hw291_0)).trans hw291_0), ((HB.out.cell (World.block_lt_of_cell? w _ hw291_1)).trans hw291_1), ((HB.out.cell (World.block_lt_of_cell? w _ hw291_2)).trans hw291_2)⟩ (fun hHeld => ?_); refine with_tabW marchlandlaw03_From.tab5 marchlandlaw03_From.bits5 (fun HT_ HW_ => ?_)
            generalize wr.drew = w5 at HO_3 HB hx289_0 hx289_1 hx289_2 hx290_0 hx290_1 hx290_2 hx291_0 hx291_1 hx291_2 hHeld ⊢
            refine pure_ (i := 0) (N := some 11) (v := ?_) (a' := ?_) #[true, false, false, false, false, false, false, false, false, false, false, false, false, false, false, false, false, false, false, false] rfl rfl (any_of HT_.out (by kernel_rfl)) (fun _ _ _ h => h) (Or.inl ⟨by rfl, ?_⟩) ?_ ?_
            rotate_left
            · intro w'
              go_simp
              with_reducible rfl
            rotate_left
            · simp only [Act.put, List.setIfInBounds_toArray, List.set_cons_zero, List.set_cons_succ, i64_w, i32_w]
              rfl
            refine pure_ (i := 1) (N := some 12) (v := ?_) (a' := ?_) #[true, true, false, false, false, false, false, false, false, false, false, false, false, false, false, false, false, false, false, false] rfl rfl (any_of HT_.out (by kernel_rfl)) (fun _ _ _ h => h) (Or.inl ⟨by rfl, ?_⟩) ?_ ?_
            rotate_left
            · intro w'
              go_simp
              with_reducible rfl
            rotate_left
            · simp only [Act.put, List.setIfInBounds_toArray, List.set_cons_zero, List.set_cons_succ, i64_w, i32_w]
              rfl
            refine pure_ (i := 2) (N := some 13) (v := ?_) (a' := ?_) #[true, true, true, false, false, false, false, false, false, false, false, false, false, false, false, false, false, false, false, false] rfl rfl (any_of HT_.out (by kernel_rfl)) (fun _ _ _ h => h) (Or.inl ⟨by rfl, ?_⟩) ?_ ?_
            rotate_left
            · intro w'
              go_simp
              with_reducible rfl
            rotate_left
            · simp only [Act.put, List.setIfInBounds_toArray, List.set_cons_zero, List.set_cons_succ, i64_w, i32_w]
              rfl
            refine pure_ (i := 3) (N := some 14) (v := ?_) (a' := ?_) #[true, true, true, true, false, false, false, false, false, false, false, false, false, false, false, false, false, false, false, false] rfl rfl (any_of HT_.out (by kernel_rfl)) (fun _ _ _ h => h) (Or.inl ⟨by rfl, ?_⟩) ?_ ?_
            rotate_left
            · intro w'
              go_simp
              with_reducible rfl
            rotate_left
            · simp only [Act.put, List.setIfInBounds_toArray, List.set_cons_zero, List.set_cons_succ, i64_w, i32_w]
              rfl
            refine pure_ (i := 4) (N := some 15) (v := ?_) (a' := ?_) #[true, true, true, true, true, false, false, false, false, false, false, false, false, false, false, false, false, false, false, false] rfl rfl (any_of HT_.out (by kernel_rfl)) (fun _ _ _ h => h) (Or.inl ⟨by rfl, ?_⟩) ?_ ?_
            rotate_left
            · intro w'
              go_simp
              with_reducible rfl
            rotate_left
            · simp only [Act.put, List.setIfInBounds_toArray, List.set_cons_zero, List.set_cons_succ, i64_w, i32_w]
              rfl
            refine pure_ (i := 6) (N := some 17) (v := ?_) (a' := ?_) #[true, true, true, true, true, false, true, false, false, false, false, false, false, false, false, false, false, false, false, false] rfl rfl (any_of HT_.out (by kernel_rfl)) (fun _ _ _ h => h) (Or.inl ⟨by rfl, ?_⟩) ?_ ?_
            rotate_left
            · intro w'
              go_simp
              with_reducible rfl
            rotate_left
            · simp only [Act.put, List.setIfInBounds_toArray, List.set_cons_zero, List.set_cons_succ, i64_w, i32_w]
              rfl
            refine pure_ (i := 7) (N := some 18) (v := ?_) (a' := ?_) #[true, true, true, true, true, false, true, true, false, false, false, false, false, false, false, false, false, false, false, false] rfl rfl (any_of HT_.out (by kernel_rfl)) (fun _ _ _ h => h) (Or.inl ⟨by rfl, ?_⟩) ?_ ?_
            rotate_left
            · intro w'
              go_simp
              with_reducible rfl
            rotate_left
            · simp only [Act.put, List.setIfInBounds_toArray, List.set_cons_zero, List.set_cons_succ, i64_w, i32_w]
              rfl
            refine pure_ (i := 8) (N := some 19) (v := ?_) (a' := ?_) #[true, true, true, true, true, false, true, true, true, false, false, false, false, false, false, false, false, false, false, false] rfl rfl (any_of HT_.out (by kernel_rfl)) (fun _ _ _ h => h) (Or.inl ⟨by rfl, ?_⟩) ?_ ?_
            rotate_left
            · intro w'
              go_simp
              with_reducible rfl
            rotate_left
            · simp only [Act.put, List.setIfInBounds_toArray, List.set_cons_zero, List.set_cons_succ, i64_w, i32_w]
              rfl
            refine pure_ (i := 9) (N := some 20) (v := ?_) (a' := ?_) #[true, true, true, true, true, false, true, true, true, true, false, false, false, false, false, false, false, false, false, false] rfl rfl (any_of HT_.out (by kernel_rfl)) (fun _ _ _ h => h) (Or.inl ⟨by rfl, ?_⟩) ?_ ?_
            rotate_left
            · intro w'
              go_simp
              with_reducible rfl
            rotate_left
            · simp only [Act.put, List.setIfInBounds_toArray, List.set_cons_zero, List.set_cons_succ, i64_w, i32_w]
              rfl
            refine pure_ (i := 11) (N := some 22) (v := ?_) (a' := ?_) #[true, true, true, true, true, false, true, true, true, true, false, true, false, false, false, false, false, false, false, false] rfl rfl (any_of HT_.out (by kernel_rfl)) (fun _ _ _ h => h) (Or.inl ⟨by rfl, ?_⟩) ?_ ?_
            rotate_left
            · intro w'
              go_simp
              with_reducible rfl
            rotate_left
            · simp only [Act.put, List.setIfInBounds_toArray, List.set_cons_zero, List.set_cons_succ, i64_w, i32_w]
              rfl
            refine pure_ (i := 12) (N := some 23) (v := ?_) (a' := ?_) #[true, true, true, true, true, false, true, true, true, true, false, true, true, false, false, false, false, false, false, false] rfl rfl (any_of HT_.out (by kernel_rfl)) (fun _ _ _ h => h) (Or.inl ⟨by rfl, ?_⟩) ?_ ?_
            rotate_left
            · intro w'
              go_simp
              with_reducible rfl
            rotate_left
            · simp only [Act.put, List.setIfInBounds_toArray, List.set_cons_zero, List.set_cons_succ, i64_w, i32_w]
              rfl
            refine pure_ (i := 13) (N := some 24) (v := ?_) (a' := ?_) #[true, true, true, true, true, false, true, true, true, true, false, true, true, true, false, false, false, false, false, false] rfl rfl (any_of HT_.out (by kernel_rfl)) (fun _ _ _ h => h) (Or.inl ⟨by rfl, ?_⟩) ?_ ?_
            rotate_left
            · intro w'
              go_simp
              with_reducible rfl
            rotate_left
            · simp only [Act.put, List.setIfInBounds_toArray, List.set_cons_zero, List.set_cons_succ, i64_w, i32_w]
              rfl
            refine pure_ (i := 14) (N := some 25) (v := ?_) (a' := ?_) #[true, true, true, true, true, false, true, true, true, true, false, true, true, true, true, false, false, false, false, false] rfl rfl (any_of HT_.out (by kernel_rfl)) (fun _ _ _ h => h) (Or.inl ⟨by rfl, ?_⟩) ?_ ?_
            rotate_left
            · intro w'
              go_simp
              with_reducible rfl
            rotate_left
            · simp only [Act.put, List.setIfInBounds_toArray, List.set_cons_zero, List.set_cons_succ, i64_w, i32_w]
              rfl
            refine take_ (i := 5) (N := some 16) (v := ?_) (a' := ?_) #[true, true, true, true, true, true, true, true, true, true, false, true, true, true, true, false, false, false, false, false] rfl rfl (take_ofW HT_.out HW_.out (by kernel_rfl)) (fun _ _ _ h => h) (Or.inl ⟨by rfl, ?_⟩) hHeld ?_ ?_
            rotate_left
            · rintro w' ⟨s0, s1, s2, s3, s4, s5, s6, s7, s8⟩
              go_simp
              with_reducible rfl
            rotate_left
            · simp only [Act.put, List.setIfInBounds_toArray, List.set_cons_zero, List.set_cons_succ, i64_w, i32_w]
              rfl
            refine take_ (i := 10) (N := some 21) (v := ?_) (a' := ?_) #[true, true, true, true, true, true, true, true, true, true, true, true, true, true, true, false, false, false, false, false] rfl rfl (take_ofW HT_.out HW_.out (by kernel_rfl)) (fun _ _ _ h => h) (Or.inl ⟨by rfl, ?_⟩) hHeld ?_ ?_
            rotate_left
            · rintro w' ⟨s0, s1, s2, s3, s4, s5, s6, s7, s8⟩
              go_simp
              with_reducible rfl
            rotate_left
            · simp only [Act.put, List.setIfInBounds_toArray, List.set_cons_zero, List.set_cons_succ, i64_w, i32_w]
              rfl
            refine take_ (i := 15) (N := some 26) (v := ?_) (a' := ?_) #[true, true, true, true, true, true, true, true, true, true, true, true, true, true, true, true, false, false, false, false] rfl rfl (take_ofW HT_.out HW_.out (by kernel_rfl)) (fun _ _ _ h => h) (Or.inl ⟨by rfl, ?_⟩) hHeld ?_ ?_
            rotate_left
            · rintro w' ⟨s0, s1, s2, s3, s4, s5, s6, s7, s8⟩
              go_simp
              with_reducible rfl
            rotate_left
            · simp only [Act.put, List.setIfInBounds_toArray, List.set_cons_zero, List.set_cons_succ, i64_w, i32_w]
              rfl
            refine pure_ (i := 16) (N := some 27) (v := ?_) (a' := ?_) #[true, true, true, true, true, true, true, true, true, true, true, true, true, true, true, true, true, false, false, false] rfl rfl (any_of HT_.out (by kernel_rfl)) (fun _ _ _ h => h) (Or.inl ⟨by rfl, ?_⟩) ?_ ?_
            rotate_left
            · intro w'
              go_simp
              with_reducible rfl
            rotate_left
            · simp only [Act.put, List.setIfInBounds_toArray, List.set_cons_zero, List.set_cons_succ, i64_w, i32_w]
              rfl
            refine one_ (i := 17) (N := some 28) #[true, true, true, true, true, true, true, true, true, true, true, true, true, true, true, true, true, true, false, false] rfl rfl (one_of HT_.out (by kernel_rfl)) (by decide) (fun K hK => ?_)
            refine value_ (w1 := ?_) (v := ?_) (by rfl) rfl ?_ ?_
            rotate_left 2
            · go_simp
              constructor
              · rfl
              · rfl
            refine hK.out _ _ ⟨(World.cell?_alloc_lt _ _ _ (World.block_lt_of_cell? _ _ (((HB.out.cell (World.block_lt_of_cell? w _ hw289_0)).trans hw289_0)))).trans (((HB.out.cell (World.block_lt_of_cell? w _ hw289_0)).trans hw289_0)), (World.cell?_alloc_lt _ _ _ (World.block_lt_of_cell? _ _ (((HB.out.cell (World.block_lt_of_cell? w _ hw289_1)).trans hw289_1)))).trans (((HB.out.cell (World.block_lt_of_cell? w _ hw289_1)).trans hw289_1)), (World.cell?_alloc_lt _ _ _ (World.block_lt_of_cell? _ _ (((HB.out.cell (World.block_lt_of_cell? w _ hw289_2)).trans hw289_2)))).trans (((HB.out.cell (World.block_lt_of_cell? w _ hw289_2)).trans hw289_2)), (World.cell?_alloc_lt _ _ _ (World.block_lt_of_cell? _ _ (((HB.out.cell (World.block_lt_of_cell? w _ hw290_0)).trans hw290_0)))).trans (((HB.out.cell (World.block_lt_of_cell? w _ hw290_0)).trans hw290_0)), (World.cell?_alloc_lt _ _ _ (World.block_lt_of_cell? _ _ (((HB.out.cell (World.block_lt_of_cell? w _ hw290_1)).trans hw290_1)))).trans (((HB.out.cell (World.block_lt_of_cell? w _ hw290_1)).trans hw290_1)), (World.cell?_alloc_lt _ _ _ (World.block_lt_of_cell? _ _ (((HB.out.cell (World.block_lt_of_cell? w _ hw290_2)).trans hw290_2)))).trans (((HB.out.cell (World.block_lt_of_cell? w _ hw290_2)).trans hw290_2)), (World.cell?_alloc_lt _ _ _ (World.block_lt_of_cell? _ _ (((HB.out.cell (World.block_lt_of_cell? w _ hw291_0)).trans hw291_0)))).trans (((HB.out.cell (World.block_lt_of_cell? w _ hw291_0)).trans hw291_0)), (World.cell?_alloc_lt _ _ _ (World.block_lt_of_cell? _ _ (((HB.out.cell (World.block_lt_of_cell? w _ hw291_1)).trans hw291_1)))).trans (((HB.out.cell (World.block_lt_of_cell? w _ hw291_1)).trans hw291_1)), (World.cell?_alloc_lt _ _ _ (World.block_lt_of_cell? _ _ (((HB.out.cell (World.block_lt_of_cell? w _ hw291_2)).trans hw291_2)))).trans (((HB.out.cell (World.block_lt_of_cell? w _ hw291_2)).trans hw291_2))⟩ (fun hHeld => ?_)
            clear hK K
            refine norm_ (a' := ?_) ?_ ?_
            rotate_left
            · show Act.put _ (some 28) _ = _
              simp only [Act.put, List.setIfInBounds_toArray, List.set_cons_zero, List.set_cons_succ, i64_w, i32_w]
              rfl
            refine one_ (i := 18) (N := some 29) #[true, true, true, true, true, true, true, true, true, true, true, true, true, true, true, true, true, true, true, false] rfl rfl (one_of HT_.out (by kernel_rfl)) (by decide) (fun K hK => ?_)
            refine Kd.R_append_step k140 (w0 := w) w.heap.size (by rfl) (.tmp 11) (.tmp 28) 51 140 (.agg #[(.int .i64 0), (.int .u64 0), (.int .i64 0)]) 24 rfl Try.underlying51 info140 rfl (by decide) (by omega) u3 x3_1 (⟨(rd_T143 l0 x4_1).f0, (rd_T143 l0 x4_1).f1, (rd_T143 l0 x4_1).f2⟩ : S140) [.int .i64 ((rd_T143 l0 x4_1).f0), .int .u64 ((rd_T143 l0 x4_1).f1), .int .i64 ((rd_T143 l0 x4_1).f2)] (fun _ => True) (fun _ => False) rfl rfl ?aP (fun _ hk => hk.elim) ?aF ?aO ?aB ?aS ?aL ?_
            (case aP => exact k140_mkM _ _ _ (⟨(rd_T143 l0 x4_1).f0, (rd_T143 l0 x4_1).f1, (rd_T143 l0 x4_1).f2⟩ : S140))
            (case aB => exact (by repeat (first | (with_reducible first | exact HB.out | apply below_alloc | apply pw_below_drewN | apply below_drew1) | exact HB.out)))
            (case aF => exact (fun _ _ => trivial))
            (case aO => exact (by (with_reducible repeat (first | apply Kd.R_alloc | apply Kd.R_drewN | apply Kd.R_drew)); exact HO_3.out))
            (case aS => exact (below_size (by repeat (first | (with_reducible first | exact HB.out | apply below_alloc | apply pw_below_drewN | apply below_drew1) | exact HB.out))))
            (case aL => have := LMc4.out; omega)
            intro v293 w6 ho hb hg hat
            rw [← Ny292.out] at ho
            have n0_ := Aside0.mk (hb)
            have n1_ := Aside0.mk (ho)
            clear HB
            clear HO_3
            have HB := n0_
            have HO294 := n1_
            clear n0_ n1_
            clear ho hb hg hat
            refine hK.out _ _ ⟨((HB.out.cell (World.block_lt_of_cell? w _ hw289_0)).trans hw289_0), ((HB.out.cell (World.block_lt_of_cell? w _ hw289_1)).trans hw289_1), ((HB.out.cell (World.block_lt_of_cell? w _ hw289_2)).trans hw289_2), ((HB.out.cell (World.block_lt_of_cell? w _ hw290_0)).trans hw290_0), ((HB.out.cell (World.block_lt_of_cell? w _ hw290_1)).trans hw290_1), ((HB.out.cell (World.block_lt_of_cell? w _ hw290_2)).trans hw290_2), ((HB.out.cell (World.block_lt_of_cell? w _ hw291_0)).trans hw291_0), ((HB.out.cell (World.block_lt_of_cell? w _ hw291_1)).trans hw291_1), ((HB.out.cell (World.block_lt_of_cell? w _ hw291_2)).trans hw291_2)⟩ (fun hHeld => ?_)
            clear hK K
            refine norm_ (a' := ?_) ?_ ?_
            rotate_left
            · show Act.put _ (some 29) _ = _
              simp only [Act.put, List.setIfInBounds_toArray, List.set_cons_zero, List.set_cons_succ, i64_w, i32_w]
              rfl
            refine pure_ (i := 19) (N := some 3) (v := ?_) (a' := ?_) #[true, true, true, true, true, true, true, true, true, true, true, true, true, true, true, true, true, true, true, true] rfl rfl (any_of HT_.out (by kernel_rfl)) (fun _ _ _ h => h) (Or.inl ⟨by rfl, ?_⟩) ?_ ?_
            rotate_left
            · intro w'
              go_simp
              with_reducible rfl
            rotate_left
            · simp only [Act.put, List.setIfInBounds_toArray, List.set_cons_zero, List.set_cons_succ, i64_w, i32_w]
              rfl
            refine done_ (done_of HT_.out (by kernel_rfl)) ?_
            try go_wp2
            go_roundg k1
            case measure => have := HK1.out; omega
            case rel => exact ⟨(y292), (wrap64 (x4_1 + 1)), (by first | rfl | (simp; done) | (simp [*]; done)), H', ⟨by have := HK1.out; omega⟩, ⟨by (with_reducible repeat (first | apply Kd.R_alloc | apply Kd.R_drewN | apply Kd.R_drew)); exact HO294.out⟩, ⟨by repeat (first | (with_reducible first | exact HB.out | apply below_alloc | apply pw_below_drewN | apply below_drew1) | exact HB.out)⟩⟩
          · rw [if_neg c4] at H
            exact absurd H (by simp)
        · rw [if_neg c3] at H
          exact absurd H (by simp)
      · rw [if_neg c2] at H
        have c2b0 : decide (x4_1 < (l0.length : Int)) = false := decide_eq_false c2
        clear c2
        obtain rfl := Option.some.inj H
        go_wp2
        go_ret
        exact ⟨_, by first | rfl | (simp [errW_none, errW_some] <;> rfl) | (simp [*, errW_none, errW_some] <;> rfl), by (with_reducible repeat (first | apply Kd.R_alloc | apply Kd.R_drewN | apply Kd.R_drew)); exact HO_3.out, by repeat (first | (with_reducible first | exact HB.out | apply below_alloc | apply pw_below_drewN | apply below_drew1) | exact HB.out)⟩
theorem eqA140 (d : Nat) (w : World) (x0 y0 : Int) (x1 y1 : Int) (x2 y2 : Int) :
    (Op.equalIn (d + 2) 140 (.agg #[.int .i64 x0, .int .u64 x1, .int .i64 x2]) (.agg #[.int .i64 y0, .int .u64 y1, .int .i64 y2])).run Try.prog w = .ok (x0 == y0 && (x1 == y1 && (x2 == y2))) w := by
  refine eqA_of Try.underlying140 (by kernel_rfl) ?_
  refine eqf_cons (by rfl) (by go_simp; rfl) (by go_simp; rfl) (by go_simp) ?_
  refine eqf_cons (by rfl) (by go_simp; rfl) (by go_simp; rfl) (by go_simp) ?_
  exact eqf_last (by rfl) (by go_simp; rfl) (by go_simp; rfl) (by go_simp)
attribute [local go_sem high] eqA140
/-! ### marchlandref03_Same: function 37 -/
def marchlandref03_Same.l0 : Nat → List (S140) → List (S140) → Int → Option (Bool)
  | 0, _, _, _ => none
  | k + 1, x0, x1, x5 => if x5 < (x0.length : Int) then (if 0 ≤ x5 then (if x5 < (x1.length : Int) then (if (!(((rd_T140 x0 x5).f0) == ((rd_T140 x1 x5).f0)) || (!(((rd_T140 x0 x5).f1) == ((rd_T140 x1 x5).f1)) || (!(((rd_T140 x0 x5).f2) == ((rd_T140 x1 x5).f2))))) = true then (some false) else (marchlandref03_Same.l0 k x0 x1 (wrap64 (x5 + 1)))) else (none)) else (none)) else (some true)
def marchlandref03_Same.f (k : Nat) (l0 : List (S140)) (l1 : List (S140)) : Option (Bool) := if (l0.length : Int) = (l1.length : Int) then (marchlandref03_Same.l0 k l0 l1 0) else (some false)
set_option maxHeartbeats 8000000 in
set_option maxRecDepth 100000 in
theorem marchlandref03_Same.calls (k : Nat) (A0 : Option Addr) (c0 : Nat) (l0 : List (S140)) (A1 : Option Addr) (c1 : Nat) (l1 : List (S140)) (r : Bool) (w : World) (hr0 : Kd.C k140 w A0 l0.length l0) (hc0 : l0.length ≤ c0) (hr1 : Kd.C k140 w A1 l1.length l1) (hc1 : l1.length ≤ c1) (h : marchlandref03_Same.f k l0 l1 = some r) :
    Calls Try.prog 37 #[.slice A0 l0.length c0, .slice A1 l1.length c1] w fun e w' => e = .returned (.bool r) ∧ Drawn0 w w' := by
  have hu140 := Try.underlying140
  have HR0 := Aside0.mk hr0
  have HC0 := Aside0.mk hc0
  clear hr0 hc0
  have HR1 := Aside0.mk hr1
  have HC1 := Aside0.mk hc1
  clear hr1 hc1
  have H : (if (l0.length : Int) = (l1.length : Int) then (marchlandref03_Same.l0 k l0 l1 0) else (some false)) = some r := h
  clear h
  by_cases c3 : (l0.length : Int) = (l1.length : Int)
  · rw [if_pos c3] at H
    have c3b0 : ((l0.length : Int) == (l1.length : Int)) = true := beq_iff_eq.mpr c3
    have c3b1 : ((l0.length : Int) != (l1.length : Int)) = false := bne_eq_false_iff_eq.mpr c3
    have c3b2 : (l0.length == l1.length) = true := by first | simpa using c3 | (simp at c3 ⊢; omega)
    clear c3
    have H' := Aside0.mk H
    clear H
    go_enter Try.func37, Try.ntmps37
    go_wp2
    repeat (go_quiet (fail); try go_wp2)
    go_loopg [5] k (fun kq v5 w' => ∃ (x5_1 : Int), v5 = .int .i64 x5_1 ∧ Aside0 (marchlandref03_Same.l0 kq l0 l1 x5_1 = some r) ∧ Aside0 (kq ≤ k) ∧ Drawn0 w w')
    case atStart => exact ⟨(0), (by first | rfl | (simp; done) | (simp [*]; done)), H', ⟨Nat.le_refl _⟩, by repeat (first | exact Drawn0.refl _ | apply Drawn0.step)⟩
    case round =>
      clear H'
      try clear c1
      try clear p2
      try clear c3
      try clear c3b0
      try clear c3b1
      try clear c3b2
      obtain ⟨x5_1, rfl, HA, HK1, ⟨m1, rfl⟩⟩ := hrel
      cases gk with
      | zero => exact absurd HA.out (by simp [marchlandref03_Same.l0])
      | succ k1 =>
        have H := HA.out
        clear HA
        simp only [marchlandref03_Same.l0] at H
        by_cases c4 : x5_1 < (l0.length : Int)
        · rw [if_pos c4] at H
          have c4b0 : decide (x5_1 < (l0.length : Int)) = true := decide_eq_true c4
          clear c4
          by_cases c5 : 0 ≤ x5_1
          · rw [if_pos c5] at H
            have c5b0 : decide (0 ≤ x5_1) = true := decide_eq_true c5
            clear c5
            by_cases c6 : x5_1 < (l1.length : Int)
            · rw [if_pos c6] at H
              have c6b0 : decide (x5_1 < (l1.length : Int)) = true := decide_eq_true c6
              clear c6
              by_cases c7 : (!(((rd_T140 l0 x5_1).f0) == ((rd_T140 l1 x5_1).f0)) || (!(((rd_T140 l0 x5_1).f1) == ((rd_T140 l1 x5_1).f1)) || (!(((rd_T140 l0 x5_1).f2) == ((rd_T140 l1 x5_1).f2))))) = true
              · rw [if_pos c7] at H
                have c7b0 : (!(((rd_T140 l0 x5_1).f0) == ((rd_T140 l1 x5_1).f0)) || (!(((rd_T140 l0 x5_1).f1) == ((rd_T140 l1 x5_1).f1)) || (!(((rd_T140 l0 x5_1).f2) == ((rd_T140 l1 x5_1).f2))))) = true := c7
                clear c7
                obtain rfl := Option.some.inj H
                have p287 : 0 ≤ (x5_1 : Int) := of_decide_eq_true (by first | (with_reducible assumption) | assumption)
                have q287 : x5_1 < (l0.length : Int) := of_decide_eq_true (by first | (with_reducible assumption) | assumption)
                obtain ⟨ad287, e287, hx287_0, hx287_1, hx287_2⟩ := at_T140 HR0.out x5_1 p287 q287
                cases e287
                replace p287 := eq_true p287
                replace q287 := eq_true q287
                have p288 : 0 ≤ (x5_1 : Int) := of_decide_eq_true (by first | (with_reducible assumption) | assumption)
                have q288 : x5_1 < (l1.length : Int) := of_decide_eq_true (by first | (with_reducible assumption) | assumption)
                obtain ⟨ad288, e288, hx288_0, hx288_1, hx288_2⟩ := at_T140 HR1.out x5_1 p288 q288
                cases e288
                replace p288 := eq_true p288
                replace q288 := eq_true q288
                go_wp2
                repeat (go_quiet (fail); try go_wp2)
                go_ret
                exact ⟨by first | rfl | (simp; done) | (simp [*]; done), by repeat (first | exact Drawn0.refl _ | apply Drawn0.step)⟩
              · rw [if_neg c7] at H
                have c7b0 : (!(((rd_T140 l0 x5_1).f0) == ((rd_T140 l1 x5_1).f0)) || (!(((rd_T140 l0 x5_1).f1) == ((rd_T140 l1 x5_1).f1)) || (!(((rd_T140 l0 x5_1).f2) == ((rd_T140 l1 x5_1).f2))))) = false := by simpa using c7
                clear c7
                have H' := Aside0.mk H
                clear H
                have p287 : 0 ≤ (x5_1 : Int) := of_decide_eq_true (by first | (with_reducible assumption) | assumption)
                have q287 : x5_1 < (l0.length : Int) := of_decide_eq_true (by first | (with_reducible assumption) | assumption)
                obtain ⟨ad287, e287, hx287_0, hx287_1, hx287_2⟩ := at_T140 HR0.out x5_1 p287 q287
                cases e287
                replace p287 := eq_true p287
                replace q287 := eq_true q287
                have p288 : 0 ≤ (x5_1 : Int) := of_decide_eq_true (by first | (with_reducible assumption) | assumption)
                have q288 : x5_1 < (l1.length : Int) := of_decide_eq_true (by first | (with_reducible assumption) | assumption)
                obtain ⟨ad288, e288, hx288_0, hx288_1, hx288_2⟩ := at_T140 HR1.out x5_1 p288 q288
                cases e288
                replace p288 := eq_true p288
                replace q288 := eq_true q288
                go_wp2
                repeat (go_quiet (fail); try go_wp2)
                go_roundg k1
                case measure => have := HK1.out; omega
                case rel => exact ⟨(wrap64 (x5_1 + 1)), (by first | rfl | (simp; done) | (simp [*]; done)), H', ⟨by have := HK1.out; omega⟩, by repeat (first | exact Drawn0.refl _ | apply Drawn0.step)⟩
            · rw [if_neg c6] at H
              exact absurd H (by simp)
          · rw [if_neg c5] at H
            exact absurd H (by simp)
        · rw [if_neg c4] at H
          have c4b0 : decide (x5_1 < (l0.length : Int)) = false := decide_eq_false c4
          clear c4
          obtain rfl := Option.some.inj H
          go_wp2
          repeat (go_quiet (fail); try go_wp2)
          go_ret
          exact ⟨by first | rfl | (simp; done) | (simp [*]; done), by repeat (first | exact Drawn0.refl _ | apply Drawn0.step)⟩
  · rw [if_neg c3] at H
    have c3b0 : ((l0.length : Int) == (l1.length : Int)) = false := beq_eq_false_iff_ne.mpr c3
    have c3b1 : ((l0.length : Int) != (l1.length : Int)) = true := bne_iff_ne.mpr c3
    have c3b2 : (l0.length == l1.length) = false := by first | simpa using c3 | (simp at c3 ⊢; omega)
    obtain rfl := Option.some.inj H
    go_enter Try.func37, Try.ntmps37
    go_wp2
    repeat (go_quiet (fail); try go_wp2)
    go_ret
    exact ⟨by first | rfl | (simp; done) | (simp [*]; done), by repeat (first | exact Drawn0.refl _ | apply Drawn0.step)⟩
end Go.Proofs.Ytlcnckbmolefpaa.P
end
section
namespace Go.Proofs.Ytlcnckbmolefpaa.Pure
open Go.RowKit Go.Proofs.Ytlcnckbmolefpaa.P Go.Proofs.YtlcnckbmolefpaaW.PrintWords Go.Proofs.YtlcnckbmolefpaaW.PrintLast
set_option linter.unusedVariables false
set_option linter.unusedSimpArgs false
deriving instance DecidableEq for S143
theorem ke_comm {a b : S143} : ke a b ↔ ke b a := by unfold ke; omega
theorem good_cons {c : S143} {G : List S143} : good (c :: G) = (decide (wi c.f2) && good G) := by simp [good]
theorem fin_cons {c : S143} {G : List S143} : fin (c :: G) = fin [c] ++ fin G := by simp only [fin, List.filter_cons]; split <;> simp
theorem fin_len (G : List S143) : (fin G).length ≤ G.length := List.length_filter_le _ _
theorem to_l0 (X : List S143) (hl : Short X.length) : ∀ (r pre : List S143), X = pre ++ r → Ev (fun k => marchlandlaw03_To.l0 k (X.map v) pre (pre.length : Int)) X := by
  unfold Short at hl
  intro r
  induction r with
  | nil =>
    intro pre e
    refine ⟨1, fun k hk => ?_⟩
    obtain ⟨k, rfl⟩ : ∃ m, k = m + 1 := ⟨k - 1, by omega⟩
    show marchlandlaw03_To.l0 (k + 1) _ _ _ = _
    rw [marchlandlaw03_To.l0, if_neg (by subst e; simp)]
    simp [e]
  | cons x r ih =>
    intro pre e
    obtain ⟨K1, h1⟩ := ih (pre ++ [x]) (by simp [e])
    refine ⟨K1 + 1, fun k hk => ?_⟩
    obtain ⟨k, rfl⟩ : ∃ m, k = m + 1 := ⟨k - 1, by omega⟩
    have h1 := h1 k (by omega); dsimp only at h1
    have ll : X.length = pre.length + (r.length + 1) := by rw [e]; simp
    have lm : (X.map v).length = X.length := by simp
    have e1 : rd_T140 (X.map v) (pre.length : Int) = v x := by rw [e, List.map_append]; exact rd4 _ _ _ (by simp)
    have ew : wrap64 ((pre.length : Int) + 1) = ((pre ++ [x]).length : Int) := by rw [w64s (by omega)]; simp
    show marchlandlaw03_To.l0 (k + 1) _ _ _ = _
    rw [marchlandlaw03_To.l0, if_pos (by omega), if_pos (by omega), if_pos (by omega), e1, ew]
    exact h1
theorem to_ev (X : List S143) (hl : Short X.length) : Ev (fun k => marchlandlaw03_To.f k (X.map v)) X := to_l0 X hl X [] rfl
theorem from_l0 (X : List S143) (hl : Short X.length) : ∀ (r pre : List S143), X = pre ++ r → Ev (fun k => marchlandlaw03_From.l0 k X (pre.map v) (pre.length : Int)) (X.map v) := by
  unfold Short at hl
  intro r
  induction r with
  | nil =>
    intro pre e
    refine ⟨1, fun k hk => ?_⟩
    obtain ⟨k, rfl⟩ : ∃ m, k = m + 1 := ⟨k - 1, by omega⟩
    show marchlandlaw03_From.l0 (k + 1) _ _ _ = _
    rw [marchlandlaw03_From.l0, if_neg (by subst e; simp)]
    simp [e]
  | cons x r ih =>
    intro pre e
    obtain ⟨K1, h1⟩ := ih (pre ++ [x]) (by simp [e])
    refine ⟨K1 + 1, fun k hk => ?_⟩
    obtain ⟨k, rfl⟩ : ∃ m, k = m + 1 := ⟨k - 1, by omega⟩
    have h1 := h1 k (by omega); dsimp only at h1
    have ll : X.length = pre.length + (r.length + 1) := by rw [e]; simp
    have lm : (pre.map v).length = pre.length := by simp
    have e1 : rd_T143 X (pre.length : Int) = x := by rw [e]; exact rd5 _ _ _ rfl
    have ew : wrap64 ((pre.length : Int) + 1) = ((pre ++ [x]).length : Int) := by rw [w64s (by omega)]; simp
    have em : pre.map v ++ [⟨x.f0, x.f1, x.f2⟩] = (pre ++ [x]).map v := by simp [v]
    show marchlandlaw03_From.l0 (k + 1) _ _ _ = _
    rw [marchlandlaw03_From.l0, if_pos (by omega), if_pos (by omega), if_pos (by omega), e1, ew, em]
    exact h1
theorem from_ev (X : List S143) (hl : Short X.length) : Ev (fun k => marchlandlaw03_From.f k X) (X.map v) := from_l0 X hl X [] rfl
theorem same3_l0 (A B : List S143) (hl : Short A.length) (he : A.length = B.length) : ∀ (a b pre : List S143), A = pre ++ a → B = pre ++ b → a.length = b.length →
    Ev (fun k => marchlandref03_Same.l0 k (A.map v) (B.map v) (pre.length : Int)) (decide (A = B)) := by
  unfold Short at hl
  intro a
  induction a with
  | nil =>
    intro b pre e1 e2 e3
    obtain rfl : b = [] := List.eq_nil_of_length_eq_zero e3.symm
    refine ⟨1, fun k hk => ?_⟩
    obtain ⟨k, rfl⟩ : ∃ m, k = m + 1 := ⟨k - 1, by omega⟩
    show marchlandref03_Same.l0 (k + 1) _ _ _ = _
    rw [marchlandref03_Same.l0, if_neg (by subst e1; simp)]
    simp [e1, e2]
  | cons x a ih =>
    intro b pre e1 e2 e3
    cases b with
    | nil => simp at e3
    | cons y b =>
      have ll : A.length = pre.length + (a.length + 1) := by rw [e1]; simp
      have lA : (A.map v).length = A.length := by simp
      have lB : (B.map v).length = B.length := by simp
      have r1 : rd_T140 (A.map v) (pre.length : Int) = v x := by rw [e1, List.map_append]; exact rd4 _ _ _ (by simp)
      have r2 : rd_T140 (B.map v) (pre.length : Int) = v y := by rw [e2, List.map_append]; exact rd4 _ _ _ (by simp)
      by_cases hxy : x = y
      · subst hxy
        obtain ⟨K1, h1⟩ := ih b (pre ++ [x]) (by simp [e1]) (by simp [e2]) (by simpa using e3)
        refine ⟨K1 + 1, fun k hk => ?_⟩
        obtain ⟨k, rfl⟩ : ∃ m, k = m + 1 := ⟨k - 1, by omega⟩
        have h1 := h1 k (by omega); dsimp only at h1
        have ew : wrap64 ((pre.length : Int) + 1) = ((pre ++ [x]).length : Int) := by rw [w64s (by omega)]; simp
        show marchlandref03_Same.l0 (k + 1) _ _ _ = _
        rw [marchlandref03_Same.l0, if_pos (by omega), if_pos (by omega), if_pos (by omega), r1, r2, if_neg (by simp), ew]
        exact h1
      · refine ⟨1, fun k hk => ?_⟩
        obtain ⟨k, rfl⟩ : ∃ m, k = m + 1 := ⟨k - 1, by omega⟩
        have hne : A ≠ B := by rw [e1, e2]; simp [hxy]
        show marchlandref03_Same.l0 (k + 1) _ _ _ = _
        rw [marchlandref03_Same.l0, if_pos (by omega), if_pos (by omega), if_pos (by omega), r1, r2, if_pos]
        · simp [hne]
        · obtain ⟨a0, a1, a2⟩ := x
          obtain ⟨b0, b1, b2⟩ := y
          simp only [v, S143.mk.injEq, not_and] at hxy ⊢
          by_cases q0 : a0 = b0 <;> by_cases q1 : a1 = b1 <;> simp_all
theorem same3_ev (A B : List S143) (hl : Short A.length) : Ev (fun k => marchlandref03_Same.f k (A.map v) (B.map v)) (decide (A = B)) := by
  by_cases he : A.length = B.length
  · refine Ev.congr (fun k => ?_) (same3_l0 A B hl he A B [] rfl rfl he)
    show marchlandref03_Same.f k _ _ = _
    rw [marchlandref03_Same.f, if_pos (by simp [he])]; rfl
  · refine ⟨0, fun k hk => ?_⟩
    show marchlandref03_Same.f k _ _ = _
    rw [marchlandref03_Same.f, if_neg (by simp; omega)]
    have : A ≠ B := fun h => he (by rw [h])
    simp [this]
theorem rd4m (p : List S143) (x : S143) (q : List S143) {i : Int} (h : i = p.length) : rd_T140 ((p ++ x :: q).map v) i = v x := by rw [List.map_append]; exact rd4 _ _ _ (by simp [h])
theorem set4m (p : List S143) (x : S143) (q : List S143) (y : S143) {n : Nat} (h : n = p.length) : ((p ++ x :: q).map v).set n (v y) = (p ++ y :: q).map v := by subst h; simp [List.map_append, List.set_append]
theorem sums_l3 (G : List S143) (hl : Short G.length) : ∀ (r pre acc : List S143), G = pre ++ r → acc.length ≤ pre.length →
    Ev (fun k => marchlandref03_sums.l3 k (G.map v) (acc.map v) (pre.length : Int)) (if good r = true then ((acc ++ fin r).map v, true) else ([], false)) := by
  unfold Short at hl
  intro r
  induction r with
  | nil =>
    intro pre acc e ha
    refine ⟨1, fun k hk => ?_⟩
    obtain ⟨k, rfl⟩ : ∃ m, k = m + 1 := ⟨k - 1, by omega⟩
    show marchlandref03_sums.l3 (k + 1) _ _ _ = _
    rw [marchlandref03_sums.l3, if_neg (by subst e; simp)]
    simp [good, fin]
  | cons x r ih =>
    intro pre acc e ha
    obtain ⟨K1, h1⟩ := ih (pre ++ [x]) (acc ++ fin [x]) (by simp [e]) (by have := fin_len [x]; simp at this ⊢; omega)
    refine ⟨K1 + 1, fun k hk => ?_⟩
    obtain ⟨k, rfl⟩ : ∃ m, k = m + 1 := ⟨k - 1, by omega⟩
    have h1 := h1 k (by omega); dsimp only at h1
    have ll : G.length = pre.length + (r.length + 1) := by rw [e]; simp
    have lm : (G.map v).length = G.length := by simp
    have lc : (acc.map v).length = acc.length := by simp
    have e1 : rd_T140 (G.map v) (pre.length : Int) = v x := by rw [e]; exact rd4m _ _ _ rfl
    have ew : wrap64 ((pre.length : Int) + 1) = ((pre ++ [x]).length : Int) := by rw [w64s (by omega)]; simp
    show marchlandref03_sums.l3 (k + 1) _ _ _ = _
    rw [marchlandref03_sums.l3, if_pos (by omega), if_pos (by omega), e1, within3_eq, Option.bind_some, good_cons, fin_cons, ew]
    by_cases hc : wi x.f2
    · rw [if_pos (show decide (wi (v x).f2) = true from decide_eq_true hc)]
      simp only [hc, decide_true, Bool.true_and, ← List.append_assoc]
      by_cases hz : x.f2 = 0
      · rw [if_pos (show (v x).f2 = 0 from hz)]
        have : fin [x] = [] := by simp [fin, hz]
        rw [this, List.append_nil] at h1 ⊢
        exact h1
      · rw [if_neg (show ¬ (v x).f2 = 0 from hz), if_pos (by omega)]
        have : fin [x] = [x] := by simp [fin, hz]
        rw [this] at h1 ⊢
        have em : acc.map v ++ [(⟨(v x).f0, (v x).f1, (v x).f2⟩ : S140)] = (acc ++ [x]).map v := by simp [v]
        rw [em]; exact h1
    · rw [if_neg (show ¬ decide (wi (v x).f2) = true from fun h => hc (of_decide_eq_true h))]
      simp [hc]
theorem ins_head {x : S143} {B : List S143} (h : ∀ b ∈ B, kl x b) : ins x B = x :: B := by
  cases B with
  | nil => rfl
  | cons b B =>
    have h := h b (by simp)
    have : ¬ ke b x := by unfold kl ke at *; omega
    simp [ins, this, h]
theorem sums_l2 (X' : List S140) (i : Int) {r : List S140 × Bool} : ∀ (n : Nat) (A : List S143) (x : S143) (B : List S143), A.length = n → n ≤ 8000000000000000000 → Str (A ++ B) → (∀ b ∈ B, kl x b) → (∀ a ∈ A, ¬ ke a x) →
    Ev (fun k => marchlandref03_sums.l0 k X' ((ins x (A ++ B)).map v) (wrap64 (i + 1))) r → Ev (fun k => marchlandref03_sums.l2 k X' ((A ++ x :: B).map v) i (n : Int)) r := by
  intro n
  induction n with
  | zero =>
    intro A x B hA hn hs hB hk h
    obtain rfl : A = [] := List.eq_nil_of_length_eq_zero hA
    refine Ev.step (fun k => ?_) h
    show marchlandref03_sums.l2 (k + 1) _ _ _ _ = _
    rw [marchlandref03_sums.l2, if_neg (by simp)]
    simp only [List.nil_append, ins_head hB]
  | succ n ih =>
    intro A x B hA hn hs hB hk h
    rcases List.eq_nil_or_concat A with rfl | ⟨A', y, rfl⟩
    · simp at hA
    simp only [List.concat_eq_append] at hA hs hk h ⊢
    have hA' : A'.length = n := by simpa using hA
    have eL : A' ++ [y] ++ x :: B = A' ++ y :: x :: B := by simp
    have lL : ((A' ++ y :: x :: B).map v).length = n + 2 + B.length := by simp; omega
    have ew : wrap64 (((n + 1 : Nat) : Int) - 1) = (n : Int) := w64p (by omega)
    have e1 : rd_T140 ((A' ++ y :: x :: B).map v) ((n + 1 : Nat) : Int) = v x := by
      have := rd4m (A' ++ [y]) x B (i := ((n + 1 : Nat) : Int)) (by simp; omega)
      simpa using this
    have e2 : rd_T140 ((A' ++ y :: x :: B).map v) (n : Int) = v y := rd4m A' y (x :: B) (by omega)
    by_cases hc : kl x y
    · obtain ⟨K, h1⟩ := ih A' x (y :: B) hA' (by omega) (by simpa using hs) (fun b hb => (List.mem_cons.1 hb).elim (fun e => e ▸ hc) (fun hb => hB b hb)) (fun a ha => hk a (by simp [ha])) (by simpa using h)
      refine ⟨K + 1, fun k hk => ?_⟩
      obtain ⟨k, rfl⟩ : ∃ m, k = m + 1 := ⟨k - 1, by omega⟩
      have h1 := h1 k (by omega); dsimp only at h1
      have s1 : ((A' ++ y :: x :: B).map v).set (n : Int).toNat (v x) = (A' ++ x :: x :: B).map v := set4m A' y (x :: B) x (by simp; omega)
      have s2 : ((A' ++ x :: x :: B).map v).set ((n + 1 : Nat) : Int).toNat (v y) = (A' ++ x :: y :: B).map v := by
        have := set4m (A' ++ [x]) x B y (n := ((n + 1 : Nat) : Int).toNat) (by simp; omega)
        simpa using this
      show marchlandref03_sums.l2 (k + 1) _ _ _ _ = _
      rw [marchlandref03_sums.l2, eL, ew, if_pos (by omega), if_pos (by omega), if_pos (by omega), if_pos (by omega), if_pos (by omega), e1, e2]
      rw [show marchlandref03_before.f (v x).f0 (v x).f1 (v x).f2 (v y).f0 (v y).f1 (v y).f2 = some (decide (kl x y)) from before_eq x y, Option.bind_some, if_pos (decide_eq_true hc)]
      rw [show (⟨(v x).f0, (v x).f1, (v x).f2⟩ : S140) = v x from rfl, show (⟨(v y).f0, (v y).f1, (v y).f2⟩ : S140) = v y from rfl, s1, s2]
      exact h1
    · have hyx : kl y x := (kl_tri x y).elim (fun h => absurd h hc) (fun h => h.elim (fun h => absurd (ke_comm.1 h) (hk y (by simp))) id)
      have hall : ∀ a ∈ A' ++ [y], kl a x := fun a ha => by
        rcases List.mem_append.1 ha with ha | ha
        · exact kl_trans ((List.pairwise_append.1 (List.pairwise_append.1 hs).1).2.2 a ha y (by simp)) hyx
        · simp at ha; subst ha; exact hyx
      rw [ins_app B hall, ins_head hB] at h
      refine Ev.step (fun k => ?_) h
      show marchlandref03_sums.l2 (k + 1) _ _ _ _ = _
      rw [marchlandref03_sums.l2, eL, ew, if_pos (by omega), if_pos (by omega), if_pos (by omega), if_pos (by omega), if_pos (by omega), e1, e2]
      rw [show marchlandref03_before.f (v x).f0 (v x).f1 (v x).f2 (v y).f0 (v y).f1 (v y).f2 = some (decide (kl x y)) from before_eq x y, Option.bind_some, if_neg (fun h => hc (of_decide_eq_true h))]
theorem sums_skip {X' : List S140} {i : Int} {x : S143} (hi : 0 ≤ i) (hi' : i < X'.length) (hx : rd_T140 X' i = v x) {c : Int} {r : List S140 × Bool} (C : List S143) : ∀ (B A : List S143), (∀ y ∈ B, ¬ ke y x) → A.length + B.length ≤ 8000000000000000000 →
    Ev (fun k => marchlandref03_sums.l1 k X' ((A ++ B ++ C).map v) i c ((A.length + B.length : Nat) : Int)) r → Ev (fun k => marchlandref03_sums.l1 k X' ((A ++ B ++ C).map v) i c (A.length : Int)) r := by
  intro B
  induction B with
  | nil => intro A _ _ h; simpa using h
  | cons y B ih =>
    intro A hB hl h
    simp only [List.length_cons] at hl
    have hy := hB y (by simp)
    obtain ⟨K, h1⟩ := ih (A ++ [y]) (fun z hz => hB z (by simp [hz])) (by simp; omega) (by
      have e : (A ++ [y]).length + B.length = A.length + (y :: B).length := by simp; omega
      rw [e]; simpa using h)
    refine ⟨K + 1, fun k hk => ?_⟩
    obtain ⟨k, rfl⟩ : ∃ m, k = m + 1 := ⟨k - 1, by omega⟩
    have h1 := h1 k (by omega); dsimp only at h1
    have eL : A ++ [y] ++ B ++ C = A ++ y :: B ++ C := by simp
    have lL : ((A ++ y :: B ++ C).map v).length = A.length + (B.length + 1) + C.length := by simp; omega
    have e1 : rd_T140 ((A ++ y :: B ++ C).map v) (A.length : Int) = v y := by
      have := rd4m A y (B ++ C) (i := (A.length : Int)) rfl
      simpa using this
    have ew : wrap64 ((A.length : Int) + 1) = ((A ++ [y]).length : Int) := by rw [w64s (by omega)]; simp
    rw [eL] at h1
    show marchlandref03_sums.l1 (k + 1) _ _ _ _ _ = _
    rw [marchlandref03_sums.l1, if_pos (by omega), if_pos (by omega), if_pos hi, if_pos hi', e1, hx, ew, h1]
    by_cases q0 : (v y).f0 = (v x).f0
    · have q1 : ¬ (v y).f1 = (v x).f1 := fun q1 => hy ⟨q0, q1⟩
      rw [if_pos q0, if_neg q1]
    · rw [if_neg q0]
theorem mem_split_ke {x : S143} : ∀ {G : List S143}, (∃ y ∈ G, ke y x) → Str G → ∃ A y B, G = A ++ y :: B ∧ ke y x ∧ (∀ a ∈ A, ¬ ke a x) ∧ (∀ b ∈ B, ¬ ke b x) ∧ (∀ a ∈ A, kl a x) := by
  intro G ⟨y, hy, k⟩ hs
  obtain ⟨A, B, rfl⟩ := List.append_of_mem hy
  obtain ⟨h1, h2, h3⟩ := List.pairwise_append.1 hs
  refine ⟨A, y, B, rfl, k, fun a ha => ?_, fun b hb => ?_, fun a ha => ?_⟩
  · have := h3 a ha y (by simp); unfold kl ke at *; omega
  · have := (List.pairwise_cons.1 h2).1 b hb; unfold kl ke at *; omega
  · have := h3 a ha y (by simp); unfold kl ke at *; omega
theorem sums_step {X' : List S140} {i : Int} {x : S143} (hi : 0 ≤ i) (hi' : i < X'.length) (hx : rd_T140 X' i = v x) {r : List S140 × Bool} {G : List S143} (hs : Str G) (hl : Short G.length)
    (h : Ev (fun k => marchlandref03_sums.l0 k X' ((ins x G).map v) (wrap64 (i + 1))) r) : Ev (fun k => marchlandref03_sums.l1 k X' (G.map v) i (-1) 0) r := by
  unfold Short at hl
  by_cases hk : ∃ y ∈ G, ke y x
  · obtain ⟨A, y, B, rfl, ky, hA, hB, hAl⟩ := mem_split_ke hk hs
    have hl' : A.length + (B.length + 1) ≤ 5864062014634 := by simpa using hl
    have ei : ins x (A ++ y :: B) = A ++ plus y x :: B := by rw [ins_app _ hAl]; simp [ins, ky]
    rw [ei] at h
    have lL : ((A ++ y :: B).map v).length = A.length + (B.length + 1) := by simp
    have e1 : rd_T140 ((A ++ y :: B).map v) (A.length : Int) = v y := rd4m A y B rfl
    have ew : wrap64 ((A.length : Int) + 1) = ((A ++ [y]).length : Int) := by rw [w64s (by omega)]; simp
    have h1 := sums_skip hi hi' hx (c := -1) (r := r) (y :: B) A [] hA (by simp; omega)
    simp only [List.nil_append, List.length_nil, Nat.zero_add] at h1
    refine h1 ?_
    have h2 := sums_skip hi hi' hx (c := (A.length : Int)) (r := r) [] B (A ++ [y]) hB (by simp; omega)
    simp only [List.append_nil, List.append_assoc, List.singleton_append] at h2
    suffices h3 : Ev (fun k => marchlandref03_sums.l1 k X' ((A ++ y :: B).map v) i (A.length : Int) (((A ++ [y]).length + B.length : Nat) : Int)) r by
      obtain ⟨K, h2⟩ := h2 h3
      refine ⟨K + 1, fun k hk => ?_⟩
      obtain ⟨k, rfl⟩ : ∃ m, k = m + 1 := ⟨k - 1, by omega⟩
      have h2 := h2 k (by omega); dsimp only at h2
      show marchlandref03_sums.l1 (k + 1) _ _ _ _ _ = _
      rw [marchlandref03_sums.l1, if_pos (by omega), if_pos (by omega), if_pos hi, if_pos hi', e1, hx, ew, if_pos (show (v y).f0 = (v x).f0 from ky.1), if_pos (show (v y).f1 = (v x).f1 from ky.2)]
      exact h2
    have s1 : ((A ++ y :: B).map v).set (A.length : Int).toNat ⟨(v y).f0, (v y).f1, wrap64 ((v y).f2 + (v x).f2)⟩ = (A ++ plus y x :: B).map v := set4m A y B (plus y x) (by simp)
    refine Ev.step (fun k => ?_) h
    show marchlandref03_sums.l1 (k + 1) _ _ _ _ _ = _
    rw [marchlandref03_sums.l1, if_neg (by simp; omega), if_pos (by omega), if_pos (by omega), if_pos (by omega), if_pos hi, if_pos hi', e1, hx, s1]
  · have hk' : ∀ y ∈ G, ¬ ke y x := fun y hy h => hk ⟨y, hy, h⟩
    have h1 := sums_skip hi hi' hx (c := -1) (r := r) [] G [] hk' (by simp; omega)
    simp only [List.nil_append, List.length_nil, Nat.zero_add, List.append_nil] at h1
    refine h1 ?_
    have h2 := sums_l2 X' i (r := r) G.length G x [] rfl (by omega) (by simpa using hs) (fun _ h => by cases h) hk' (by simpa using h)
    have e2 : (G.map v) ++ [(⟨(v x).f0, (v x).f1, (v x).f2⟩ : S140)] = (G ++ [x]).map v := by simp [v]
    refine Ev.step (fun k => ?_) h2
    show marchlandref03_sums.l1 (k + 1) _ _ _ _ _ = _
    have ew : wrap64 ((((G ++ [x]).map v).length : Int) - 1) = (G.length : Int) := by rw [show ((G ++ [x]).map v).length = G.length + 1 by simp]; exact w64p (by omega)
    rw [marchlandref03_sums.l1, if_neg (by simp), if_neg (by omega), if_pos hi, if_pos hi', if_pos (by simp; omega), hx, e2, Option.bind_some, ew]
theorem sums_l0 (X : List S143) (hl : Short X.length) : ∀ (r pre G : List S143), X = pre ++ r → Str G → G.length ≤ pre.length →
    Ev (fun k => marchlandref03_sums.l0 k (X.map v) (G.map v) (pre.length : Int)) (let T := r.foldl (fun a x => ins x a) G; if good T = true then ((fin T).map v, true) else ([], false)) := by
  unfold Short at hl
  intro r
  induction r with
  | nil =>
    intro pre G e hs hg
    have ll : X.length = pre.length := by rw [e]; simp
    refine Ev.step (f := fun k => marchlandref03_sums.l3 k (G.map v) [] 0) (fun k => ?_) (sums_l3 G (by unfold Short; omega) G [] [] rfl (by simp))
    show marchlandref03_sums.l0 (k + 1) _ _ _ = _
    rw [marchlandref03_sums.l0, if_neg (by simp; omega)]
  | cons x r ih =>
    intro pre G e hs hg
    have ll : X.length = pre.length + (r.length + 1) := by rw [e]; simp
    have lm : (X.map v).length = X.length := by simp
    have h := ih (pre ++ [x]) (ins x G) (by simp [e]) (ins_str hs) (by have := ins_len (x := x) (l := G); simp; omega)
    have ew : wrap64 ((pre.length : Int) + 1) = ((pre ++ [x]).length : Int) := by rw [w64s (by omega)]; simp
    rw [← ew] at h
    refine Ev.step (fun k => ?_) (sums_step (X' := X.map v) (i := (pre.length : Int)) (x := x) (by omega) (by omega) (by rw [e]; exact rd4m _ _ _ rfl) hs (by unfold Short; omega) h)
    show marchlandref03_sums.l0 (k + 1) _ _ _ = _
    rw [marchlandref03_sums.l0, if_pos (by omega)]
theorem sums_ev (X : List S143) (hl : Short X.length) : Ev (fun k => marchlandref03_sums.f k (X.map v)) (if good (tot X) = true then ((fin (tot X)).map v, true) else ([], false)) :=
  sums_l0 X hl X [] [] rfl List.Pairwise.nil (by simp)
end Go.Proofs.Ytlcnckbmolefpaa.Pure
end
section
namespace Go.Proofs.Ytlcnckbmolefpaa.P
open Go.RowKit Go.Proofs.YtlcnckbmolefpaaW.PrintWords Go.Proofs.YtlcnckbmolefpaaW.PrintLast Go.Proofs.YtlcnckbmolefpaaW.PrintMore
attribute [local go_sem] max2_int min2_int max_two min_two max_three min_three max_four min_four   -- for this text's walks alone
set_option linter.unusedVariables false
set_option linter.unusedSimpArgs false
/-! ### marchlandref03_Fix: function 33 -/
def marchlandref03_Fix.l0 : Nat → List (S140) → List (S140) → Int → Option ((List (S140)))
  | 0, _, _, _ => none
  | k + 1, x0, x3, x4 => if x4 < (x0.length : Int) then (if x4 < 12 then (if 0 ≤ x4 then (if x3.length < 5864062014805 then (marchlandref03_Fix.l0 k x0 (x3 ++ [(⟨wrap64 (Int.tmod (IntKind.u64.wrap ((rd_T140 x0 x4).f0)) 64), Int.tmod ((rd_T140 x0 x4).f1) 18446744073709551615, Int.tmod ((rd_T140 x0 x4).f2) 1000⟩ : S140)]) (wrap64 (x4 + 1))) else (none)) else (none)) else ((marchlandref03_sums.f k x3).bind fun bt273 => (some bt273.1))) else ((marchlandref03_sums.f k x3).bind fun bt277 => (some bt277.1))
def marchlandref03_Fix.f (k : Nat) (l0 : List (S140)) : Option ((List (S140))) := marchlandref03_Fix.l0 k l0 ([] : List (S140)) 0
def marchlandref03_Fix.T5 : Bool × List (List Nat × List Nat) := (true, [([], []), ([], []), ([], []), ([1, 2], [1, 2]), ([3], [3]), ([4], [4]), ([5], [5]), ([6], [6]), ([7], [7]), ([], []), ([], []), ([9, 10], [9, 10]), ([11], [11]), ([12], [12]), ([13], [13]), ([], []), ([], []), ([15, 16], [15, 16]), ([17], [17]), ([18], [18]), ([19], [19]), ([8, 14, 20], [8, 14, 20]), ([21], [21]), ([0, 22], [0, 22]), ([23, 23, 0, 1, 2, 3, 4, 5, 6, 7, 8, 9, 10, 11, 12, 13, 14, 15, 16, 17, 18, 19, 20, 21, 22, 23], [0, 23])])
def marchlandref03_Fix.B5 : List Nat := [0, 0, 0, 6, 14, 30, 62, 126, 254, 0, 0, 1536, 3584, 7680, 15872, 0, 0, 98304, 229376, 491520, 1015808, 2097150, 4194302, 8388607, 16777215]
theorem marchlandref03_Fix.tab5 : rtab .any (opsOf Try.f33 5) = marchlandref03_Fix.T5 := by kernel_rfl
theorem marchlandref03_Fix.bits5 : waitsOk marchlandref03_Fix.T5.2 marchlandref03_Fix.B5 = true := by kernel_rfl
set_option maxHeartbeats 8000000 in
set_option maxRecDepth 100000 in
theorem marchlandref03_Fix.calls (k : Nat) (A0 : Option Addr) (c0 : Nat) (l0 : List (S140)) (r : List (S140)) (w : World) (hr0 : Kd.C k140 w A0 l0.length l0) (hc0 : l0.length ≤ c0) (h : marchlandref03_Fix.f k l0 = some r) :
    Calls Try.prog 33 #[.slice A0 l0.length c0] w fun e w' => ∃ v0_ : Value, e = .returned (v0_) ∧ Kd.R k140 140 w' w.heap.size (fun _ => True) v0_ r ∧ Below w.heap.size w w' := by
  have hu140 := Try.underlying140
  have HR0 := Aside0.mk hr0
  have HC0 := Aside0.mk hc0
  clear hr0 hc0
  have HB := Aside0.mk (Below.refl w.heap.size w)
  have H : (marchlandref03_Fix.l0 k l0 ([] : List (S140)) 0) = some r := h
  clear h
  have H' := Aside0.mk H
  clear H
  go_enter Try.func33, Try.ntmps33
  go_wp2
  go_loopg [3, 4] k (fun kq v3 v4 w' => ∃ (x3_1 : List (S140)) (x4_1 : Int), v4 = .int .i64 x4_1 ∧ Aside0 (marchlandref03_Fix.l0 kq l0 x3_1 x4_1 = some r) ∧ Aside0 (kq ≤ k) ∧ Aside0 (Kd.R k140 140 w' w.heap.size (fun _ => True) v3 x3_1) ∧ Aside0 (Below w.heap.size w w'))
  case atStart => exact ⟨(([] : List (S140))), (0), (by first | rfl | (simp; done) | (simp [*]; done)), H', ⟨Nat.le_refl _⟩, ⟨by first | exact Kd.R_nil _ _ _ _ _ | exact Kd.N_nil _ _ _ _ _ | exact Kd.V_nil _ _ _ _ _ | exact Kd.Q_nil _ _ _ _ _ | exact Kd.S_nil _ _ _ _ _⟩, ⟨by repeat (first | (with_reducible first | exact HB.out | apply below_alloc | apply pw_below_drewN | apply below_drew1) | exact HB.out)⟩⟩
  case round =>
    clear H'
    obtain ⟨x3_1, x4_1, rfl, HA, HK1, HO_3, HB⟩ := hrel
    cases gk with
    | zero => exact absurd HA.out (by simp [marchlandref03_Fix.l0])
    | succ k1 =>
      have H := HA.out
      clear HA
      simp only [marchlandref03_Fix.l0] at H
      by_cases c2 : x4_1 < (l0.length : Int)
      · rw [if_pos c2] at H
        have c2b0 : decide (x4_1 < (l0.length : Int)) = true := decide_eq_true c2
        clear c2
        by_cases c3 : x4_1 < 12
        · rw [if_pos c3] at H
          have c3b0 : decide (x4_1 < 12) = true := decide_eq_true c3
          clear c3
          by_cases c4 : 0 ≤ x4_1
          · rw [if_pos c4] at H
            have c4b0 : decide (0 ≤ x4_1) = true := decide_eq_true c4
            clear c4
            by_cases c5 : x3_1.length < 5864062014805
            · rw [if_pos c5] at H
              have LMc5 := Aside0.mk c5
              clear c5
              obtain ⟨y270, hy270⟩ : ∃ y_ : List (S140), y_ = (x3_1 ++ [(⟨wrap64 (Int.tmod (IntKind.u64.wrap ((rd_T140 l0 x4_1).f0)) 64), Int.tmod ((rd_T140 l0 x4_1).f1) 18446744073709551615, Int.tmod ((rd_T140 l0 x4_1).f2) 1000⟩ : S140)]) := ⟨_, rfl⟩
              replace H : (marchlandref03_Fix.l0 k1 l0 y270 (wrap64 (x4_1 + 1))) = some r := by first | (rw [hy270]; with_reducible exact H) | (have H2_ := (Option.bind_some _ _).symm.trans H; rw [hy270]; with_reducible exact H2_) | (have H2_ := (Option.bind_some _ _).symm.trans H; with_reducible exact H2_) | with_reducible exact H | (rw [hy270]; exact H) | exact H
              have Ny270 := Aside0.mk hy270
              clear hy270
              have H' := Aside0.mk H
              clear H
              try go_wp2
              have n0_ := Aside0.mk (Kd.R_drew HO_3.out)
              have n1_ := Aside0.mk (below_drew1 HB.out)
              clear HO_3
              clear HB
              have HO_3 := n0_
              have HB := n1_
              clear n0_ n1_
              have p267 : 0 ≤ (x4_1 : Int) := of_decide_eq_true (by first | (with_reducible assumption) | assumption)
              have q267 : x4_1 < (l0.length : Int) := of_decide_eq_true (by first | (with_reducible assumption) | assumption)
              obtain ⟨ad267, e267, hx267_0, hx267_1, hx267_2⟩ := at_T140 HR0.out x4_1 p267 q267
              have hw267_2 := hx267_2
              have hw267_1 := hx267_1
              have hw267_0 := hx267_0
              cases e267
              replace hx267_0 := (HB.out.cell (World.block_lt_of_cell? w _ hx267_0)).trans hx267_0
              replace hx267_1 := (HB.out.cell (World.block_lt_of_cell? w _ hx267_1)).trans hx267_1
              replace hx267_2 := (HB.out.cell (World.block_lt_of_cell? w _ hx267_2)).trans hx267_2
              replace p267 := eq_true p267
              replace q267 := eq_true q267
              have p268 : 0 ≤ (x4_1 : Int) := of_decide_eq_true (by first | (with_reducible assumption) | assumption)
              have q268 : x4_1 < (l0.length : Int) := of_decide_eq_true (by first | (with_reducible assumption) | assumption)
              obtain ⟨ad268, e268, hx268_0, hx268_1, hx268_2⟩ := at_T140 HR0.out x4_1 p268 q268
              have hw268_2 := hx268_2
              have hw268_1 := hx268_1
              have hw268_0 := hx268_0
              obtain rfl : ad267 = ad268 := (by injection e268)
              replace hx268_0 := (HB.out.cell (World.block_lt_of_cell? w _ hx268_0)).trans hx268_0
              replace hx268_1 := (HB.out.cell (World.block_lt_of_cell? w _ hx268_1)).trans hx268_1
              replace hx268_2 := (HB.out.cell (World.block_lt_of_cell? w _ hx268_2)).trans hx268_2
              replace p268 := eq_true p268
              replace q268 := eq_true q268
              have p269 : 0 ≤ (x4_1 : Int) := of_decide_eq_true (by first | (with_reducible assumption) | assumption)
              have q269 : x4_1 < (l0.length : Int) := of_decide_eq_true (by first | (with_reducible assumption) | assumption)
              obtain ⟨ad269, e269, hx269_0, hx269_1, hx269_2⟩ := at_T140 HR0.out x4_1 p269 q269
              have hw269_2 := hx269_2
              have hw269_1 := hx269_1
              have hw269_0 := hx269_0
              obtain rfl : ad267 = ad269 := (by injection e269)
              replace hx269_0 := (HB.out.cell (World.block_lt_of_cell? w _ hx269_0)).trans hx269_0
              replace hx269_1 := (HB.out.cell (World.block_lt_of_cell? w _ hx269_1)).trans hx269_1
              replace hx269_2 := (HB.out.cell (World.block_lt_of_cell? w _ hx269_2)).trans hx269_2
              replace p269 := eq_true p269
              replace q269 := eq_true q269
              refine start_ (n := 25) (S := fun w' => w'.cell? (ad267.add ((x4_1).toNat * 3)) = some (.int .i64 ((rd_T140 l0 x4_1).f0)) ∧ w'.cell? ⟨(ad267.add ((x4_1).toNat * 3)).block, (ad267.add ((x4_1).toNat * 3)).off + 1, none⟩ = some (.int .u64 ((rd_T140 l0 x4_1).f1)) ∧ w'.cell? ⟨(ad267.add ((x4_1).toNat * 3)).block, (ad267.add ((x4_1).toNat * 3)).off + 2, none⟩ = some (.int .i64 ((rd_T140 l0 x4_1).f2)) ∧ w'.cell? (ad267.add ((x4_1).toNat * 3)) = some (.int .i64 ((rd_T140 l0 x4_1).f0)) ∧ w'.cell? ⟨(ad267.add ((x4_1).toNat * 3)).block, (ad267.add ((x4_1).toNat * 3)).off + 1, none⟩ = some (.int .u64 ((rd_T140 l0 x4_1).f1)) ∧ w'.cell? ⟨(ad267.add ((x4_1).toNat * 3)).block, (ad267.add ((x4_1).toNat * 3)).off + 2, none⟩ = some (.int .i64 ((rd_T140 l0 x4_1).f2)) ∧ w'.cell? (ad267.add ((x4_1).toNat * 3)) = some (.int .i64 ((rd_T140 l0 x4_1).f0)) ∧ w'.cell? ⟨(ad267.add ((x4_1).toNat * 3)).block, (ad267.add ((x4_1).toNat * 3)).off + 1, none⟩ = some (.int .u64 ((rd_T140 l0 x4_1).f1)) ∧ w'.cell? ⟨(ad267.add ((x4_1).toNat * 3)).block, (ad267.add ((x4_1).toNat * 3)).off + 2, none⟩ = some (.int .i64 ((rd_T140 l0 x4_1).f2))) (ds := []) #[false, false, false, false, false, false, false, false, false, false, false, false, false, false, false, false, false, false, false, false, false, false, false, false, false] (by kernel_rfl) rfl rfl ⟨((HB.out.cell (World.block_lt_of_cell? w _ hw267_0)).trans hw267_0), ((HB.out.cell (World.block_lt_of_cell? w _ hw267_1)).trans hw267_1), ((HB.out.cell (World.block_lt_of_cell? w _ hw267_2)).trans hw267_2), ((HB.out.cell (World.block_lt_of_cell? w _ hw268_0)).trans hw268_0), ((HB.out.cell (World.block_lt_of_cell? w _ hw268_1)).trans hw268_1), ((HB.out.cell (World.block_lt_of_cell? w _ hw268_2)).trans hw268_2), ((HB.out.cell (World.block_lt_of_cell? w _ hw269_0)).trans hw269_0), ((HB.out.cell (World.block_lt_of_cell? w _ hw269_1)).trans hw269_1), ((HB.out.cell (World.block_lt_of_cell? w _ hw269_2)).trans hw269_2)⟩ (fun hHeld => ?_); refine with_tabW marchlandref03_Fix.tab5 marchlandref03_Fix.bits5 (fun HT_ HW_ => ?_)
              generalize wr.drew = w6 at HO_3 HB hx267_0 hx267_1 hx267_2 hx268_0 hx268_1 hx268_2 hx269_0 hx269_1 hx269_2 hHeld ⊢
              refine pure_ (i := 0) (N := some 17) (v := ?_) (a' := ?_) #[true, false, false, false, false, false, false, false, false, false, false, false, false, false, false, false, false, false, false, false, false, false, false, false, false] rfl rfl (any_of HT_.out (by kernel_rfl)) (fun _ _ _ h => h) (Or.inl ⟨by rfl, ?_⟩) ?_ ?_
              rotate_left
              · intro w'
                go_simp
                with_reducible rfl
              rotate_left
              · simp only [Act.put, List.setIfInBounds_toArray, List.set_cons_zero, List.set_cons_succ, i64_w, i32_w]
                rfl
              refine pure_ (i := 1) (N := some 18) (v := ?_) (a' := ?_) #[true, true, false, false, false, false, false, false, false, false, false, false, false, false, false, false, false, false, false, false, false, false, false, false, false] rfl rfl (any_of HT_.out (by kernel_rfl)) (fun _ _ _ h => h) (Or.inl ⟨by rfl, ?_⟩) ?_ ?_
              rotate_left
              · intro w'
                go_simp
                with_reducible rfl
              rotate_left
              · simp only [Act.put, List.setIfInBounds_toArray, List.set_cons_zero, List.set_cons_succ, i64_w, i32_w]
                rfl
              refine pure_ (i := 2) (N := some 19) (v := ?_) (a' := ?_) #[true, true, true, false, false, false, false, false, false, false, false, false, false, false, false, false, false, false, false, false, false, false, false, false, false] rfl rfl (any_of HT_.out (by kernel_rfl)) (fun _ _ _ h => h) (Or.inl ⟨by rfl, ?_⟩) ?_ ?_
              rotate_left
              · intro w'
                go_simp
                with_reducible rfl
              rotate_left
              · simp only [Act.put, List.setIfInBounds_toArray, List.set_cons_zero, List.set_cons_succ, i64_w, i32_w]
                rfl
              refine pure_ (i := 3) (N := some 20) (v := ?_) (a' := ?_) #[true, true, true, true, false, false, false, false, false, false, false, false, false, false, false, false, false, false, false, false, false, false, false, false, false] rfl rfl (any_of HT_.out (by kernel_rfl)) (fun _ _ _ h => h) (Or.inl ⟨by rfl, ?_⟩) ?_ ?_
              rotate_left
              · intro w'
                go_simp
                with_reducible rfl
              rotate_left
              · simp only [Act.put, List.setIfInBounds_toArray, List.set_cons_zero, List.set_cons_succ, i64_w, i32_w]
                rfl
              refine pure_ (i := 4) (N := some 21) (v := ?_) (a' := ?_) #[true, true, true, true, true, false, false, false, false, false, false, false, false, false, false, false, false, false, false, false, false, false, false, false, false] rfl rfl (any_of HT_.out (by kernel_rfl)) (fun _ _ _ h => h) (Or.inl ⟨by rfl, ?_⟩) ?_ ?_
              rotate_left
              · intro w'
                go_simp
                with_reducible rfl
              rotate_left
              · simp only [Act.put, List.setIfInBounds_toArray, List.set_cons_zero, List.set_cons_succ, i64_w, i32_w]
                rfl
              refine pure_ (i := 9) (N := some 26) (v := ?_) (a' := ?_) #[true, true, true, true, true, false, false, false, false, true, false, false, false, false, false, false, false, false, false, false, false, false, false, false, false] rfl rfl (any_of HT_.out (by kernel_rfl)) (fun _ _ _ h => h) (Or.inl ⟨by rfl, ?_⟩) ?_ ?_
              rotate_left
              · intro w'
                go_simp
                with_reducible rfl
              rotate_left
              · simp only [Act.put, List.setIfInBounds_toArray, List.set_cons_zero, List.set_cons_succ, i64_w, i32_w]
                rfl
              refine pure_ (i := 10) (N := some 27) (v := ?_) (a' := ?_) #[true, true, true, true, true, false, false, false, false, true, true, false, false, false, false, false, false, false, false, false, false, false, false, false, false] rfl rfl (any_of HT_.out (by kernel_rfl)) (fun _ _ _ h => h) (Or.inl ⟨by rfl, ?_⟩) ?_ ?_
              rotate_left
              · intro w'
                go_simp
                with_reducible rfl
              rotate_left
              · simp only [Act.put, List.setIfInBounds_toArray, List.set_cons_zero, List.set_cons_succ, i64_w, i32_w]
                rfl
              refine pure_ (i := 11) (N := some 28) (v := ?_) (a' := ?_) #[true, true, true, true, true, false, false, false, false, true, true, true, false, false, false, false, false, false, false, false, false, false, false, false, false] rfl rfl (any_of HT_.out (by kernel_rfl)) (fun _ _ _ h => h) (Or.inl ⟨by rfl, ?_⟩) ?_ ?_
              rotate_left
              · intro w'
                go_simp
                with_reducible rfl
              rotate_left
              · simp only [Act.put, List.setIfInBounds_toArray, List.set_cons_zero, List.set_cons_succ, i64_w, i32_w]
                rfl
              refine pure_ (i := 12) (N := some 29) (v := ?_) (a' := ?_) #[true, true, true, true, true, false, false, false, false, true, true, true, true, false, false, false, false, false, false, false, false, false, false, false, false] rfl rfl (any_of HT_.out (by kernel_rfl)) (fun _ _ _ h => h) (Or.inl ⟨by rfl, ?_⟩) ?_ ?_
              rotate_left
              · intro w'
                go_simp
                with_reducible rfl
              rotate_left
              · simp only [Act.put, List.setIfInBounds_toArray, List.set_cons_zero, List.set_cons_succ, i64_w, i32_w]
                rfl
              refine pure_ (i := 15) (N := some 32) (v := ?_) (a' := ?_) #[true, true, true, true, true, false, false, false, false, true, true, true, true, false, false, true, false, false, false, false, false, false, false, false, false] rfl rfl (any_of HT_.out (by kernel_rfl)) (fun _ _ _ h => h) (Or.inl ⟨by rfl, ?_⟩) ?_ ?_
              rotate_left
              · intro w'
                go_simp
                with_reducible rfl
              rotate_left
              · simp only [Act.put, List.setIfInBounds_toArray, List.set_cons_zero, List.set_cons_succ, i64_w, i32_w]
                rfl
              refine pure_ (i := 16) (N := some 33) (v := ?_) (a' := ?_) #[true, true, true, true, true, false, false, false, false, true, true, true, true, false, false, true, true, false, false, false, false, false, false, false, false] rfl rfl (any_of HT_.out (by kernel_rfl)) (fun _ _ _ h => h) (Or.inl ⟨by rfl, ?_⟩) ?_ ?_
              rotate_left
              · intro w'
                go_simp
                with_reducible rfl
              rotate_left
              · simp only [Act.put, List.setIfInBounds_toArray, List.set_cons_zero, List.set_cons_succ, i64_w, i32_w]
                rfl
              refine pure_ (i := 17) (N := some 34) (v := ?_) (a' := ?_) #[true, true, true, true, true, false, false, false, false, true, true, true, true, false, false, true, true, true, false, false, false, false, false, false, false] rfl rfl (any_of HT_.out (by kernel_rfl)) (fun _ _ _ h => h) (Or.inl ⟨by rfl, ?_⟩) ?_ ?_
              rotate_left
              · intro w'
                go_simp
                with_reducible rfl
              rotate_left
              · simp only [Act.put, List.setIfInBounds_toArray, List.set_cons_zero, List.set_cons_succ, i64_w, i32_w]
                rfl
              refine pure_ (i := 18) (N := some 35) (v := ?_) (a' := ?_) #[true, true, true, true, true, false, false, false, false, true, true, true, true, false, false, true, true, true, true, false, false, false, false, false, false] rfl rfl (any_of HT_.out (by kernel_rfl)) (fun _ _ _ h => h) (Or.inl ⟨by rfl, ?_⟩) ?_ ?_
              rotate_left
              · intro w'
                go_simp
                with_reducible rfl
              rotate_left
              · simp only [Act.put, List.setIfInBounds_toArray, List.set_cons_zero, List.set_cons_succ, i64_w, i32_w]
                rfl
              refine take_ (i := 5) (N := some 22) (v := ?_) (a' := ?_) #[true, true, true, true, true, true, false, false, false, true, true, true, true, false, false, true, true, true, true, false, false, false, false, false, false] rfl rfl (take_ofW HT_.out HW_.out (by kernel_rfl)) (fun _ _ _ h => h) (Or.inl ⟨by rfl, ?_⟩) hHeld ?_ ?_
              rotate_left
              · rintro w' ⟨s0, s1, s2, s3, s4, s5, s6, s7, s8⟩
                go_simp
                with_reducible rfl
              rotate_left
              · simp only [Act.put, List.setIfInBounds_toArray, List.set_cons_zero, List.set_cons_succ, i64_w, i32_w]
                rfl
              refine pure_ (i := 6) (N := some 23) (v := ?_) (a' := ?_) #[true, true, true, true, true, true, true, false, false, true, true, true, true, false, false, true, true, true, true, false, false, false, false, false, false] rfl rfl (any_of HT_.out (by kernel_rfl)) (fun _ _ _ h => h) (Or.inl ⟨by rfl, ?_⟩) ?_ ?_
              rotate_left
              · intro w'
                go_simp
                with_reducible rfl
              rotate_left
              · simp only [Act.put, List.setIfInBounds_toArray, List.set_cons_zero, List.set_cons_succ, i64_w, i32_w]
                rfl
              refine pure_ (i := 7) (N := some 24) (v := ?_) (a' := ?_) #[true, true, true, true, true, true, true, true, false, true, true, true, true, false, false, true, true, true, true, false, false, false, false, false, false] rfl rfl (any_of HT_.out (by kernel_rfl)) (fun _ _ _ h => h) (Or.inl ⟨by rfl, ?_⟩) ?_ ?_
              rotate_left
              · intro w'
                go_simp
                with_reducible rfl
              rotate_left
              · simp only [Act.put, List.setIfInBounds_toArray, List.set_cons_zero, List.set_cons_succ, i64_w, i32_w]
                rfl
              refine pure_ (i := 8) (N := some 25) (v := ?_) (a' := ?_) #[true, true, true, true, true, true, true, true, true, true, true, true, true, false, false, true, true, true, true, false, false, false, false, false, false] rfl rfl (any_of HT_.out (by kernel_rfl)) (fun _ _ _ h => h) (Or.inl ⟨by rfl, ?_⟩) ?_ ?_
              rotate_left
              · intro w'
                go_simp
                with_reducible rfl
              rotate_left
              · simp only [Act.put, List.setIfInBounds_toArray, List.set_cons_zero, List.set_cons_succ, i64_w, i32_w]
                rfl
              refine take_ (i := 13) (N := some 30) (v := ?_) (a' := ?_) #[true, true, true, true, true, true, true, true, true, true, true, true, true, true, false, true, true, true, true, false, false, false, false, false, false] rfl rfl (take_ofW HT_.out HW_.out (by kernel_rfl)) (fun _ _ _ h => h) (Or.inl ⟨by rfl, ?_⟩) hHeld ?_ ?_
              rotate_left
              · rintro w' ⟨s0, s1, s2, s3, s4, s5, s6, s7, s8⟩
                go_simp
                with_reducible rfl
              rotate_left
              · simp only [Act.put, List.setIfInBounds_toArray, List.set_cons_zero, List.set_cons_succ, i64_w, i32_w]
                rfl
              refine pure_ (i := 14) (N := some 31) (v := ?_) (a' := ?_) #[true, true, true, true, true, true, true, true, true, true, true, true, true, true, true, true, true, true, true, false, false, false, false, false, false] rfl rfl (any_of HT_.out (by kernel_rfl)) (fun _ _ _ h => h) (Or.inl ⟨by rfl, ?_⟩) ?_ ?_
              rotate_left
              · intro w'
                go_simp
                with_reducible rfl
              rotate_left
              · simp only [Act.put, List.setIfInBounds_toArray, List.set_cons_zero, List.set_cons_succ, i64_w, i32_w]
                rfl
              refine take_ (i := 19) (N := some 36) (v := ?_) (a' := ?_) #[true, true, true, true, true, true, true, true, true, true, true, true, true, true, true, true, true, true, true, true, false, false, false, false, false] rfl rfl (take_ofW HT_.out HW_.out (by kernel_rfl)) (fun _ _ _ h => h) (Or.inl ⟨by rfl, ?_⟩) hHeld ?_ ?_
              rotate_left
              · rintro w' ⟨s0, s1, s2, s3, s4, s5, s6, s7, s8⟩
                go_simp
                with_reducible rfl
              rotate_left
              · simp only [Act.put, List.setIfInBounds_toArray, List.set_cons_zero, List.set_cons_succ, i64_w, i32_w]
                rfl
              refine pure_ (i := 20) (N := some 37) (v := ?_) (a' := ?_) #[true, true, true, true, true, true, true, true, true, true, true, true, true, true, true, true, true, true, true, true, true, false, false, false, false] rfl rfl (any_of HT_.out (by kernel_rfl)) (fun _ _ _ h => h) (Or.inl ⟨by rfl, ?_⟩) ?_ ?_
              rotate_left
              · intro w'
                go_simp
                with_reducible rfl
              rotate_left
              · simp only [Act.put, List.setIfInBounds_toArray, List.set_cons_zero, List.set_cons_succ, i64_w, i32_w]
                rfl
              refine pure_ (i := 21) (N := some 38) (v := ?_) (a' := ?_) #[true, true, true, true, true, true, true, true, true, true, true, true, true, true, true, true, true, true, true, true, true, true, false, false, false] rfl rfl (any_of HT_.out (by kernel_rfl)) (fun _ _ _ h => h) (Or.inl ⟨by rfl, ?_⟩) ?_ ?_
              rotate_left
              · intro w'
                go_simp
                with_reducible rfl
              rotate_left
              · simp only [Act.put, List.setIfInBounds_toArray, List.set_cons_zero, List.set_cons_succ, i64_w, i32_w]
                rfl
              refine one_ (i := 22) (N := some 39) #[true, true, true, true, true, true, true, true, true, true, true, true, true, true, true, true, true, true, true, true, true, true, true, false, false] rfl rfl (one_of HT_.out (by kernel_rfl)) (by decide) (fun K hK => ?_)
              refine value_ (w1 := ?_) (v := ?_) (by rfl) rfl ?_ ?_
              rotate_left 2
              · go_simp
                constructor
                · rfl
                · rfl
              refine hK.out _ _ ⟨(World.cell?_alloc_lt _ _ _ (World.block_lt_of_cell? _ _ (((HB.out.cell (World.block_lt_of_cell? w _ hw267_0)).trans hw267_0)))).trans (((HB.out.cell (World.block_lt_of_cell? w _ hw267_0)).trans hw267_0)), (World.cell?_alloc_lt _ _ _ (World.block_lt_of_cell? _ _ (((HB.out.cell (World.block_lt_of_cell? w _ hw267_1)).trans hw267_1)))).trans (((HB.out.cell (World.block_lt_of_cell? w _ hw267_1)).trans hw267_1)), (World.cell?_alloc_lt _ _ _ (World.block_lt_of_cell? _ _ (((HB.out.cell (World.block_lt_of_cell? w _ hw267_2)).trans hw267_2)))).trans (((HB.out.cell (World.block_lt_of_cell? w _ hw267_2)).trans hw267_2)), (World.cell?_alloc_lt _ _ _ (World.block_lt_of_cell? _ _ (((HB.out.cell (World.block_lt_of_cell? w _ hw268_0)).trans hw268_0)))).trans (((HB.out.cell (World.block_lt_of_cell? w _ hw268_0)).trans hw268_0)), (World.cell?_alloc_lt _ _ _ (World.block_lt_of_cell? _ _ (((HB.out.cell (World.block_lt_of_cell? w _ hw268_1)).trans hw268_1)))).trans (((HB.out.cell (World.block_lt_of_cell? w _ hw268_1)).trans hw268_1)), (World.cell?_alloc_lt _ _ _ (World.block_lt_of_cell? _ _ (((HB.out.cell (World.block_lt_of_cell? w _ hw268_2)).trans hw268_2)))).trans (((HB.out.cell (World.block_lt_of_cell? w _ hw268_2)).trans hw268_2)), (World.cell?_alloc_lt _ _ _ (World.block_lt_of_cell? _ _ (((HB.out.cell (World.block_lt_of_cell? w _ hw269_0)).trans hw269_0)))).trans (((HB.out.cell (World.block_lt_of_cell? w _ hw269_0)).trans hw269_0)), (World.cell?_alloc_lt _ _ _ (World.block_lt_of_cell? _ _ (((HB.out.cell (World.block_lt_of_cell? w _ hw269_1)).trans hw269_1)))).trans (((HB.out.cell (World.block_lt_of_cell? w _ hw269_1)).trans hw269_1)), (World.cell?_alloc_lt _ _ _ (World.block_lt_of_cell? _ _ (((HB.out.cell (World.block_lt_of_cell? w _ hw269_2)).trans hw269_2)))).trans (((HB.out.cell (World.block_lt_of_cell? w _ hw269_2)).trans hw269_2))⟩ (fun hHeld => ?_)
              clear hK K
              refine norm_ (a' := ?_) ?_ ?_
              rotate_left
              · show Act.put _ (some 39) _ = _
                simp only [Act.put, List.setIfInBounds_toArray, List.set_cons_zero, List.set_cons_succ, i64_w, i32_w]
                rfl
              refine one_ (i := 23) (N := some 40) #[true, true, true, true, true, true, true, true, true, true, true, true, true, true, true, true, true, true, true, true, true, true, true, true, false] rfl rfl (one_of HT_.out (by kernel_rfl)) (by decide) (fun K hK => ?_)
              refine Kd.R_append_step k140 (w0 := w) w.heap.size (by rfl) (.tmp 17) (.tmp 39) 51 140 (.agg #[(.int .i64 0), (.int .u64 0), (.int .i64 0)]) 24 rfl Try.underlying51 info140 rfl (by decide) (by omega) u3 x3_1 (⟨wrap64 (Int.tmod (IntKind.u64.wrap ((rd_T140 l0 x4_1).f0)) 64), Int.tmod ((rd_T140 l0 x4_1).f1) 18446744073709551615, Int.tmod ((rd_T140 l0 x4_1).f2) 1000⟩ : S140) [.int .i64 (wrap64 (Int.tmod (IntKind.u64.wrap ((rd_T140 l0 x4_1).f0)) 64)), .int .u64 (Int.tmod ((rd_T140 l0 x4_1).f1) 18446744073709551615), .int .i64 (Int.tmod ((rd_T140 l0 x4_1).f2) 1000)] (fun _ => True) (fun _ => False) rfl rfl ?aP (fun _ hk => hk.elim) ?aF ?aO ?aB ?aS ?aL ?_
              (case aP => exact k140_mkM _ _ _ (⟨wrap64 (Int.tmod (IntKind.u64.wrap ((rd_T140 l0 x4_1).f0)) 64), Int.tmod ((rd_T140 l0 x4_1).f1) 18446744073709551615, Int.tmod ((rd_T140 l0 x4_1).f2) 1000⟩ : S140))
              (case aB => exact (by repeat (first | (with_reducible first | exact HB.out | apply below_alloc | apply pw_below_drewN | apply below_drew1) | exact HB.out)))
              (case aF => exact (fun _ _ => trivial))
              (case aO => exact (by (with_reducible repeat (first | apply Kd.R_alloc | apply Kd.R_drewN | apply Kd.R_drew)); exact HO_3.out))
              (case aS => exact (below_size (by repeat (first | (with_reducible first | exact HB.out | apply below_alloc | apply pw_below_drewN | apply below_drew1) | exact HB.out))))
              (case aL => have := LMc5.out; omega)
              intro v271 w7 ho hb hg hat
              rw [← Ny270.out] at ho
              have n0_ := Aside0.mk (hb)
              have n1_ := Aside0.mk (ho)
              clear HB
              clear HO_3
              have HB := n0_
              have HO272 := n1_
              clear n0_ n1_
              clear ho hb hg hat
              refine hK.out _ _ ⟨((HB.out.cell (World.block_lt_of_cell? w _ hw267_0)).trans hw267_0), ((HB.out.cell (World.block_lt_of_cell? w _ hw267_1)).trans hw267_1), ((HB.out.cell (World.block_lt_of_cell? w _ hw267_2)).trans hw267_2), ((HB.out.cell (World.block_lt_of_cell? w _ hw268_0)).trans hw268_0), ((HB.out.cell (World.block_lt_of_cell? w _ hw268_1)).trans hw268_1), ((HB.out.cell (World.block_lt_of_cell? w _ hw268_2)).trans hw268_2), ((HB.out.cell (World.block_lt_of_cell? w _ hw269_0)).trans hw269_0), ((HB.out.cell (World.block_lt_of_cell? w _ hw269_1)).trans hw269_1), ((HB.out.cell (World.block_lt_of_cell? w _ hw269_2)).trans hw269_2)⟩ (fun hHeld => ?_)
              clear hK K
              refine norm_ (a' := ?_) ?_ ?_
              rotate_left
              · show Act.put _ (some 40) _ = _
                simp only [Act.put, List.setIfInBounds_toArray, List.set_cons_zero, List.set_cons_succ, i64_w, i32_w]
                rfl
              refine pure_ (i := 24) (N := some 3) (v := ?_) (a' := ?_) #[true, true, true, true, true, true, true, true, true, true, true, true, true, true, true, true, true, true, true, true, true, true, true, true, true] rfl rfl (any_of HT_.out (by kernel_rfl)) (fun _ _ _ h => h) (Or.inl ⟨by rfl, ?_⟩) ?_ ?_
              rotate_left
              · intro w'
                go_simp
                with_reducible rfl
              rotate_left
              · simp only [Act.put, List.setIfInBounds_toArray, List.set_cons_zero, List.set_cons_succ, i64_w, i32_w]
                rfl
              refine done_ (done_of HT_.out (by kernel_rfl)) ?_
              try go_wp2
              go_roundg k1
              case measure => have := HK1.out; omega
              case rel => exact ⟨(y270), (wrap64 (x4_1 + 1)), (by first | rfl | (simp; done) | (simp [*]; done)), H', ⟨by have := HK1.out; omega⟩, ⟨by (with_reducible repeat (first | apply Kd.R_alloc | apply Kd.R_drewN | apply Kd.R_drew)); exact HO272.out⟩, ⟨by repeat (first | (with_reducible first | exact HB.out | apply below_alloc | apply pw_below_drewN | apply below_drew1) | exact HB.out)⟩⟩
            · rw [if_neg c5] at H
              exact absurd H (by simp)
          · rw [if_neg c4] at H
            exact absurd H (by simp)
        · rw [if_neg c3] at H
          have c3b0 : decide (x4_1 < 12) = false := decide_eq_false c3
          clear c3
          replace H := Option.bind_eq_some_iff.mp H
          obtain ⟨⟨t273, t274⟩, A80, H⟩ := H
          replace H : (some t273) = some r := H
          have A8 := Aside0.mk A80
          clear A80
          obtain rfl := Option.some.inj H
          obtain ⟨Ao9, co9, eo9⟩ := Kd.R_slice HO_3.out
          subst eo9
          go_wp2_with (first | ((with_reducible refine gate_callee (f := 88) rfl ?_); refine goesL_ (some 43) rfl rfl Try.func88 (by kernel_rfl) rfl #[.slice Ao9 x3_1.length co9] rfl (by (try simp only [List.map_toArray, List.map_cons, List.map_nil]); first | done | rfl | (simp only [List.length_drop, List.length_take]; rfl)) ?_; (with_reducible refine (marchlandref03_sums.calls k1 _ _ x3_1 t273 t274 _ ?side1 ?side2 A8.out).mono ?_); (case side1 => repeat (first | exact (Kd.R_reads' HO_3.out).2.2 | (with_reducible refine Kd.C_alloc ?_ _) | (with_reducible refine Kd.C_drewN ?_ _) | (with_reducible refine Kd.C_drew ?_))); (case side2 => exact (Kd.R_reads' HO_3.out).2.1); rintro e w10 ⟨v275, rfl, ho0, hb⟩; refine ⟨_, rfl, ?_⟩; have n0_ := Aside0.mk (Kd.R_elder' (by (with_reducible repeat (first | apply Kd.R_alloc | apply Kd.R_drewN | apply Kd.R_drew)); exact HO_3.out) (Kd.R_base ho0) hb); have n1_ := Aside0.mk (Kd.R_lower (Kd.R_new' ho0 (Kd.R_lt (by (with_reducible repeat (first | apply Kd.R_alloc | apply Kd.R_drewN | apply Kd.R_drew)); exact HO_3.out))) (below_size (by repeat (first | (with_reducible first | exact HB.out | apply below_alloc | apply pw_below_drewN | apply below_drew1) | exact HB.out)))); have n2_ := Aside0.mk (below_step (by repeat (first | (with_reducible first | exact HB.out | apply below_alloc | apply pw_below_drewN | apply below_drew1) | exact HB.out)) hb); clear HO_3; clear HB; have HO_3 := n0_; have HO276 := n1_; have HB := n2_; clear n0_ n1_ n2_; (try clear hb); (try clear hb2); (try clear hk); (try clear hi); (try clear ho0)))
          go_ret
          exact ⟨_, by first | rfl | (simp [errW_none, errW_some] <;> rfl) | (simp [*, errW_none, errW_some] <;> rfl), by (with_reducible repeat (first | apply Kd.R_alloc | apply Kd.R_drewN | apply Kd.R_drew)); exact Kd.R_mono HO276.out (fun _ hk => trivial), by repeat (first | (with_reducible first | exact HB.out | apply below_alloc | apply pw_below_drewN | apply below_drew1) | exact HB.out)⟩
      · rw [if_neg c2] at H
        have c2b0 : decide (x4_1 < (l0.length : Int)) = false := decide_eq_false c2
        clear c2
        replace H := Option.bind_eq_some_iff.mp H
        obtain ⟨⟨t277, t278⟩, A110, H⟩ := H
        replace H : (some t277) = some r := H
        have A11 := Aside0.mk A110
        clear A110
        obtain rfl := Option.some.inj H
        obtain ⟨Ao12, co12, eo12⟩ := Kd.R_slice HO_3.out
        subst eo12
        go_wp2_with (first | ((with_reducible refine gate_callee (f := 88) rfl ?_); refine goesL_ (some 43) rfl rfl Try.func88 (by kernel_rfl) rfl #[.slice Ao12 x3_1.length co12] rfl (by (try simp only [List.map_toArray, List.map_cons, List.map_nil]); first | done | rfl | (simp only [List.length_drop, List.length_take]; rfl)) ?_; (with_reducible refine (marchlandref03_sums.calls k1 _ _ x3_1 t277 t278 _ ?side1 ?side2 A11.out).mono ?_); (case side1 => repeat (first | exact (Kd.R_reads' HO_3.out).2.2 | (with_reducible refine Kd.C_alloc ?_ _) | (with_reducible refine Kd.C_drewN ?_ _) | (with_reducible refine Kd.C_drew ?_))); (case side2 => exact (Kd.R_reads' HO_3.out).2.1); rintro e w13 ⟨v279, rfl, ho0, hb⟩; refine ⟨_, rfl, ?_⟩; have n0_ := Aside0.mk (Kd.R_elder' (by (with_reducible repeat (first | apply Kd.R_alloc | apply Kd.R_drewN | apply Kd.R_drew)); exact HO_3.out) (Kd.R_base ho0) hb); have n1_ := Aside0.mk (Kd.R_lower (Kd.R_new' ho0 (Kd.R_lt (by (with_reducible repeat (first | apply Kd.R_alloc | apply Kd.R_drewN | apply Kd.R_drew)); exact HO_3.out))) (below_size (by repeat (first | (with_reducible first | exact HB.out | apply below_alloc | apply pw_below_drewN | apply below_drew1) | exact HB.out)))); have n2_ := Aside0.mk (below_step (by repeat (first | (with_reducible first | exact HB.out | apply below_alloc | apply pw_below_drewN | apply below_drew1) | exact HB.out)) hb); clear HO_3; clear HB; have HO_3 := n0_; have HO280 := n1_; have HB := n2_; clear n0_ n1_ n2_; (try clear hb); (try clear hb2); (try clear hk); (try clear hi); (try clear ho0)))
        go_ret
        exact ⟨_, by first | rfl | (simp [errW_none, errW_some] <;> rfl) | (simp [*, errW_none, errW_some] <;> rfl), by (with_reducible repeat (first | apply Kd.R_alloc | apply Kd.R_drewN | apply Kd.R_drew)); exact Kd.R_mono HO280.out (fun _ hk => trivial), by repeat (first | (with_reducible first | exact HB.out | apply below_alloc | apply pw_below_drewN | apply below_drew1) | exact HB.out)⟩
end Go.Proofs.Ytlcnckbmolefpaa.P
end
section
namespace Go.Proofs.Ytlcnckbmolefpaa.Pure
open Go.RowKit Go.Proofs.Ytlcnckbmolefpaa.P Go.Proofs.YtlcnckbmolefpaaW.PrintWords Go.Proofs.YtlcnckbmolefpaaW.PrintLast
set_option linter.unusedVariables false
set_option linter.unusedSimpArgs false
def fix1 (x : S140) : S143 := ⟨wrap64 (Int.tmod (IntKind.u64.wrap x.f0) 64), Int.tmod x.f1 18446744073709551615, Int.tmod x.f2 1000⟩
def sumk (l : List S143) : List S143 := if good (tot l) = true then fin (tot l) else []
theorem fix_l0 (X : List S140) : ∀ (r pre : List S140), X = pre ++ r → pre.length ≤ 12 → Ev (fun k => marchlandref03_Fix.l0 k X ((pre.map fix1).map v) (pre.length : Int)) ((sumk ((X.take 12).map fix1)).map v) := by
  have fin_ : ∀ pre : List S140, pre.length ≤ 12 → Ev (fun k => (marchlandref03_sums.f k ((pre.map fix1).map v)).bind fun b => some b.1) ((sumk (pre.map fix1)).map v) := by
    intro pre h
    have := Ev.bind (sums_ev (pre.map fix1) (by unfold Short; simp; omega)) (Ev.now _) (f := fun _ b => some b.1)
    unfold sumk
    split
    · rename_i g; rw [if_pos g] at this; exact this
    · rename_i g; rw [if_neg g] at this; exact this
  intro r
  induction r with
  | nil =>
    intro pre e hp
    obtain ⟨K, h⟩ := fin_ pre hp
    refine ⟨K + 1, fun k hk => ?_⟩
    obtain ⟨k, rfl⟩ : ∃ m, k = m + 1 := ⟨k - 1, by omega⟩
    have h := h k (by omega); dsimp only at h
    have e' : X.take 12 = pre := by rw [e, List.append_nil]; exact List.take_of_length_le hp
    show marchlandref03_Fix.l0 (k + 1) _ _ _ = _
    rw [marchlandref03_Fix.l0, if_neg (by subst e; simp), e']
    exact h
  | cons x r ih =>
    intro pre e hp
    have ll : X.length = pre.length + (r.length + 1) := by rw [e]; simp
    by_cases h12 : pre.length = 12
    · obtain ⟨K, h⟩ := fin_ pre hp
      refine ⟨K + 1, fun k hk => ?_⟩
      obtain ⟨k, rfl⟩ : ∃ m, k = m + 1 := ⟨k - 1, by omega⟩
      have h := h k (by omega); dsimp only at h
      have e' : X.take 12 = pre := by rw [e, ← h12]; simp
      show marchlandref03_Fix.l0 (k + 1) _ _ _ = _
      rw [marchlandref03_Fix.l0, if_pos (by omega), if_neg (by omega), e']
      exact h
    · obtain ⟨K, h⟩ := ih (pre ++ [x]) (by simp [e]) (by simp; omega)
      refine ⟨K + 1, fun k hk => ?_⟩
      obtain ⟨k, rfl⟩ : ∃ m, k = m + 1 := ⟨k - 1, by omega⟩
      have h := h k (by omega); dsimp only at h
      have e1 : rd_T140 X (pre.length : Int) = x := by rw [e]; exact rd4 _ _ _ rfl
      have ew : wrap64 ((pre.length : Int) + 1) = ((pre ++ [x]).length : Int) := by rw [w64s (by omega)]; simp
      have em : (pre.map fix1).map v ++ [(⟨wrap64 (Int.tmod (IntKind.u64.wrap x.f0) 64), Int.tmod x.f1 18446744073709551615, Int.tmod x.f2 1000⟩ : S140)] = ((pre ++ [x]).map fix1).map v := by simp [v, fix1]
      show marchlandref03_Fix.l0 (k + 1) _ _ _ = _
      rw [marchlandref03_Fix.l0, if_pos (by omega), if_pos (by omega), if_pos (by omega), if_pos (by simp; omega), e1, em, ew]
      exact h
theorem fix_ev (X : List S140) : Ev (fun k => marchlandref03_Fix.f k X) ((sumk ((X.take 12).map fix1)).map v) := fix_l0 X X [] rfl (by simp)
end Go.Proofs.Ytlcnckbmolefpaa.Pure
end
section
namespace Go.Proofs.Ytlcnckbmolefpaa.P
open Go.RowKit Go.Proofs.Ytlcnckbmolefpaa.Pure Go.Proofs.YtlcnckbmolefpaaW.PrintWords Go.Proofs.YtlcnckbmolefpaaW.PrintLast Go.Proofs.YtlcnckbmolefpaaW.PrintMore
set_option linter.unusedVariables false
set_option linter.unusedSimpArgs false
def fixR (l : List S140) : List S143 := sumk ((l.take 12).map fix1)
theorem fixR_len (l : List S140) : (fixR l).length ≤ 12 := by
  unfold fixR sumk
  split
  · have h1 := fin_len (tot ((l.take 12).map fix1))
    have h2 := tot_len ((l.take 12).map fix1)
    have h3 : ((l.take 12).map fix1).length ≤ 12 := by rw [List.length_map, List.length_take]; omega
    exact Nat.le_trans h1 (Nat.le_trans h2 h3)
  · simp
theorem Fix_C (A : Option Addr) (c : Nat) (l : List S140) (w : World) (hC : Kd.C k140 w A l.length l) (hc : l.length ≤ c) : Calls Try.prog 33 #[.slice A l.length c] w fun e w' => ∃ v0 : Value, e = .returned v0 ∧ Kd.R k140 140 w' w.heap.size (fun _ => True) v0 ((fixR l).map v) ∧ Below w.heap.size w w' := by
  obtain ⟨K, h⟩ := fix_ev l
  exact marchlandref03_Fix.calls K A c l _ w hC hc (h K (Nat.le_refl _))
theorem To_C (A : Option Addr) (c : Nat) (X : List S143) (hX : Short X.length) (w : World) (hC : Kd.C k140 w A (X.map v).length (X.map v)) (hc : (X.map v).length ≤ c) : Calls Try.prog 35 #[.slice A (X.map v).length c] w fun e w' => ∃ v0 : Value, e = .returned v0 ∧ Kd.R k143 143 w' w.heap.size (fun _ => True) v0 X ∧ Below w.heap.size w w' := by
  obtain ⟨K, h⟩ := to_ev X hX
  exact marchlandlaw03_To.calls K A c (X.map v) _ w hC hc (h K (Nat.le_refl _))
theorem From_C (A : Option Addr) (c : Nat) (X : List S143) (hX : Short X.length) (w : World) (hC : Kd.C k143 w A X.length X) (hc : X.length ≤ c) : Calls Try.prog 38 #[.slice A X.length c] w fun e w' => ∃ v0 : Value, e = .returned v0 ∧ Kd.R k140 140 w' w.heap.size (fun _ => True) v0 (X.map v) ∧ Below w.heap.size w w' := by
  obtain ⟨K, h⟩ := from_ev X hX
  exact marchlandlaw03_From.calls K A c X _ w hC hc (h K (Nat.le_refl _))
theorem Same_C (A B : Option Addr) (c d : Nat) (X : List S143) (hX : Short X.length) (w : World) (hC : Kd.C k140 w A (X.map v).length (X.map v)) (hc : (X.map v).length ≤ c) (hD : Kd.C k140 w B (X.map v).length (X.map v)) (hd : (X.map v).length ≤ d) : Calls Try.prog 37 #[.slice A (X.map v).length c, .slice B (X.map v).length d] w fun e w' => e = .returned (.bool true) ∧ Drawn0 w w' := by
  obtain ⟨K, h⟩ := same3_ev X X hX
  have h2 := h K (Nat.le_refl _)
  rw [decide_eq_true rfl] at h2
  exact marchlandref03_Same.calls K A c (X.map v) B d (X.map v) true w hC hc hD hd h2
open Go.RowKit Go.Maps Go.Proofs.Ytlcnckbmolefpaa.CK Go.Proofs.YtlcnckbmolefpaaW.PrintWords Go.Proofs.YtlcnckbmolefpaaW.PrintLast Go.Proofs.YtlcnckbmolefpaaW.PrintMore
attribute [local go_sem] max2_int min2_int max_two min_two
set_option maxRecDepth 100000
def bq (b : List S143) : List S140 := b.map Pure.v
abbrev Hd := Option Addr × Nat × Nat
def encH (h : Hd) : Value := .slice h.1 h.2.1 h.2.2
def kH : Kd Hd := Kd.scalar encH (fun _ => rfl)
theorem info51q : (Try.prog.info? 51).map (fun i => (i.zero, i.size, i.bytes)) = some (some (.slice none 0 0), kH.sz, 24) := by kernel_rfl
structure QO (w : World) (B : Nat) (ownq : Nat → Prop) (gq : Nat) (size : Int) (vL : Value) (hs : List Hd) (q : List (List S143)) : Prop where
  hq : w.heap[gq]? = some (.cells #[vL, .int .i64 size] 93 (0, 0))
  og : ownq gq
  bg : B ≤ gq
  hl : Kd.R kH 51 w B ownq vL hs
  len : hs.length = q.length
  it : ∀ j (hj : j < q.length), ∃ A c, hs[j]? = some (A, (bq q[j]).length, c) ∧ (bq q[j]).length ≤ c ∧ Kd.F k140 w (fun k => ownq k ∧ k ≠ gq ∧ k < w.heap.size) A (bq q[j]).length (bq q[j])
section
variable {w w' W : World} {B : Nat} {ownq ownq' : Nat → Prop} {gq : Nat} {size : Int} {vL : Value} {hs : List Hd} {q : List (List S143)} {b : List S143}
theorem QO.step (h : QO w B ownq gq size vL hs q) (hsz : w.heap.size ≤ w'.heap.size) (hm : ∀ k, ownq k → k < w.heap.size → w'.heap[k]? = w.heap[k]?) : QO w' B ownq gq size vL hs q :=
  ⟨(hm gq h.og (blk_lt h.hq)).trans h.hq, h.og, h.bg, Kd.R_step h.hl hm, h.len, fun j hj => by
    obtain ⟨A, c, e1, e2, e3⟩ := h.it j hj
    exact ⟨A, c, e1, e2, Kd.F_mono (Kd.F_step e3 (fun k ho hlt => hm k ho.1 hlt)) (fun k ho => ⟨ho.1, ho.2.1, Nat.lt_of_lt_of_le ho.2.2 hsz⟩)⟩⟩
theorem QO.mono (h : QO w B ownq gq size vL hs q) (hm : ∀ k, ownq k → ownq' k) : QO w B ownq' gq size vL hs q :=
  ⟨h.hq, hm _ h.og, h.bg, Kd.R_mono h.hl hm, h.len, fun j hj => by
    obtain ⟨A, c, e1, e2, e3⟩ := h.it j hj
    exact ⟨A, c, e1, e2, Kd.F_mono e3 (fun k ho => ⟨hm k ho.1, ho.2⟩)⟩⟩
theorem R_litH (W : World) : Kd.R kH 51 (W.alloc (.cells #[] 51)) W.heap.size (fun k => W.heap.size ≤ k) (.slice (some ⟨W.heap.size, 0, none⟩) 0 0) ([] : List Hd) := by
  refine ⟨fun k hk => ?_, [], ?_, Reps.none _ _⟩
  · have : W.heap.size = k := by simpa [Value.ownBlock] using hk
    exact this ▸ Nat.le_refl _
  · have h2 := World.ownsRow_lit (base := W.heap.size) (e := 51) (size := kH.sz) W #[] 0 (Nat.le_refl _) (by simp [maxLen]) (by simp)
    simpa using h2
theorem QO.put {w4 : World} {A4 : Option Addr} {n4 c4 : Nat} {hs' : List Hd} {q' : List (List S143)} (h : QO W B ownq gq size vL hs q) (hb : Below W.heap.size W w4) (hR : Kd.R kH 51 w4 W.heap.size (fun k => W.heap.size ≤ k) (.slice A4 n4 c4) hs') (hl : hs'.length = q'.length)
    (hit : ∀ j (hj : j < q'.length), ∃ A c, hs'[j]? = some (A, (bq q'[j]).length, c) ∧ (bq q'[j]).length ≤ c ∧ Kd.F k140 W (fun k => ownq k ∧ k ≠ gq ∧ k < W.heap.size) A (bq q'[j]).length (bq q'[j])) :
    QO (w4.setCell ⟨gq, 0, none⟩ (.slice A4 n4 c4)) B (fun k => ownq k ∨ W.heap.size ≤ k) gq size (.slice A4 n4 c4) hs' q' ∧ Kept W (w4.setCell ⟨gq, 0, none⟩ (.slice A4 n4 c4)) (fun k => k = gq) ∧ Below B W (w4.setCell ⟨gq, 0, none⟩ (.slice A4 n4 c4)) := by
  have hlt := blk_lt h.hq
  have hB : B ≤ W.heap.size := Nat.le_trans h.bg (Nat.le_of_lt hlt)
  have hq4 := blk_below h.hq hb
  have hk : Kept W (w4.setCell ⟨gq, 0, none⟩ (.slice A4 n4 c4)) (fun k => k = gq) := (show Kept W w4 (fun k => k = gq) from ⟨hb.size, fun i hi _ => hb.block i hi⟩).setCell (p := ⟨gq, 0, none⟩) (.inl rfl) _
  refine ⟨⟨blk_put hq4 0 _ rfl, .inl h.og, h.bg, Kd.R_set (Kd.R_lower (Kd.R_mono hR (fun k hk => .inr hk)) hB) hq4 (fun t ht => by rw [List.mem_singleton.1 ht]; decide) 0 _, hl, fun j hj => ?_⟩, hk, (below_then (Below.refl B W) hB hb).setCell (p := ⟨gq, 0, none⟩) h.bg _⟩
  obtain ⟨A, c, e1, e2, e3⟩ := hit j hj
  exact ⟨A, c, e1, e2, Kd.F_mono (Kd.F_step e3 (fun k ho hlt => hk.2 k hlt ho.2.1)) (fun k ho => ⟨.inl ho.1, ho.2.1, Nat.lt_of_lt_of_le ho.2.2 hk.1⟩)⟩
theorem QPush_no (h : QO W B ownq gq size vL hs q) (hf : size ≤ (q.length : Int)) (v : Value) : Calls Try.prog 64 #[.pointer (some ⟨gq, 0, none⟩), v] W fun e w' => e = .returned (.bool false) ∧ Below W.heap.size W w' := by
  obtain ⟨A, c, rfl⟩ := Kd.R_slice h.hl
  have hx0 : W.cell? ⟨gq, 0, none⟩ = some (.slice A hs.length c) := (blk_cell h.hq 0).trans rfl
  have hx1 : W.cell? ⟨gq, 1, none⟩ = some (.int .i64 size) := (blk_cell h.hq 1).trans rfl
  have d1 := decide_eq_true (show size ≤ (hs.length : Int) by rw [h.len]; exact hf)
  clear h hf
  go_enter Try.func64, Try.ntmps64
  go_upto_region 1 with fail
  go_region_held3 (fun w' => w'.cell? ⟨gq, 0, none⟩ = some (.slice A hs.length c) ∧ w'.cell? ⟨gq, 1, none⟩ = some (.int .i64 size)) (exact ⟨hx0, hx1⟩) (fail)
  all_goals
    go_wp2
    go_ret
    exact ⟨rfl, below_drew (Below.refl _ W)⟩
theorem QPush_ok (h : QO W B ownq gq size vL hs q) (hf : (q.length : Int) < size) (hlen : q.length ≤ 1000000) (Ab : Option Addr) (cb : Nat) (hcb : (bq b).length ≤ cb) (hb : Kd.F k140 W (fun k => ownq k ∧ k ≠ gq ∧ k < W.heap.size) Ab (bq b).length (bq b)) :
    Calls Try.prog 64 #[.pointer (some ⟨gq, 0, none⟩), .slice Ab (bq b).length cb] W fun e w' => e = .returned (.bool true) ∧ ∃ vL' hs', QO w' B (fun k => ownq k ∨ W.heap.size ≤ k) gq size vL' hs' (q ++ [b]) ∧ Kept W w' (fun k => k = gq) ∧ Below B W w' := by
  obtain ⟨A, c, rfl⟩ := Kd.R_slice h.hl
  have hx0 : W.cell? ⟨gq, 0, none⟩ = some (.slice A hs.length c) := (blk_cell h.hq 0).trans rfl
  have hx1 : W.cell? ⟨gq, 1, none⟩ = some (.int .i64 size) := (blk_cell h.hq 1).trans rfl
  have d1 := decide_eq_false (show ¬ size ≤ (hs.length : Int) by rw [h.len]; omega)
  have H := Aside0.mk h
  have HLN := Aside0.mk hlen
  have HG := Aside0.mk (blk_lt h.hq)
  have HZ := Aside0.mk (blk_frozen h.hq 0)
  have HC := Aside0.mk (Kd.R_reads' h.hl).2.2
  have hya : (W.alloc (.cells #[] 51)).cell? ⟨gq, 0, none⟩ = some (.slice A hs.length c) := (World.cell?_alloc_lt _ _ _ HG.out).trans hx0
  have hyd : (W.alloc (.cells #[] 51)).drew.cell? ⟨gq, 0, none⟩ = some (.slice A hs.length c) := hya
  have HBW := Aside0.mk (below_drew1 ((Below.refl _ W).alloc (Nat.le_refl _) (.cells #[] 51)))
  have HBB := Aside0.mk (show _ ∧ _ from ⟨hcb, hb⟩)
  clear h hf hlen hcb hb
  go_enter Try.func64, Try.ntmps64
  go_upto_region 1 with fail
  go_region_held3 (fun w' => w'.cell? ⟨gq, 0, none⟩ = some (.slice A hs.length c) ∧ w'.cell? ⟨gq, 1, none⟩ = some (.int .i64 size)) (exact ⟨hx0, hx1⟩) (fail)
  all_goals
    go_wp2_with (first | ((with_reducible refine gate_builtin (b := .append) (xs := #[.tmp 16, .tmp 20]) rfl ?_); at_builtin; refine Kd.R_append_rows kH (w0 := W) W.heap.size rfl (.tmp 16) (.tmp 20) 45 51 (.slice none 0 0) 24 rfl Try.underlying45 info51q rfl (by decide) (by omega) (.slice (some ⟨W.heap.size, 0, none⟩) 0 0) [] hs A _ c (fun k => W.heap.size ≤ k) (fun _ => False) rfl rfl (Kd.R_drew (R_litH W)) (Kd.C_below HC.out HBW.out) (fun _ _ h => h) (fun _ h => h.elim) (fun k hk => Nat.le_trans HBW.out.size hk) HBW.out HBW.out.size (by have := HLN.out; have := H.out.len; simp only [List.length_nil]; omega) ?_; intro v3 w3 hr3 hb3 hg3 hat3; rw [List.nil_append] at hr3; have HR3 := Aside0.mk hr3; have HB3 := Aside0.mk hb3; clear hr3 hb3 hg3 hat3) | ((with_reducible refine gate_builtin (b := .append) (xs := #[.tmp 21, .tmp 23]) rfl ?_); at_builtin; refine Kd.R_append kH (w0 := W) W.heap.size rfl (.tmp 21) (.tmp 23) 45 51 (.slice none 0 0) 24 rfl Try.underlying45 info51q rfl (by decide) (by omega) v3 hs ((Ab, (bq b).length, cb) : Hd) [.slice Ab (bq b).length cb] (fun k => W.heap.size ≤ k) (fun _ => False) rfl rfl rfl (fun _ h => h.elim) (fun k hk => Nat.le_trans HB3.out.size hk) HR3.out HB3.out HB3.out.size (by have := HLN.out; have := H.out.len; omega) ?_; intro v4 w4 hr4 hb4 hg4 hat4; obtain ⟨A4, n4, c4, rfl⟩ := R_any hr4; have HR4 := Aside0.mk hr4; have HB4 := Aside0.mk hb4; have hy0 : w4.cell? ⟨gq, 0, none⟩ = some (.slice A hs.length c) := (hb4.cell (p := ⟨gq, 0, none⟩) HG.out).trans hx0; have hz0 : w4.frozen? ⟨gq, 0, none⟩ = false := (hb4.frozen (p := ⟨gq, 0, none⟩) HG.out).trans HZ.out; clear hr4 hb4 hg4 hat4))
    go_ret
    refine ⟨rfl, .slice A4 n4 c4, _, H.out.put HB4.out HR4.out (q' := q ++ [b]) (by simp [H.out.len]) (fun j hj => ?_)⟩
    by_cases hjq : j < q.length
    · obtain ⟨A7, c7, e1, e2, e3⟩ := H.out.it j hjq
      rw [List.getElem_append_left hjq]
      exact ⟨A7, c7, by rw [List.getElem?_append_left (by rw [H.out.len]; exact hjq)]; exact e1, e2, e3⟩
    · have ej : j = q.length := by simp at hj; omega
      subst ej
      have e9 : (q ++ [b])[q.length] = b := by simp
      rw [e9]
      exact ⟨Ab, cb, by rw [← H.out.len]; simp, HBB.out.1, HBB.out.2⟩
theorem QPop_no (h : QO W B ownq gq size vL hs []) : Calls Try.prog 59 #[.pointer (some ⟨gq, 0, none⟩)] W fun e w' => e = .returned (.tuple #[.slice none 0 0, .bool false]) ∧ w' = W := by
  obtain ⟨A, c, rfl⟩ := Kd.R_slice h.hl
  have hx0 : W.cell? ⟨gq, 0, none⟩ = some (.slice A hs.length c) := (blk_cell h.hq 0).trans rfl
  rw [h.len] at hx0
  replace hx0 : W.cell? ⟨gq, 0, none⟩ = some (.slice A 0 c) := hx0
  clear h
  go_enter Try.func59, Try.ntmps59
  go_wp2
  ((try simp only [Exit.inBlock, Exit.then]); first | refine bodyPost_ret (results_tmp2 rfl _ _ _) rfl ?_ | refine bodyPost_end (results_tmp2 rfl _ _ _) rfl ?_)
  exact ⟨rfl, rfl⟩
theorem QPop_ok (h : QO W B ownq gq size vL hs (b :: q)) (hlen : q.length ≤ 1000000) : Calls Try.prog 59 #[.pointer (some ⟨gq, 0, none⟩)] W fun e w' => ∃ Ab cb, e = .returned (.tuple #[.slice Ab (bq b).length cb, .bool true]) ∧ (bq b).length ≤ cb ∧ Kd.C k140 w' Ab (bq b).length (bq b) ∧ ∃ vL' hs', QO w' B (fun k => ownq k ∨ W.heap.size ≤ k) gq size vL' hs' q ∧ Kept W w' (fun k => k = gq) ∧ Below B W w' := by
  have hpos : 0 < hs.length := by rw [h.len]; simp
  obtain ⟨gl, c, rfl, -⟩ := Kd.R_form h.hl hpos
  have hx0 : W.cell? ⟨gq, 0, none⟩ = some (.slice (some ⟨gl, 0, none⟩) hs.length c) := (blk_cell h.hq 0).trans rfl
  obtain ⟨Ab, cb, e1, e2, e3⟩ := h.it 0 (by simp)
  have hc0 := (Kd.R_celln (none, 0, 0) h.hl 0 (by omega) (by omega)).1
  have hrd : rdOf (none, 0, 0) hs 0 = (Ab, (bq b).length, cb) := by
    show hs.getD 0 _ = _
    rw [List.getD_eq_getElem?_getD, e1]; rfl
  rw [hrd] at hc0
  replace hc0 : W.cell? ⟨gl, 0, none⟩ = some (.slice Ab (bq b).length cb) := hc0
  have hne : ((hs.length : Int) == 0) = false := beq_false_of_ne (by omega)
  have g1 : (1 : Int) ≤ (hs.length : Int) := by omega
  have g0 : (0 : Int) < (hs.length : Int) := by omega
  have hcap : hs.length ≤ c := (Kd.R_reads' h.hl).2.1
  have g2 : (hs.length : Int) ≤ (c : Int) := by omega
  have H := Aside0.mk h
  have HLN := Aside0.mk hlen
  have HG := Aside0.mk (blk_lt h.hq)
  have HZ := Aside0.mk (blk_frozen h.hq 0)
  have HC := Aside0.mk (Kd.C_drop (k := kH) (m := 1) (Kd.R_reads' h.hl).2.2 (by omega) hcap)
  have HE := Aside0.mk (show _ ∧ _ ∧ _ from ⟨e2, e3, hpos⟩)
  have hya : (W.alloc (.cells #[] 51)).cell? ⟨gq, 0, none⟩ = some (.slice (some ⟨gl, 0, none⟩) hs.length c) := (World.cell?_alloc_lt _ _ _ HG.out).trans hx0
  clear h hlen e1 e2 e3 hpos hcap
  have HBW := Aside0.mk ((Below.refl _ W).alloc (Nat.le_refl _) (.cells #[] 51))
  by_cases hc1 : c = 1
  · subst hc1
    have hl1 : hs.length = 1 := by omega
    have HC1 := Aside0.mk (show Kd.C kH (W.alloc (.cells #[] 51)) (some ⟨gl, 0, none⟩) 0 (hs.drop 1) by
      have h1 := HC.out
      rw [if_pos rfl, List.length_drop, hl1] at h1
      exact Kd.C_below h1 HBW.out)
    rw [hl1] at hx0 hya hne g1 g0 g2
    go_enter Try.func59, Try.ntmps59
    go_wp2_with (first | ((with_reducible refine gate_builtin (b := .append) (xs := #[.tmp 18, .tmp 23]) rfl ?_); at_builtin; refine Kd.R_append_rows kH (w0 := W) W.heap.size rfl (.tmp 18) (.tmp 23) 45 51 (.slice none 0 0) 24 rfl Try.underlying45 info51q rfl (by decide) (by omega) (.slice (some ⟨W.heap.size, 0, none⟩) 0 0) [] (hs.drop 1) (some ⟨gl, 0, none⟩) _ _ (fun k => W.heap.size ≤ k) (fun _ => False) rfl rfl (R_litH W) HC1.out (fun _ _ h => h) (fun _ h => h.elim) (fun k hk => Nat.le_trans HBW.out.size hk) HBW.out HBW.out.size (by have := HLN.out; have := H.out.len; simp only [List.length_nil, List.length_cons] at this ⊢; omega) ?_; intro v3 w3 hr3 hb3 hg3 hat3; rw [List.nil_append] at hr3; obtain ⟨A4, n4, c4, rfl⟩ := R_any hr3; have HR4 := Aside0.mk hr3; have HB4 := Aside0.mk hb3; have hy0 : w3.cell? ⟨gq, 0, none⟩ = some (.slice (some ⟨gl, 0, none⟩) 1 1) := (hb3.cell (p := ⟨gq, 0, none⟩) HG.out).trans hx0; have hz0 : w3.frozen? ⟨gq, 0, none⟩ = false := (hb3.frozen (p := ⟨gq, 0, none⟩) HG.out).trans HZ.out; clear hr3 hb3 hg3 hat3))
    ((try simp only [Exit.inBlock, Exit.then]); first | refine bodyPost_ret (results_tmp2 rfl _ _ _) rfl ?_ | refine bodyPost_end (results_tmp2 rfl _ _ _) rfl ?_)
    have hp := H.out.put HB4.out HR4.out (q' := q) (by rw [List.length_drop, H.out.len]; simp) (fun j hj => by
      obtain ⟨A7, c7, f1, f2, f3⟩ := H.out.it (j + 1) (by simp; omega)
      exact ⟨A7, c7, by rw [List.getElem?_drop, Nat.add_comm]; exact f1, f2, f3⟩)
    have hF9 := Kd.F_now (Kd.F_step HE.out.2.1 (fun k ho hlt => hp.2.1.2 k hlt ho.2.1))
    first | exact ⟨Ab, cb, rfl, HE.out.1, hF9, _, _, hp⟩ | exact ⟨Ab, cb, rfl, HE.out.1, hF9, ⟨_, _, hp.1⟩, hp.2⟩
  · have HC1 := Aside0.mk (show Kd.C kH (W.alloc (.cells #[] 51)) (some ⟨gl, 1, none⟩) (hs.length - 1) (hs.drop 1) by
      have h1 := HC.out
      rw [if_neg hc1, List.length_drop] at h1
      exact Kd.C_below h1 HBW.out)
    go_enter Try.func59, Try.ntmps59
    go_wp2_with (first | ((with_reducible refine gate_builtin (b := .append) (xs := #[.tmp 18, .tmp 23]) rfl ?_); at_builtin; refine Kd.R_append_rows kH (w0 := W) W.heap.size rfl (.tmp 18) (.tmp 23) 45 51 (.slice none 0 0) 24 rfl Try.underlying45 info51q rfl (by decide) (by omega) (.slice (some ⟨W.heap.size, 0, none⟩) 0 0) [] (hs.drop 1) (some ⟨gl, 1, none⟩) _ _ (fun k => W.heap.size ≤ k) (fun _ => False) rfl rfl (R_litH W) HC1.out (fun _ _ h => h) (fun _ h => h.elim) (fun k hk => Nat.le_trans HBW.out.size hk) HBW.out HBW.out.size (by have := HLN.out; have := H.out.len; simp only [List.length_nil, List.length_cons] at this ⊢; omega) ?_; intro v3 w3 hr3 hb3 hg3 hat3; rw [List.nil_append] at hr3; obtain ⟨A4, n4, c4, rfl⟩ := R_any hr3; have HR4 := Aside0.mk hr3; have HB4 := Aside0.mk hb3; have hy0 : w3.cell? ⟨gq, 0, none⟩ = some (.slice (some ⟨gl, 0, none⟩) hs.length c) := (hb3.cell (p := ⟨gq, 0, none⟩) HG.out).trans hx0; have hz0 : w3.frozen? ⟨gq, 0, none⟩ = false := (hb3.frozen (p := ⟨gq, 0, none⟩) HG.out).trans HZ.out; clear hr3 hb3 hg3 hat3))
    ((try simp only [Exit.inBlock, Exit.then]); first | refine bodyPost_ret (results_tmp2 rfl _ _ _) rfl ?_ | refine bodyPost_end (results_tmp2 rfl _ _ _) rfl ?_)
    have hp := H.out.put HB4.out HR4.out (q' := q) (by rw [List.length_drop, H.out.len]; simp) (fun j hj => by
      obtain ⟨A7, c7, f1, f2, f3⟩ := H.out.it (j + 1) (by simp; omega)
      exact ⟨A7, c7, by rw [List.getElem?_drop, Nat.add_comm]; exact f1, f2, f3⟩)
    have hF9 := Kd.F_now (Kd.F_step HE.out.2.1 (fun k ho hlt => hp.2.1.2 k hlt ho.2.1))
    first | exact ⟨Ab, cb, rfl, HE.out.1, hF9, _, _, hp⟩ | exact ⟨Ab, cb, rfl, HE.out.1, hF9, ⟨_, _, hp.1⟩, hp.2⟩
end
structure QI (M : MS) (R : RC) (n a : Nat) (q : List (List S143)) : Prop where
  wl : M.words.length = 4
  w1 : rd M.words 1 = R.ci
  w2 : rd M.words 2 = R.co
  bl : M.boxes.length = n + 2
  bx : R.box = 1
  sz : R.size = (n : Int)
  wi : R.wi = 1
  wo : R.wo = 2
  bd : M.beds = fun _ => none
  co : R.co = (a : Int)
  ci : R.ci = ((a + q.length : Nat) : Int)
  le : q.length ≤ n
  hn : n = 1 ∨ n = 2 ∨ n = 4 ∨ n = 8 ∨ n = 16
  it : ∀ j (hj : j < q.length), rdB M.boxes ((1 + (a + j) % n : Nat) : Int) = q[j]
  sm : ∀ b ∈ M.boxes, b.length ≤ 12
theorem mod_ne {n : Nat} (hn : n = 1 ∨ n = 2 ∨ n = 4 ∨ n = 8 ∨ n = 16) {a j l : Nat} (h1 : j < l) (h2 : l < n) : (a + j) % n ≠ (a + l) % n := by
  rcases hn with rfl | rfl | rfl | rfl | rfl <;> omega
theorem rdB_set {bs : List (List S143)} {i j : Nat} {b : List S143} (hi : i < bs.length) : rdB (bs.set i b) (j : Int) = if i = j then b else rdB bs (j : Int) := by
  unfold rdB
  rw [Int.toNat_natCast, List.getD_eq_getElem?_getD, List.getD_eq_getElem?_getD, List.getElem?_set]
  by_cases e : i = j
  · subst e
    simp [hi]
  · simp [e]
theorem rd_setq {ws : List Int} {i j : Nat} {x : Int} (hi : i < ws.length) : rd (ws.set i x) (j : Int) = if i = j then x else rd ws (j : Int) := by
  unfold rd
  rw [Int.toNat_natCast, List.getD_eq_getElem?_getD, List.getD_eq_getElem?_getD, List.getElem?_set]
  by_cases e : i = j
  · subst e
    simp [hi]
  · simp [e]
section
variable {M : MS} {R : RC} {n a : Nat} {q : List (List S143)}
theorem QI.fits (h : QI M R n a q) {who at_ k : Int} (h0 : 0 ≤ who) (h1 : 0 ≤ at_) (h2 : at_ < k) : M.fits who at_ k = true := by
  unfold MS.fits
  rw [h.bd, decide_eq_true h0, decide_eq_true h1, decide_eq_true h2]; rfl
theorem QI.note (h : QI M R n a q) (who k at_ : Int) (ok : Bool) : QI (M.note who k at_ ok) R n a q := ⟨h.wl, h.w1, h.w2, h.bl, h.bx, h.sz, h.wi, h.wo, h.bd, h.co, h.ci, h.le, h.hn, h.it, h.sm⟩
theorem QI.place_in (h : QI M R n a q) : R.place R.ci = ((1 + (a + q.length) % n : Nat) : Int) := by
  unfold RC.place; rw [h.bx, h.sz, h.ci]; omega
theorem QI.place_out (h : QI M R n a q) : R.place R.co = ((1 + a % n : Nat) : Int) := by
  unfold RC.place; rw [h.bx, h.sz, h.co]; omega
theorem QI.npos (h : QI M R n a q) : 0 < n := by have := h.hn; omega
theorem QI.look_in (h : QI M R n a q) {who : Int} (h0 : 0 ≤ who) : M.load who R.wo = R.co ∧ M.loadTo who R.wo = M.note who 0 2 true := by
  have hf : M.fits who R.wo (M.words.length : Int) = true := h.fits h0 (by rw [h.wo]; decide) (by rw [h.wo, h.wl]; decide)
  unfold MS.load MS.loadTo
  rw [if_pos hf, if_pos hf, h.wo]
  exact ⟨h.w2, rfl⟩
theorem QI.look_out (h : QI M R n a q) {who : Int} (h0 : 0 ≤ who) : M.load who R.wi = R.ci ∧ M.loadTo who R.wi = M.note who 0 1 true := by
  have hf : M.fits who R.wi (M.words.length : Int) = true := h.fits h0 (by rw [h.wi]; decide) (by rw [h.wi, h.wl]; decide)
  unfold MS.load MS.loadTo
  rw [if_pos hf, if_pos hf, h.wi]
  exact ⟨h.w1, rfl⟩
theorem QI.full (h : QI M R n a q) (hl : a + q.length ≤ 100000) : decide (R.size ≤ IntKind.u64.wrap (R.ci - R.co)) = decide (q.length = n) := by
  have := h.le
  rw [h.sz, h.ci, h.co, IntKind.wrap_u64, decide_eq_decide]
  omega
theorem QI.emp (h : QI M R n a q) : (R.ci == R.co) = decide (q.length = 0) := by
  rw [h.ci, h.co, Bool.eq_iff_iff, beq_iff_eq, decide_eq_true_eq]
  omega
theorem QI.push (h : QI M R n a q) (hl : a + q.length ≤ 100000) (hq : q.length < n) {b : List S143} (hb : b.length ≤ 12) {who : Int} (h0 : 0 ≤ who) :
    ∃ M2 M3, M.set_ who (R.place R.ci) b = M2 ∧ M2.store who R.wi (IntKind.u64.wrap (R.ci + 1)) = M3 ∧ QI M3 { R with ci := IntKind.u64.wrap (R.ci + 1) } n a (q ++ [b]) ∧ M2.log.length = M.log.length + 1 ∧ M3.log.length = M.log.length + 2 ∧ M2.beds = (fun _ => none) := by
  have hp := h.place_in
  have hn := h.npos
  have hm := Nat.mod_lt (a + q.length) hn
  have hf : M.fits who (R.place R.ci) (M.boxes.length : Int) = true := h.fits h0 (by rw [hp]; omega) (by rw [hp, h.bl]; omega)
  have e2 : M.set_ who (R.place R.ci) b = { M.note who 3 (R.place R.ci) true with boxes := M.boxes.set (1 + (a + q.length) % n) b } := by
    unfold MS.set_; rw [if_pos hf, hp, Int.toNat_natCast]
  have hw : IntKind.u64.wrap (R.ci + 1) = R.ci + 1 := by rw [h.ci, IntKind.wrap_u64]; omega
  refine ⟨_, _, e2, rfl, ?_⟩
  obtain ⟨M2, hM2⟩ : ∃ M2 : MS, ({ M.note who 3 (R.place R.ci) true with boxes := M.boxes.set (1 + (a + q.length) % n) b } : MS) = M2 := ⟨_, rfl⟩
  rw [hM2]
  have b1 : M2.words = M.words := by rw [← hM2]; rfl
  have b2 : M2.boxes = M.boxes.set (1 + (a + q.length) % n) b := by rw [← hM2]
  have b3 : M2.beds = fun _ => none := by rw [← hM2]; exact h.bd
  have b4 : M2.log.length = M.log.length + 1 := by rw [← hM2]; simp [MS.note]
  have hf2 : M2.fits who R.wi (M2.words.length : Int) = true := by
    unfold MS.fits
    rw [b3, b1, h.wi, h.wl, decide_eq_true h0]; rfl
  have e3 : M2.store who R.wi (IntKind.u64.wrap (R.ci + 1)) = { M2.note who 1 R.wi true with words := M.words.set 1 (R.ci + 1) } := by
    unfold MS.store; rw [if_pos hf2, b1, h.wi, hw]; rfl
  rw [e3, hw]
  refine ⟨⟨?_, ?_, ?_, ?_, h.bx, h.sz, h.wi, h.wo, b3, h.co, ?_, ?_, h.hn, ?_, ?_⟩, b4, ?_, b3⟩
  · simpa using h.wl
  · have := rd_setq (ws := M.words) (i := 1) (j := 1) (x := R.ci + 1) (by rw [h.wl]; decide)
    simpa using this
  · have := rd_setq (ws := M.words) (i := 1) (j := 2) (x := R.ci + 1) (by rw [h.wl]; decide)
    rw [if_neg (by decide)] at this
    exact this.trans h.w2
  · show M2.boxes.length = _
    rw [b2]; simpa using h.bl
  · show R.ci + 1 = _
    rw [h.ci]; simp; omega
  · simp; omega
  · intro j hj
    show rdB M2.boxes _ = _
    rw [b2, rdB_set (by rw [h.bl]; omega)]
    by_cases hjq : j < q.length
    · rw [if_neg (by have := mod_ne h.hn (a := a) hjq hq; omega), List.getElem_append_left hjq]
      exact h.it j hjq
    · have ej : j = q.length := by simp at hj; omega
      subst ej
      rw [if_pos rfl]; simp
  · intro c hc
    replace hc : c ∈ M2.boxes := hc
    rw [b2] at hc
    exact (List.mem_or_eq_of_mem_set hc).elim (h.sm c) (fun e => e ▸ hb)
  · show (M2.log ++ _).length = _
    simp [b4]
theorem QI.pop {b : List S143} (h : QI M R n a (b :: q)) (hl : a + q.length + 1 ≤ 100000) {who : Int} (h0 : 0 ≤ who) :
    ∃ M2 M3, M.getTo who (R.place R.co) = M2 ∧ M.get who (R.place R.co) = b ∧ M2.store who R.wo (IntKind.u64.wrap (R.co + 1)) = M3 ∧ QI M3 { R with co := IntKind.u64.wrap (R.co + 1) } n (a + 1) q ∧ M2.log.length = M.log.length + 1 ∧ M3.log.length = M.log.length + 2 ∧ M2.beds = (fun _ => none) := by
  have hp := h.place_out
  have hn := h.npos
  have hm := Nat.mod_lt a hn
  have hf : M.fits who (R.place R.co) (M.boxes.length : Int) = true := h.fits h0 (by rw [hp]; omega) (by rw [hp, h.bl]; omega)
  have e2 : M.getTo who (R.place R.co) = M.note who 2 (R.place R.co) true := by unfold MS.getTo; rw [if_pos hf]
  have eb : M.get who (R.place R.co) = b := by
    unfold MS.get; rw [if_pos hf, hp]
    have := h.it 0 (by simp)
    simpa using this
  have hw : IntKind.u64.wrap (R.co + 1) = R.co + 1 := by rw [h.co, IntKind.wrap_u64]; omega
  refine ⟨_, _, e2, eb, rfl, ?_⟩
  have hf2 : (M.note who 2 (R.place R.co) true).fits who R.wo ((M.note who 2 (R.place R.co) true).words.length : Int) = true := by
    have := (h.note who 2 (R.place R.co) true).fits h0 (at_ := R.wo) (k := (M.words.length : Int)) (by rw [h.wo]; decide) (by rw [h.wo, h.wl]; decide)
    exact this
  have e3 : (M.note who 2 (R.place R.co) true).store who R.wo (IntKind.u64.wrap (R.co + 1)) = { (M.note who 2 (R.place R.co) true).note who 1 R.wo true with words := M.words.set 2 (R.co + 1) } := by
    unfold MS.store; rw [if_pos hf2, h.wo, hw]; rfl
  rw [e3, hw]
  refine ⟨⟨?_, ?_, ?_, h.bl, h.bx, h.sz, h.wi, h.wo, h.bd, ?_, ?_, ?_, h.hn, ?_, h.sm⟩, by simp [MS.note], by simp [MS.note], h.bd⟩
  · simpa using h.wl
  · have := rd_setq (ws := M.words) (i := 2) (j := 1) (x := R.co + 1) (by rw [h.wl]; decide)
    rw [if_neg (by decide)] at this
    exact this.trans h.w1
  · have := rd_setq (ws := M.words) (i := 2) (j := 2) (x := R.co + 1) (by rw [h.wl]; decide)
    simpa using this
  · show R.co + 1 = _
    rw [h.co]; simp
  · show R.ci = _
    rw [h.ci]; simp; omega
  · have := h.le; simp at this; omega
  · intro j hj
    have := h.it (j + 1) (by simp; omega)
    have e : a + (j + 1) = a + 1 + j := by omega
    rw [e] at this
    exact this
end
end Go.Proofs.Ytlcnckbmolefpaa.P
end
