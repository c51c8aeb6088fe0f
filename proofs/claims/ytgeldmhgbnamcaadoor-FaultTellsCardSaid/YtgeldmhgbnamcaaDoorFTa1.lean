/- Walks and laws of several statements of this seat, joined into one text; no condition. -/
import Derived.Test.YtgeldmhgbnamcaaDoorProg
import Derived.Below
import Derived.Deep.Draws
import Derived.Deep.AppendLies
import Derived.Maps.AppendAt
import Derived.OwnWalk
import Derived.Laws.BytesArg
import Derived.Laws.MakeOwn
import Derived.Laws.OwnMore
import Derived.Deep.OwnRows
import Derived.Tactics
import Derived.Lib.ConvBytes
import Derived.Laws.Slices
import Derived.WalkKit
import Derived.KernelRfl
import Derived.RowKit3
import Derived.Deep.LoopGhost
import Derived.Deep.QuietTactic
import Derived.BigQuiet
import Derived.WideLaws
import Derived.Deep.DeepCutAuto
import Derived.Deep.CutBlock
import Derived.Deep.RegionHeld3
import Derived.Laws.Rows
import Derived.Lib.AppendStr
import Derived.ArgAppend
import Derived.Laws.IdiomCopy
import Derived.OrdersHeld
import Derived.Laws.BitsLemmas
import Derived.RowKit
import Derived.Laws.StructEq
import Derived.Deep.Slices
import Derived.SizedLaws
import Derived.OpenShut
import Derived.Lib.SmallJoins
import Derived.LaidEql
import Derived.Stop.Asserts
import Derived.RowKitTokens
import Derived.LoopTactic
import Derived.Test.YtgeldmhgbnamcaaDoorRows
import Derived.LaidLaws
import Derived.LaidHandle
import Derived.Lay
import Derived.Elder7
import Derived.Lib.ItoaLen
import Derived.Lib.ParseIntB
import Derived.Shelf.Strconv.Itoa3
import Derived.Lib.AppendIntMem
import Derived.Test.YtgeldmhgbnamcaaDoorFTa0
section
namespace Go.Proofs.YtgeldmhgbnamcaaDoor.P
open Go.RowKit Go.Proofs.YtgeldmhgbnamcaaDoorW.PrintWords Go.Proofs.YtgeldmhgbnamcaaDoorW.PrintLast Go.Proofs.YtgeldmhgbnamcaaDoorW.PrintMore
attribute [local go_sem] max2_int min2_int max_two min_two max_three min_three max_four min_four   -- for this text's walks alone
set_option linter.unusedVariables false
set_option linter.unusedSimpArgs false
def errW : Option Int → Value
  | none => .nilIface
  | some c => .iface 33 (.int .i64 c)
theorem errW_none : errW none = .nilIface := rfl
theorem errW_some (c : Int) : errW (some c) = .iface 33 (.int .i64 c) := rfl
theorem info3 : (Tryd.prog.info? 3).map (fun i => (i.zero, i.size, i.bytes)) = some (some (.int .i64 0), 1, 8) := by kernel_rfl
theorem info22 : (Tryd.prog.info? 22).map (fun i => (i.zero, i.size, i.bytes)) = some (some (.int .u64 0), 1, 8) := by kernel_rfl
theorem info73 : (Tryd.prog.info? 73).map (fun i => (i.zero, i.size, i.bytes)) = some (some (.slice none 0 0), 1, 24) := by kernel_rfl
theorem info75 : (Tryd.prog.info? 75).map (fun i => (i.zero, i.size, i.bytes)) = some (some (.agg #[(.int .i64 0), (.int .i64 0), (.int .u64 0)]), 3, 24) := by kernel_rfl
theorem info127 : (Tryd.prog.info? 127).map (fun i => (i.zero, i.size, i.bytes)) = some (some (.agg #[(.int .i64 0), (.int .i64 0), (.int .u64 0)]), 3, 24) := by kernel_rfl
-- the values' own types
/-! #### struct type 75 -/
structure S75 where
  f0 : Int
  f1 : Int
  f2 : Int
def z75 : S75 := ⟨(0 : Int), (0 : Int), (0 : Int)⟩
def k75 : Kd S75 := Kd.iso (Kd.pair (Kd.int .i64) (Kd.pair (Kd.int .i64) (Kd.int .u64))) (fun x : S75 => (x.f0, x.f1, x.f2))
theorem k75_open {w : World} {x : S75} {cs : List Value} (h : k75.K w x cs) : cs = [.int .i64 x.f0, .int .i64 x.f1, .int .u64 x.f2] := by
  obtain ⟨_, _, rfl, rfl, ⟨_, _, rfl, rfl, rfl⟩⟩ := h
  exact rfl
theorem k75_openM {w : World} {base : Nat} {ok : Nat → Prop} {x : S75} {cs : List Value} (h : k75.M w base ok x cs) : cs = [.int .i64 x.f0, .int .i64 x.f1, .int .u64 x.f2] := by
  obtain ⟨_, _, rfl, rfl, ⟨_, _, rfl, rfl, rfl⟩⟩ := h
  exact rfl
theorem k75_mk (w : World) (x : S75)  : k75.K w x [.int .i64 x.f0, .int .i64 x.f1, .int .u64 x.f2] := ⟨[.int .i64 x.f0], [.int .i64 x.f1, .int .u64 x.f2], rfl, rfl, ⟨[.int .i64 x.f1], [.int .u64 x.f2], rfl, rfl, rfl⟩⟩
theorem k75_mkM (w : World) (base : Nat) (ok : Nat → Prop) (x : S75)  : k75.M w base ok x [.int .i64 x.f0, .int .i64 x.f1, .int .u64 x.f2] := ⟨[.int .i64 x.f0], [.int .i64 x.f1, .int .u64 x.f2], rfl, rfl, ⟨[.int .i64 x.f1], [.int .u64 x.f2], rfl, rfl, rfl⟩⟩
def rd_T75 (xs : List S75) (i : Int) : S75 := xs.getD i.toNat z75
theorem at_T75 {w : World} {A : Option Addr} {n : Nat} {xs : List S75} (h : Kd.C k75 w A n xs) (i : Int) (h0 : 0 ≤ i) (h1 : i < n) : ∃ ad , A = some ad ∧ w.cell? (ad.add (i.toNat * 3)) = some (.int .i64 (rd_T75 xs i).f0) ∧ w.cell? ⟨(ad.add (i.toNat * 3)).block, (ad.add (i.toNat * 3)).off + 1, none⟩ = some (.int .i64 (rd_T75 xs i).f1) ∧ w.cell? ⟨(ad.add (i.toNat * 3)).block, (ad.add (i.toNat * 3)).off + 2, none⟩ = some (.int .u64 (rd_T75 xs i).f2) := by
  obtain ⟨ad, c, e, _, hK, hc0⟩ := Kd.C_get h z75 i h0 h1
  have hc : ∀ j u, c[j]? = some u → w.cell? (ad.add (i.toNat * 3 + j)) = some u := hc0
  obtain rfl := k75_open hK
  exact ⟨ad, e, hc 0 _ rfl, by rw [← add_field _ _ 1 (by omega)]; exact hc 1 _ rfl, by rw [← add_field _ _ 2 (by omega)]; exact hc 2 _ rfl⟩
/-! #### struct type 127 -/
structure S127 where
  f0 : Int
  f1 : Int
  f2 : Int
def z127 : S127 := ⟨(0 : Int), (0 : Int), (0 : Int)⟩
def k127 : Kd S127 := Kd.iso (Kd.pair (Kd.int .i64) (Kd.pair (Kd.int .i64) (Kd.int .u64))) (fun x : S127 => (x.f0, x.f1, x.f2))
theorem k127_open {w : World} {x : S127} {cs : List Value} (h : k127.K w x cs) : cs = [.int .i64 x.f0, .int .i64 x.f1, .int .u64 x.f2] := by
  obtain ⟨_, _, rfl, rfl, ⟨_, _, rfl, rfl, rfl⟩⟩ := h
  exact rfl
theorem k127_openM {w : World} {base : Nat} {ok : Nat → Prop} {x : S127} {cs : List Value} (h : k127.M w base ok x cs) : cs = [.int .i64 x.f0, .int .i64 x.f1, .int .u64 x.f2] := by
  obtain ⟨_, _, rfl, rfl, ⟨_, _, rfl, rfl, rfl⟩⟩ := h
  exact rfl
theorem k127_mk (w : World) (x : S127)  : k127.K w x [.int .i64 x.f0, .int .i64 x.f1, .int .u64 x.f2] := ⟨[.int .i64 x.f0], [.int .i64 x.f1, .int .u64 x.f2], rfl, rfl, ⟨[.int .i64 x.f1], [.int .u64 x.f2], rfl, rfl, rfl⟩⟩
theorem k127_mkM (w : World) (base : Nat) (ok : Nat → Prop) (x : S127)  : k127.M w base ok x [.int .i64 x.f0, .int .i64 x.f1, .int .u64 x.f2] := ⟨[.int .i64 x.f0], [.int .i64 x.f1, .int .u64 x.f2], rfl, rfl, ⟨[.int .i64 x.f1], [.int .u64 x.f2], rfl, rfl, rfl⟩⟩
def rd_T127 (xs : List S127) (i : Int) : S127 := xs.getD i.toNat z127
theorem at_T127 {w : World} {A : Option Addr} {n : Nat} {xs : List S127} (h : Kd.C k127 w A n xs) (i : Int) (h0 : 0 ≤ i) (h1 : i < n) : ∃ ad , A = some ad ∧ w.cell? (ad.add (i.toNat * 3)) = some (.int .i64 (rd_T127 xs i).f0) ∧ w.cell? ⟨(ad.add (i.toNat * 3)).block, (ad.add (i.toNat * 3)).off + 1, none⟩ = some (.int .i64 (rd_T127 xs i).f1) ∧ w.cell? ⟨(ad.add (i.toNat * 3)).block, (ad.add (i.toNat * 3)).off + 2, none⟩ = some (.int .u64 (rd_T127 xs i).f2) := by
  obtain ⟨ad, c, e, _, hK, hc0⟩ := Kd.C_get h z127 i h0 h1
  have hc : ∀ j u, c[j]? = some u → w.cell? (ad.add (i.toNat * 3 + j)) = some u := hc0
  obtain rfl := k127_open hK
  exact ⟨ad, e, hc 0 _ rfl, by rw [← add_field _ _ 1 (by omega)]; exact hc 1 _ rfl, by rw [← add_field _ _ 2 (by omega)]; exact hc 2 _ rfl⟩
def rd_L5 (xs : List (List Int)) (i : Int) : (List Int) := xs.getD i.toNat ([] : List Int)
theorem at_L5 {w : World} {A : Option Addr} {n : Nat} {xs : List (List Int)} (h : Kd.C (Kd.slice 22 (Kd.int .u64)) w A n xs) (i : Int) (h0 : 0 ≤ i) (h1 : i < n) : ∃ ad A0 c0, A = some ad ∧ w.cell? (ad.add i.toNat) = some (.slice A0 (rd_L5 xs i).length c0) ∧ (rd_L5 xs i).length ≤ c0 ∧ (Kd.int .u64).C w A0 (rd_L5 xs i).length (rd_L5 xs i) := by
  obtain ⟨ad, c, e, _, hK, hc0⟩ := Kd.C_get h ([] : List Int) i h0 h1
  have hc : ∀ j u, c[j]? = some u → w.cell? (ad.add (i.toNat * 1 + j)) = some u := hc0
  obtain ⟨A0, c0, rfl, l0, g0⟩ := hK
  exact ⟨ad, A0, c0, e, by have hq := hc 0 _ rfl; rwa [Nat.mul_one, Nat.add_zero] at hq, l0, g0⟩
open Go.ChangeShapes Go.WideShapes Go.Deep
def Opens (P : Program) (t : TypeId) {α : Type} (d : Kd α) (q : α → Prop) : Prop :=
  ∀ (H : Type) (enc : TypeId × Value → H) (w : World) (base : Nat) (spare : Nat → Bool) (held : Bool) (fuel : Nat) (cs : List Value) (x : DataW H × List MemPlace),
    DataW.trod enc P w base spare held fuel t cs = some x → ∃ y : α, d.K w y cs ∧ q y
theorem Opens.int {P : Program} {t : TypeId} {k : IntKind} (hu : P.underlying t = some (.int k)) : Opens P t (Kd.int k) (fun n => (Lit.int k n).wf = true) := by
  intro H enc w base spare held fuel cs x h
  obtain ⟨n, rfl, _, hw⟩ := DataW.trod_int hu h
  exact ⟨n, rfl, hw⟩
theorem Opens.bool {P : Program} {t : TypeId} (hu : P.underlying t = some .bool) : Opens P t Kd.bool (fun _ => True) := by
  intro H enc w base spare held fuel cs x h
  obtain ⟨b, rfl, _⟩ := DataW.trod_bool hu h
  exact ⟨b, rfl, trivial⟩
theorem Opens.string {P : Program} {t : TypeId} (hu : P.underlying t = some .string) : Opens P t Kd.string (fun s => s.size ≤ maxLen) := by
  intro H enc w base spare held fuel cs x h
  obtain ⟨s, rfl, _, hs⟩ := DataW.trod_string hu h
  exact ⟨s, rfl, hs⟩
theorem Opens.imp {P : Program} {t : TypeId} {α : Type} {d : Kd α} {q q' : α → Prop} (h : Opens P t d q) (hq : ∀ y, q y → q' y) : Opens P t d q' := by
  intro H enc w base spare held fuel cs x hx
  obtain ⟨y, h1, h2⟩ := h H enc w base spare held fuel cs x hx
  exact ⟨y, h1, hq y h2⟩
theorem Opens.iso {P : Program} {t : TypeId} {α β : Type} {d : Kd α} {q : α → Prop} (h : Opens P t d q) (f : β → α) (g : α → β) (hfg : ∀ y, f (g y) = y) : Opens P t (Kd.iso d f) (fun x => q (f x)) := by
  intro H enc w base spare held fuel cs x hx
  obtain ⟨y, h1, h2⟩ := h H enc w base spare held fuel cs x hx
  refine ⟨g y, ?_, by show q (f (g y)); rw [hfg]; exact h2⟩
  show d.K w (f (g y)) cs
  rw [hfg]; exact h1
theorem Opens.slice {P : Program} {t e : TypeId} {α : Type} [Inhabited α] {d : Kd α} {q : α → Prop} (hu : P.underlying t = some (.slice e)) (hc : P.cellsOf e = d.sz) (h : Opens P e d q) : Opens P t (Kd.slice e d) (fun l => l.length ≤ maxLen ∧ ∀ y ∈ l, q y) := by
  intro H enc w base spare held fuel cs x hx
  rcases open_slice hu hx with ⟨rfl, _⟩ | ⟨a, len, cap, m, n, D, Pl, rfl, hb, hl, hm, hmm, _, hel⟩
  · exact ⟨[], ⟨none, 0, rfl, Nat.le_refl _, rfl, Nat.zero_le _, fun h => absurd h (by simp)⟩, Nat.zero_le _, fun y hy => by simp at hy⟩
  · have hlm : len ≤ m := by rw [hmm]; split <;> omega
    obtain ⟨Y, hY⟩ := choose_lt (α := α) (n := len) (p := fun i y => ∃ cs', w.cells? base (a.add (i * P.cellsOf e)) (P.cellsOf e) = some cs' ∧ d.K w y cs' ∧ q y) (fun i hi => by
      obtain ⟨cs', h1, h2⟩ := hel i (by omega)
      obtain ⟨y, h3, h4⟩ := h H enc w base spare held n cs' _ h2
      exact ⟨y, cs', h1, h3, h4⟩)
    have hlen : ((List.range len).map Y).length = len := by simp
    refine ⟨(List.range len).map Y, ⟨some a, cap, by rw [hlen], by rw [hlen]; exact hl, rfl, ?_, fun _ => ⟨a, rfl, fun j p hj => ?_⟩⟩, ?_, fun y hy => ?_⟩
    · rw [hlen]; unfold maxLen at hm; omega
    · obtain ⟨hjl, hje⟩ := List.getElem?_eq_some_iff.1 hj
      rw [hlen] at hjl
      have hpj : p = Y j := by rw [← hje]; simp
      obtain ⟨cs', h1, h3, _⟩ := hY j hjl
      obtain ⟨_, hcl, hcc⟩ := World.cells?_some h1
      refine ⟨cs', d.K_len h3, by rw [hpj]; exact h3, fun i u hu2 => ?_⟩
      have hi := (List.getElem?_eq_some_iff.1 hu2).1
      rw [d.K_len h3] at hi
      have h5 := hcc i (by rw [hc]; exact hi)
      rw [hc, Go.Deep.add_add] at h5
      rw [h5, ← hu2]
    · rw [hlen]; omega
    · obtain ⟨j, hj, rfl⟩ := List.mem_map.1 hy
      obtain ⟨_, _, _, h4⟩ := hY j (List.mem_range.1 hj)
      exact h4
def OpensSeg (P : Program) (fs : List Field) (off : Nat) {α : Type} (d : Kd α) (q : α → Prop) : Prop :=
  ∀ (H : Type) (enc : TypeId × Value → H) (w : World) (base : Nat) (spare : Nat → Bool) (held : Bool) (fuel : Nat) (cs : List Value), cs.length = d.sz →
    (∀ f ∈ fs, ∃ x : DataW H × List MemPlace, DataW.trod enc P w base spare held fuel f.type ((cs.drop (f.offset - off)).take (P.cellsOf f.type)) = some x) → ∃ y : α, d.K w y cs ∧ q y
theorem OpensSeg.one {P : Program} {f : Field} {off : Nat} {α : Type} {d : Kd α} {q : α → Prop} (ho : f.offset = off) (hc : P.cellsOf f.type = d.sz) (h : Opens P f.type d q) : OpensSeg P [f] off d q := by
  intro H enc w base spare held fuel cs hl hf
  obtain ⟨x, hx⟩ := hf f List.mem_cons_self
  rw [ho, Nat.sub_self, List.drop_zero, hc, ← hl, List.take_length] at hx
  exact h H enc w base spare held fuel cs x hx
theorem OpensSeg.cons {P : Program} {f : Field} {fs : List Field} {off : Nat} {α β : Type} {d : Kd α} {d2 : Kd β} {q : α → Prop} {q2 : β → Prop} (ho : f.offset = off) (hc : P.cellsOf f.type = d.sz) (hm : ∀ g ∈ fs, off + d.sz ≤ g.offset) (h : Opens P f.type d q) (h2 : OpensSeg P fs (off + d.sz) d2 q2) :
    OpensSeg P (f :: fs) off (Kd.pair d d2) (fun y => q y.1 ∧ q2 y.2) := by
  intro H enc w base spare held fuel cs hl hf
  have hl' : cs.length = d.sz + d2.sz := hl
  obtain ⟨x, hx⟩ := hf f List.mem_cons_self
  rw [ho, Nat.sub_self, List.drop_zero, hc] at hx
  obtain ⟨y, h3, h4⟩ := h H enc w base spare held fuel _ x hx
  obtain ⟨y2, h5, h6⟩ := h2 H enc w base spare held fuel (cs.drop d.sz) (by rw [List.length_drop]; omega) (fun g hg => by
    obtain ⟨x2, hx2⟩ := hf g (List.mem_cons_of_mem _ hg)
    refine ⟨x2, ?_⟩
    have := hm g hg
    rw [List.drop_drop, show d.sz + (g.offset - (off + d.sz)) = g.offset - off by omega]
    exact hx2)
  exact ⟨(y, y2), ⟨cs.take d.sz, cs.drop d.sz, (List.take_append_drop _ _).symm, h3, h5⟩, h4, h6⟩
theorem Opens.struct {P : Program} {t : TypeId} {fs : Array Field} {α : Type} {d : Kd α} {q : α → Prop} (hu : P.underlying t = some (.struct fs)) (hc : P.cellsOf t = d.sz) (h : OpensSeg P fs.toList 0 d q) : Opens P t d q := by
  intro H enc w base spare held fuel cs x hx
  obtain ⟨xs, n, rfl, _, hl, hxs, hf⟩ := DataW.trod_struct hu hx
  refine h H enc w base spare held n cs (by rw [hl, hc]) (fun f hf2 => ?_)
  obtain ⟨i, hi, rfl⟩ := List.getElem_of_mem hf2
  have h1 := hf i fs.toList[i] (by rw [Array.getElem?_eq_getElem (by simpa using hi)]; simp)
  have hi2 : i < fs.size := by simpa using hi
  rw [List.getElem?_eq_getElem (by omega)] at h1
  exact ⟨_, by rw [Nat.sub_zero]; exact h1⟩
theorem Opens.arg {P : Program} {t e : TypeId} {α : Type} {d : Kd α} {q : List α → Prop} (ho : Opens P t (Kd.slice e d) q) {H : Type} {enc : TypeId × Value → H} {w : World} {base : Nat} {spare : Nat → Bool} {held : Bool} {a : Option Addr} {len cap : Nat} {D : DataW H} {ps : List MemPlace} (h : DataW.Trod enc P w base spare held t (.slice a len cap) D ps) :
    ∃ l : List α, len = l.length ∧ Kd.C d w a l.length l ∧ l.length ≤ cap ∧ q l := by
  obtain ⟨fuel, hf⟩ := h
  obtain ⟨l, ⟨A, c, he, hlc, hC⟩, hq⟩ := ho H enc w base spare held fuel _ _ hf
  simp [Value.cells] at he
  obtain ⟨rfl, rfl, rfl⟩ := he
  exact ⟨l, rfl, hC, hlc, hq⟩
theorem sized_slice_any {H : Type} {enc : TypeId × Value → H} {P : Program} {W : World} {base : Nat} {spare : Nat → Bool} {held : Bool} {t e : TypeId} {a : Option Addr} {len cap : Nat} {d : DataW H} {ps : List MemPlace} {ts : List TypeId} {ds : List (DataW H)} {j : Nat}
    (hsz : (DataW.weightsEach P ts ds).all (· ≤ reachBytes) = true) (ht : ts[j]? = some t) (hd : ds[j]? = some d) (hu : P.underlying t = some (.slice e)) {B : Nat} (hB : P.bytesOf e = B)
    (h : DataW.Trod enc P W base spare held t (.slice a len cap) d ps) : len * B ≤ 140737488351232 := by
  obtain ⟨fuel, hf⟩ := h
  rcases open_slice hu hf with ⟨hcs, _⟩ | ⟨x, l, c, m, n, D, Pl, hcs, _, hl, _, hm, hx, _⟩
  · simp [Value.cells] at hcs
    obtain ⟨rfl, rfl, rfl⟩ := hcs
    simp
  · simp [Value.cells] at hcs
    obtain ⟨rfl, rfl, rfl⟩ := hcs
    obtain ⟨hx, _⟩ := Prod.mk.inj hx
    subst hx
    have z := sized_slice hsz ht hd hu
    rw [hB] at z
    have h1 : len ≤ ((List.range len).map D).length + ((List.range (m - len)).map fun j => D (len + j)).length := by simp
    exact Nat.le_trans (Nat.mul_le_mul_right _ h1) z
theorem opens_i64 {P : Program} {t : TypeId} (hu : P.underlying t = some (.int .i64)) : Opens P t (Kd.int .i64) (fun n => -9223372036854775808 ≤ n ∧ n ≤ 9223372036854775807) := (Opens.int hu).imp fun _ h => bounds_i64 h
open Go.RowKit Go.Extern.Stop Go.Stop Go.Extern
theorem e_valueOf45 (t : Addr) (w : World) : (ReflectliteValue.unpack (.iface 45 (.pointer (some t)))).run Tryd.prog w
    = .ok (.agg #[.pointer (some ⟨6, 45, none⟩), .pointer (some ⟨w.heap.size, 0, none⟩), .int .u64 150]) (w.alloc (.cells #[.pointer (some t)] 45)) := by kernel_rfl
theorem e_type45 (a : Addr) (w : World) : (ReflectliteValue.methodAny (ReflectliteValue.valueError "reflectlite.Value.Type" 0) (fun t _ _ _ => ReflectliteType.toType t) #[.agg #[.pointer (some ⟨6, 45, none⟩), .pointer (some a), .int .u64 150]]).run Tryd.prog w
    = .ok (.iface 146 (.agg #[.pointer (some ⟨6, 45, none⟩)])) w := by kernel_rfl
theorem e_kind45 (w : World) : ((ReflectliteType.abiMethod fun t => (fun a : Nat => Value.int IntKind.u8 (a : Int)) <$> Rtype.kind t) #[.pointer (some ⟨6, 45, none⟩)]).run Tryd.prog w = .ok (.int .u8 22) w := by kernel_rfl
theorem e_kind33 (w : World) : ((ReflectliteType.abiMethod fun t => (fun a : Nat => Value.int IntKind.u8 (a : Int)) <$> Rtype.kind t) #[.pointer (some ⟨6, 33, none⟩)]).run Tryd.prog w = .ok (.int .u8 2) w := by kernel_rfl
theorem e_rlm (z : Sem Value) (f : TypeId → Addr → Nat → Nat → Sem Value) (v : Value) :
    ReflectliteValue.method z f #[v] = (do match ← ReflectliteValue.parts v with | none => z | some (t, a, fl) => f t a fl (fl % 32)) := rfl
theorem e_parts45 (a : Addr) (w : World) : (ReflectliteValue.parts (.agg #[.pointer (some ⟨6, 45, none⟩), .pointer (some a), .int .u64 150])).run Tryd.prog w = .ok (some (45, a, 150)) w := by kernel_rfl
theorem e_isNil45 (a p : Addr) (W : World) (ha : W.cell? a = some (.pointer (some p))) :
    (ReflectliteValue.method (ReflectliteValue.valueError "reflectlite.Value.IsNil" 0) ReflectliteValue.isNil #[.agg #[.pointer (some ⟨6, 45, none⟩), .pointer (some a), .int .u64 150]]).run Tryd.prog W = .ok (.bool false) W := by
  rw [e_rlm]
  simp only [Sem.run_bind, e_parts45, Result.andThen]
  simp [ReflectliteValue.isNil, loadVar, isAgg, underlying, Tryd.underlying45, ha, Result.andThen]
theorem e_elem45 (w : World) : (ReflectliteType.method ReflectliteType.elem #[.agg #[.pointer (some ⟨6, 45, none⟩)]]).run Tryd.prog w = .ok (.iface 146 (.agg #[.pointer (some ⟨6, 33, none⟩)])) w := by kernel_rfl
theorem e_implements33 (w : World) : (ReflectliteType.relation "Implements" ReflectliteType.implements_ #[.agg #[.pointer (some ⟨6, 33, none⟩)], .iface 146 (.agg #[.pointer (some ⟨6, 31, none⟩)])]).run Tryd.prog w = .ok (.bool true) w := by kernel_rfl
theorem e_typeOf33 (v : Value) (w : World) : (ReflectliteType.typeOf #[.iface 33 v]).run Tryd.prog w = .ok (.iface 146 (.agg #[.pointer (some ⟨6, 33, none⟩)])) w := by kernel_rfl
theorem e_typeOf100 (v : Value) (w : World) : (ReflectliteType.typeOf #[.iface 100 v]).run Tryd.prog w = .ok (.iface 146 (.agg #[.pointer (some ⟨6, 100, none⟩)])) w := by kernel_rfl
theorem e_assignable33 (w : World) : (ReflectliteType.relation "AssignableTo" ReflectliteType.assignableTo #[.agg #[.pointer (some ⟨6, 33, none⟩)], .iface 146 (.agg #[.pointer (some ⟨6, 33, none⟩)])]).run Tryd.prog w = .ok (.bool true) w := by kernel_rfl
theorem e_assignable100 (w : World) : (ReflectliteType.relation "AssignableTo" ReflectliteType.assignableTo #[.agg #[.pointer (some ⟨6, 100, none⟩)], .iface 146 (.agg #[.pointer (some ⟨6, 33, none⟩)])]).run Tryd.prog w = .ok (.bool false) w := by kernel_rfl
theorem e_valueOf33 (k : Int) (w : World) : (ReflectliteValue.unpack (.iface 33 (.int .i64 k))).run Tryd.prog w
    = .ok (.agg #[.pointer (some ⟨6, 33, none⟩), .pointer (some ⟨w.heap.size, 0, none⟩), .int .u64 130]) (w.alloc (.cells #[.int .i64 k] 33)) := by kernel_rfl
theorem e_elemOf45 (w : World) : (Rtype.elem? 45).run Tryd.prog w = .ok (some 33) w := by kernel_rfl
theorem e_mk33 (p : Addr) (w : World) : (ReflectliteValue.mk 33 p ReflectliteValue.flagAddr).run Tryd.prog w = .ok (.agg #[.pointer (some ⟨6, 33, none⟩), .pointer (some p), .int .u64 386]) w := by kernel_rfl
theorem e_elemV45 (a p : Addr) (W : World) (ha : W.cell? a = some (.pointer (some p))) :
    (ReflectliteValue.method (ReflectliteValue.valueError "reflectlite.Value.Elem" 0) ReflectliteValue.elem #[.agg #[.pointer (some ⟨6, 45, none⟩), .pointer (some a), .int .u64 150]]).run Tryd.prog W
      = .ok (.agg #[.pointer (some ⟨6, 33, none⟩), .pointer (some p), .int .u64 386]) W := by
  rw [e_rlm]
  simp only [Sem.run_bind, e_parts45, Result.andThen]
  simp [ReflectliteValue.elem, loadVar, isAgg, underlying, Tryd.underlying45, ha, Result.andThen, e_elemOf45, e_mk33]
theorem e_rls (v x : Value) : ReflectliteValue.set #[v, x] = (do
    let (some (dst, a, fl), some (src, b, _)) := (← ReflectliteValue.parts v, ← ReflectliteValue.parts x)
      | unsupported (.noEntry "extern/(internal/reflectlite.Value).Set.zeroValue")
    if fl / ReflectliteValue.flagAddr % 2 == 0 then unsupported (.noEntry "extern/(internal/reflectlite.Value).Set.unaddressable")
    let val ← loadVar src b
    if ← Rtype.directlyAssignable dst src then storeVar dst a val
    else if ← Rtype.implements dst src then
      if (← Rtype.kind src) == 20 then
        match val with
        | .nilIface => unsupported (.noEntry "extern/reflectlite: a nil value of one interface type handed on as a value of another")
        | _ => storeVar dst a val
      else storeVar dst a (.iface src val)
    else panicString ("reflectlite.Set: value of type " ++ (← Rtype.spelt src) ++ " is not assignable to type " ++ (← Rtype.spelt dst))
    pure (.tuple #[])) := rfl
theorem e_parts33a (a : Addr) (w : World) : (ReflectliteValue.parts (.agg #[.pointer (some ⟨6, 33, none⟩), .pointer (some a), .int .u64 386])).run Tryd.prog w = .ok (some (33, a, 386)) w := by kernel_rfl
theorem e_parts33 (a : Addr) (w : World) : (ReflectliteValue.parts (.agg #[.pointer (some ⟨6, 33, none⟩), .pointer (some a), .int .u64 130])).run Tryd.prog w = .ok (some (33, a, 130)) w := by kernel_rfl
theorem e_direct33 (w : World) : (Rtype.directlyAssignable 33 33).run Tryd.prog w = .ok true w := by kernel_rfl
theorem e_set33 (ta b : Addr) (k : Int) (old : Value) (W : World) (hb : W.cell? b = some (.int .i64 k)) (ht : W.cell? ta = some old) (hf : W.frozen? ta = false) :
    (ReflectliteValue.set #[.agg #[.pointer (some ⟨6, 33, none⟩), .pointer (some ta), .int .u64 386], .agg #[.pointer (some ⟨6, 33, none⟩), .pointer (some b), .int .u64 130]]).run Tryd.prog W
      = .ok (.tuple #[]) (W.setCell ta (.int .i64 k)) := by
  rw [e_rls]
  simp only [Sem.run_bind, e_parts33a, e_parts33, Result.andThen]
  simp [ReflectliteValue.flagAddr, loadVar, isAgg, underlying, Tryd.underlying33, hb, Result.andThen, e_direct33, storeVar, Value.cells, storeCells, Addr.add]
  rw [run_store Tryd.prog W ta _ _ (by rfl)]
  simp [ht, hf]
open Go.RowKit Go.Extern.Stop Go.Stop Go.Extern Go.Proofs.YtgeldmhgbnamcaaDoorW.PrintWords
theorem e_noAsW (v : Value) (xT : TypeId) (w : World) : (Instr.typeAssert (.iface 100 v) xT 157 true).run Tryd.prog w = .ok (.tuple #[.nilIface, .bool false]) w := run_typeAssert_lacksB Tryd.underlying157 (by kernel_rfl) (by kernel_rfl) v xT w
theorem e_hasUnwrapW (v : Value) (xT : TypeId) (w : World) : (Instr.typeAssert (.iface 100 v) xT 151 true).run Tryd.prog w = .ok (.tuple #[.iface 100 v, .bool true]) w := run_typeAssert_hasB Tryd.underlying151 (by kernel_rfl) v xT w
theorem e_methodUnwrap (v : Value) (w : World) : (Go.method 346 100 v "Unwrap").run Tryd.prog w = .ok (158, v) w := by kernel_rfl
theorem e_methodAssignable (h : Value) (w : World) : (Go.method 346 146 (.agg #[h]) "AssignableTo").run Tryd.prog w = .ok (164, .agg #[h]) w := by kernel_rfl
theorem e_methodKind (h : Value) (w : World) : (Go.method 346 146 (.agg #[h]) "Kind").run Tryd.prog w = .ok (154, h) w := by kernel_rfl
theorem e_methodElem (h : Value) (w : World) : (Go.method 346 146 (.agg #[h]) "Elem").run Tryd.prog w = .ok (166, .agg #[h]) w := by kernel_rfl
theorem e_methodImplements (h : Value) (w : World) : (Go.method 346 146 (.agg #[h]) "Implements").run Tryd.prog w = .ok (167, .agg #[h]) w := by kernel_rfl
def ErrIs (w : World) : List (ByteArray × Int) → Value → Value → Prop
  | [], v, inner => v = inner
  | p :: ps, v, inner => ∃ b vi, v = .iface 100 (.pointer (some ⟨b, 0, none⟩)) ∧ w.heap[b]? = some (.cells #[.string p.1, .int .i64 p.2, vi] 103 (0, 0)) ∧ ErrIs w ps vi inner
theorem ErrIs.below {w w' : World} (hb : Below w.heap.size w w') : ∀ {ps : List (ByteArray × Int)} {v inner : Value}, ErrIs w ps v inner → ErrIs w' ps v inner
  | [], _, _, h => h
  | p :: ps, v, inner, ⟨b, vi, h1, h2, h3⟩ => ⟨b, vi, h1, (hb.block b (Array.getElem?_eq_some_iff.1 h2).1).trans h2, ErrIs.below hb h3⟩
set_option maxHeartbeats 1000000 in
set_option maxRecDepth 100000 in
theorem unwrap_calls (b : Nat) (s : ByteArray) (n : Int) (vi : Value) (W : World) (h : W.heap[b]? = some (.cells #[.string s, .int .i64 n, vi] 103 (0, 0))) : Calls Tryd.prog 158 #[.pointer (some ⟨b, 0, none⟩)] W fun e w' => e = .returned vi ∧ w' = W := by
  have h2 : W.cell? ⟨b, 2, none⟩ = some vi := by simp [World.cell?, h]
  go_enter Tryd.func158, Tryd.ntmps158
  go_wp2
  go_ret
  exact ⟨rfl, rfl⟩
set_option maxHeartbeats 4000000 in
set_option maxRecDepth 100000 in
theorem as_calls (ps : List (ByteArray × Int)) (v : Value) (t a : Addr) (k : Int) (old : Value) (W : World) (hE : ErrIs W ps v (.iface 33 (.int .i64 k))) (ht : W.cell? t = some old) (hf : W.frozen? t = false) (ha : W.cell? a = some (.pointer (some t))) :
    Calls Tryd.prog 63 #[v, .iface 45 (.pointer (some t)), .agg #[.pointer (some ⟨6, 45, none⟩), .pointer (some a), .int .u64 150], .iface 146 (.agg #[.pointer (some ⟨6, 33, none⟩)])] W fun e w' => e = .returned (.bool true) ∧ ∃ w2, Below W.heap.size W w2 ∧ w' = w2.setCell t (.int .i64 k) := by
  have h58 := @run_callFunc_extern Tryd.prog 58 _ ReflectliteType.typeOf Tryd.func58 (by kernel_rfl) (by kernel_rfl) (by kernel_rfl) (by kernel_rfl)
  have h164 := @run_callFunc_extern Tryd.prog 164 _ (ReflectliteType.relation "AssignableTo" ReflectliteType.assignableTo) Tryd.func164 (by kernel_rfl) (by kernel_rfl) (by kernel_rfl) (by kernel_rfl)
  have h85 := @run_callFunc_extern Tryd.prog 85 _ (ReflectliteValue.method (ReflectliteValue.valueError "reflectlite.Value.Elem" 0) ReflectliteValue.elem) Tryd.func85 (by kernel_rfl) (by kernel_rfl) (by kernel_rfl) (by kernel_rfl)
  have h60 := @run_callFunc_extern Tryd.prog 60 _ (fun args => ReflectliteValue.unpack (args.getD 0 (.tuple #[]))) Tryd.func60 (by kernel_rfl) (by kernel_rfl) (by kernel_rfl) (by kernel_rfl)
  have h86 := @run_callFunc_extern Tryd.prog 86 _ ReflectliteValue.set Tryd.func86 (by kernel_rfl) (by kernel_rfl) (by kernel_rfl) (by kernel_rfl)
  have tO := e_typeOf33
  have tW := e_typeOf100
  have mA := e_methodAssignable
  have a33 := e_assignable33
  have a100 := e_assignable100
  have v33 := e_valueOf33
  have nA := e_noAsW
  have hU := e_hasUnwrapW
  have mU := e_methodUnwrap
  have HE := Aside0.mk hE
  have tl := World.block_lt_of_cell? W _ ht
  have al := World.block_lt_of_cell? W _ ha
  clear hE
  go_enter Tryd.func63, Tryd.ntmps63
  go_wp2
  have HB0 := Aside0.mk (Below.refl (W.alloc (.cells #[.pointer (some ⟨6, 45, none⟩), .pointer (some a), .int .u64 150] 111)).heap.size (W.alloc (.cells #[.pointer (some ⟨6, 45, none⟩), .pointer (some a), .int .u64 150] 111)))
  have HA : Aside0 (Below W.heap.size W (W.alloc (.cells #[.pointer (some ⟨6, 45, none⟩), .pointer (some a), .int .u64 150] 111))) := ⟨(Below.refl _ _).alloc (Nat.le_refl _) _⟩
  have HC : Aside0 (W.heap.size < (W.alloc (.cells #[.pointer (some ⟨6, 45, none⟩), .pointer (some a), .int .u64 150] 111)).heap.size ∧ (W.alloc (.cells #[.pointer (some ⟨6, 45, none⟩), .pointer (some a), .int .u64 150] 111)).heap[W.heap.size]? = some (.cells #[.pointer (some ⟨6, 45, none⟩), .pointer (some a), .int .u64 150] 111 (0, 0))) := ⟨by simp, blk_new W _⟩
  generalize W.alloc (.cells #[.pointer (some ⟨6, 45, none⟩), .pointer (some a), .int .u64 150] 111) = W1 at *
  go_loopg [0] (ps.length + 1) (fun kq v0 wr => ∃ qs : List (ByteArray × Int), kq = qs.length + 1 ∧ Aside0 (ErrIs wr qs v0 (.iface 33 (.int .i64 k)) ∧ Below W1.heap.size W1 wr))
  case atStart => exact ⟨ps, rfl, ⟨HE.out.below HA.out, HB0.out⟩⟩
  case round =>
    obtain ⟨qs, hq, HS⟩ := hrel
    have hbw := below_weaken HA.out HA.out.size HS.out.2
    have hbk := blk_below HC.out.2 HS.out.2
    have hx0 := blk_cell hbk 0
    have hx1 := blk_cell hbk 1
    have hx2 := blk_cell hbk 2
    simp only [List.getElem?_toArray, List.getElem?_cons_zero, List.getElem?_cons_succ] at hx0 hx1 hx2
    have HBW := Aside0.mk hbw
    clear hbk hbw
    cases qs with
    | nil =>
      obtain rfl : _ = Value.iface 33 (.int .i64 k) := HS.out.1
      have ta := (HBW.out.cell (p := a) al).trans ha
      have tt := (HBW.out.cell (p := t) tl).trans ht
      have tf : wr.frozen? t = false := by
        have := HBW.out.block t.block tl
        simpa [World.frozen?, this] using hf
      have tl2 : t.block < wr.heap.size := Nat.lt_of_lt_of_le tl HBW.out.size
      have ev := e_elemV45 a t wr ta
      have st := e_set33 t ⟨wr.heap.size, 0, none⟩ k old (wr.alloc (.cells #[.int .i64 k] 33)) (by simp [go_sem]) (by rw [World.cell?_alloc_lt _ _ t tl2]; exact tt) (by rw [World.frozen?_alloc_old _ _ t (Nat.ne_of_lt tl2)]; exact tf)
      go_wp2
      go_ret
      exact ⟨rfl, _, below_alloc HBW.out _, rfl⟩
    | cons p qs =>
      obtain ⟨b, vi, rfl, hb, hE⟩ := HS.out.1
      have HN := Aside0.mk hE
      have HU := Aside0.mk (unwrap_calls b p.1 p.2 vi wr hb)
      have hne : ∃ u x, vi = .iface u x := by
        cases qs with
        | nil => exact ⟨_, _, hE⟩
        | cons q qs => obtain ⟨b', vi', h, _⟩ := hE; exact ⟨_, _, h⟩
      obtain ⟨u, x, rfl⟩ := hne
      clear hE hb
      go_wp2_with (first | (go_at_call 158; refine HU.out.mono ?_; rintro e w' ⟨rfl, rfl⟩))
      go_roundg (qs.length + 1)
      case measure => rw [hq]; simp
      case rel => exact ⟨qs, rfl, ⟨HN.out, HS.out.2⟩⟩
theorem ErrIs.iface {w : World} {ps : List (ByteArray × Int)} {v : Value} {T : TypeId} {z : Value} (h : ErrIs w ps v (.iface T z)) : ∃ u x, v = .iface u x := by
  cases ps with
  | nil => exact ⟨_, _, h⟩
  | cons q qs => obtain ⟨b', vi', h, _⟩ := h; exact ⟨_, _, h⟩
def TypeVar (W : World) : Prop := W.cell? ⟨0, 0, none⟩ = some (.iface 146 (.agg #[.pointer (some ⟨6, 31, none⟩)]))
theorem TypeVar.below {w w' : World} (h : TypeVar w) (hb : Below w.heap.size w w') : TypeVar w' := (hb.cell (World.block_lt_of_cell? _ _ h)).trans h
set_option maxHeartbeats 4000000 in
set_option maxRecDepth 100000 in
theorem As_calls (ps : List (ByteArray × Int)) (v : Value) (t : Addr) (k : Int) (old : Value) (W : World) (hE : ErrIs W ps v (.iface 33 (.int .i64 k))) (hg : TypeVar W) (ht : W.cell? t = some old) (hf : W.frozen? t = false) :
    Calls Tryd.prog 26 #[v, .iface 45 (.pointer (some t))] W fun e w' => e = .returned (.bool true) ∧ ∃ w2, Below W.heap.size W w2 ∧ w' = w2.setCell t (.int .i64 k) := by
  have h60 := @run_callFunc_extern Tryd.prog 60 _ (fun args => ReflectliteValue.unpack (args.getD 0 (.tuple #[]))) Tryd.func60 (by kernel_rfl) (by kernel_rfl) (by kernel_rfl) (by kernel_rfl)
  have h61 := @run_callFunc_extern Tryd.prog 61 _ (ReflectliteValue.methodAny (ReflectliteValue.valueError "reflectlite.Value.Type" 0) (fun t _ _ _ => ReflectliteType.toType t)) Tryd.func61 (by kernel_rfl) (by kernel_rfl) (by kernel_rfl) (by kernel_rfl)
  have h62 := @run_callFunc_extern Tryd.prog 62 _ (ReflectliteValue.method (ReflectliteValue.valueError "reflectlite.Value.IsNil" 0) ReflectliteValue.isNil) Tryd.func62 (by kernel_rfl) (by kernel_rfl) (by kernel_rfl) (by kernel_rfl)
  have h154 := @run_callFunc_extern Tryd.prog 154 _ (ReflectliteType.abiMethod fun t => do pure (.int .u8 (← Rtype.kind t))) Tryd.func154 (by kernel_rfl) (by kernel_rfl) (by kernel_rfl) (by kernel_rfl)
  have h166 := @run_callFunc_extern Tryd.prog 166 _ (ReflectliteType.method ReflectliteType.elem) Tryd.func166 (by kernel_rfl) (by kernel_rfl) (by kernel_rfl) (by kernel_rfl)
  have h167 := @run_callFunc_extern Tryd.prog 167 _ (ReflectliteType.relation "Implements" ReflectliteType.implements_) Tryd.func167 (by kernel_rfl) (by kernel_rfl) (by kernel_rfl) (by kernel_rfl)
  have f6 := e_valueOf45
  have f7 := e_type45
  have mK := e_methodKind
  have mE := e_methodElem
  have mI := e_methodImplements
  have k45 := e_kind45
  have k33 := e_kind33
  have e45 := e_elem45
  have i33 := e_implements33
  obtain ⟨u, x, rfl⟩ := hE.iface
  have tl := World.block_lt_of_cell? W _ ht
  have gl := World.block_lt_of_cell? W _ hg
  have hg2 : ((W.alloc (.cells #[.pointer (some t)] 45)).alloc (.cells #[.pointer (some ⟨6, 45, none⟩), .pointer (some ⟨W.heap.size, 0, none⟩), .int .u64 150] 111)).cell? ⟨0, 0, none⟩ = some (.iface 146 (.agg #[.pointer (some ⟨6, 31, none⟩)])) := by
    rw [World.cell?_alloc_lt _ _ ⟨0, 0, none⟩ (by simp), World.cell?_alloc_lt _ _ ⟨0, 0, none⟩ gl]; exact hg
  have n62 := e_isNil45 ⟨W.heap.size, 0, none⟩ t ((W.alloc (.cells #[.pointer (some t)] 45)).alloc (.cells #[.pointer (some ⟨6, 45, none⟩), .pointer (some ⟨W.heap.size, 0, none⟩), .int .u64 150] 111)) (by simp)
  have HB : Aside0 (Below W.heap.size W ((W.alloc (.cells #[.pointer (some t)] 45)).alloc (.cells #[.pointer (some ⟨6, 45, none⟩), .pointer (some ⟨W.heap.size, 0, none⟩), .int .u64 150] 111))) := ⟨below_alloc (below_alloc (Below.refl _ _) _) _⟩
  have HT : Aside0 (((W.alloc (.cells #[.pointer (some t)] 45)).alloc (.cells #[.pointer (some ⟨6, 45, none⟩), .pointer (some ⟨W.heap.size, 0, none⟩), .int .u64 150] 111)).frozen? t = false) := ⟨by rw [World.frozen?_alloc_old _ _ t (by simp; omega), World.frozen?_alloc_old _ _ t (Nat.ne_of_lt tl)]; exact hf⟩
  have HA : Aside0 (((W.alloc (.cells #[.pointer (some t)] 45)).alloc (.cells #[.pointer (some ⟨6, 45, none⟩), .pointer (some ⟨W.heap.size, 0, none⟩), .int .u64 150] 111)).cell? ⟨W.heap.size, 0, none⟩ = some (.pointer (some t))) := ⟨by simp⟩
  have HAS := Aside0.mk (as_calls ps (.iface u x) t ⟨W.heap.size, 0, none⟩ k old _ (hE.below HB.out) ((HB.out.cell (p := t) tl).trans ht) HT.out HA.out)
  clear hE ht hf hg tl gl
  go_enter Tryd.func26, Tryd.ntmps26
  go_wp2_with (first | (go_at_call 63; refine HAS.out.mono ?_; rintro e w' ⟨rfl, w2, hb, rfl⟩; have HB2 := Aside0.mk (below_step HB.out hb); clear hb))
  go_ret
  exact ⟨rfl, _, HB2.out, rfl⟩
theorem cell_put {w : World} {b o : Nat} {u v : Value} (h : w.cell? ⟨b, o, none⟩ = some u) : (w.setCell ⟨b, o, none⟩ v).cell? ⟨b, o, none⟩ = some v := by simp [go_sem, h]
set_option maxHeartbeats 1000000 in
set_option maxRecDepth 100000 in
theorem Kind_calls (ps : List (ByteArray × Int)) (v : Value) (k : Int) (W : World) (hE : ErrIs W ps v (.iface 33 (.int .i64 k))) (hg : TypeVar W) :
    Calls Tryd.prog 20 #[v] W fun e w' => e = .returned (.int .i64 k) ∧ Below W.heap.size W w' := by
  obtain ⟨u, x, rfl⟩ := hE.iface
  have HB := Aside0.mk (below_alloc (Below.refl W.heap.size W) (.cells #[.int .i64 0] 33))
  have HAS := Aside0.mk (As_calls ps (.iface u x) ⟨W.heap.size, 0, none⟩ k (.int .i64 0) (W.alloc (.cells #[.int .i64 0] 33)) (hE.below HB.out) (hg.below HB.out) (by simp [go_sem]) (by simp))
  clear hE hg
  have hlt : W.heap.size < (W.alloc (.cells #[.int .i64 0] 33)).heap.size := by simp
  have hce : (W.alloc (.cells #[.int .i64 0] 33)).cell? ⟨W.heap.size, 0, none⟩ = some (.int .i64 0) := by simp [go_sem]
  go_enter Tryd.func20, Tryd.ntmps20
  go_wp2_with (first | (go_at_call 26; refine HAS.out.mono ?_; rintro e w' ⟨rfl, w2, hb, rfl⟩; have HB2 := Aside0.mk (below_step HB.out hb); have hc2 := (hb.cell (p := ⟨W.heap.size, 0, none⟩) hlt).trans hce; have hc3 : (w2.setCell ⟨W.heap.size, 0, none⟩ (.int .i64 k)).cell? ⟨W.heap.size, 0, none⟩ = some (.int .i64 k) := cell_put hc2; clear hb))
  go_ret
  exact ⟨rfl, below_set HB2.out (Nat.le_refl _)⟩
set_option maxHeartbeats 1000000 in
theorem Kind_nil (W : World) : Calls Tryd.prog 20 #[.nilIface] W fun e w' => e = .returned (.int .i64 0) ∧ w' = W := by
  go_enter Tryd.func20, Tryd.ntmps20
  go_wp2
  go_ret
  exact ⟨rfl, rfl⟩
set_option maxHeartbeats 1000000 in
theorem At_calls (ps : List (ByteArray × Int)) (v : Value) (T : TypeId) (z : Value) (s : ByteArray) (n : Int) (W : World) (hE : ErrIs W ps v (.iface T z)) : Calls Tryd.prog 27 #[v, .string s, .int .i64 n] W fun e w' => ∃ v', e = .returned v' ∧ ErrIs w' ((s, n) :: ps) v' (.iface T z) ∧ Below W.heap.size W w' := by
  obtain ⟨u, x, rfl⟩ := hE.iface
  have HE := Aside0.mk hE
  clear hE
  go_enter Tryd.func27, Tryd.ntmps27
  go_wp2
  go_ret
  exact ⟨_, rfl, ⟨_, _, rfl, blk_new W _, HE.out.below (below_alloc (Below.refl _ _) _)⟩, below_alloc (Below.refl _ _) _⟩
instance : Inhabited S75 := ⟨z75⟩
def dataL : List (String × DataW Unit) := [("math/bits.deBruijn32tab", Rows.laid_math_bits_deBruijn32tab), ("math/bits.deBruijn64tab", Rows.laid_math_bits_deBruijn64tab), ("internal/strconv.uint64pow10", Rows.laid_internal_strconv_uint64pow10)]
def listH : List (String × DataW Unit) := [("math/bits.deBruijn32tab", Rows.laid_math_bits_deBruijn32tab), ("math/bits.deBruijn64tab", Rows.laid_math_bits_deBruijn64tab), ("internal/strconv.uint64pow10", Rows.laid_internal_strconv_uint64pow10), ("errors.errorType", Rows.laid_errors_errorType)]
theorem et_var : Tryd.prog.globalNamed "errors.errorType" = some 0 := by kernel_rfl
theorem rt_type : (Tryd.prog.cutTypes.find? (·.1 == "internal/reflectlite.rtype")).map (·.2) = some 146 := by kernel_rfl
theorem types_size : Tryd.prog.types.size = 246 := by kernel_rfl
theorem error_row : ((List.range 246).filter fun t => Tryd.prog.rowNamed t [101, 114, 114, 111, 114]) = [31] := by kernel_rfl
theorem typeVar_of_laid {W : World} (h : laidMetH Tryd.prog listH W) : TypeVar W := by
  have h' : laidMet Tryd.prog dataL W ∧ handlesMet Tryd.prog [("errors.errorType", Rows.laid_errors_errorType)] W := h
  obtain ⟨name, u, ty, e1, e2, e3, e4, e5⟩ := h'.2 _ (List.mem_singleton.2 rfl)
  have en : name = [101, 114, 114, 111, 114] := (Option.some.inj e1).symm
  subst en
  obtain rfl := Option.some.inj (rt_type.symm.trans e2)
  have hm : ty ∈ (List.range 246).filter fun t => Tryd.prog.rowNamed t [101, 114, 114, 111, 114] := List.mem_filter.2 ⟨List.mem_range.2 (by rw [← types_size]; exact e3), e4⟩
  rw [error_row] at hm
  obtain rfl := List.mem_singleton.1 hm
  have hh : typeHandle Tryd.prog 31 = .pointer (some ⟨6, 31, none⟩) := by kernel_rfl
  rw [hh] at e5
  simpa [TypeVar] using World.var?_cell et_var e5 0
noncomputable def w0h (os : Os) : World :=
  let w0 := World.holding Tryd.prog os ⟨#[], #[], []⟩
  { w0 with heap := w0.heap.modify 0 fun
      | .cells _ t frozen => .cells #[.iface 146 (.agg #[.pointer (some ⟨6, 31, none⟩)])] t frozen
      | o => o }
noncomputable def laidW (os : Os) : World := (w0h os).layVars Tryd.prog dataL
theorem laidW_os (os : Os) : (laidW os).os = os := (World.layVars_os _ _ _).trans rfl
theorem laidW_met (os : Os) (args : Array Value) : laidMet Tryd.prog dataL ((laidW os).forCall (fun _ _ => 0) ⟨#[], args, []⟩).memory := by
  have e1 : (dataL.filter fun x => (dataL.map (·.1)).contains x.1) = dataL := List.filter_eq_self.2 fun x hx => List.contains_iff_mem.2 (List.mem_map.2 ⟨x, hx, rfl⟩)
  have e2 : (dataL.filter fun x => !(dataL.map (·.1)).contains x.1) = [] := List.filter_eq_nil_iff.2 fun x hx => by rw [List.contains_iff_mem.2 (List.mem_map.2 ⟨x, hx, rfl⟩)]; simp
  have h : laidMet Tryd.prog dataL (laidW os) := laidMet_layVars (w0 := w0h os) (dataL.map (·.1)) [] (by rw [e1]; rfl) (by rw [e1]; kernel_rfl) (by rw [e1]; kernel_rfl) (by rw [e2]; exact LaidIn.none)
  exact h.of_heap (by simp [World.memory, World.forCall, Input.heap])
theorem laidW_metH (os : Os) (args : Array Value) : laidMetH Tryd.prog listH ((laidW os).forCall (fun _ _ => 0) ⟨#[], args, []⟩).memory :=
  laidMetH_of_parts (laidW_met os args) (by kernel_rfl)
end Go.Proofs.YtgeldmhgbnamcaaDoor.P
end
section
namespace Go.Proofs.YtgeldmhgbnamcaaDoor.Q
open Go.RowKit Go.Proofs.YtgeldmhgbnamcaaDoorW.PrintWords Go.Proofs.YtgeldmhgbnamcaaDoorW.PrintLast Go.Proofs.YtgeldmhgbnamcaaDoorW.PrintMore
attribute [local go_sem] max2_int min2_int max_two min_two max_three min_three max_four min_four
set_option linter.unusedVariables false
set_option linter.unusedSimpArgs false
def errW : Option Int → Value
  | none => .nilIface
  | some c => .iface 33 (.int .i64 c)
theorem errW_none : errW none = .nilIface := rfl
theorem errW_some (c : Int) : errW (some c) = .iface 33 (.int .i64 c) := rfl
theorem info3 : (Tryd.prog.info? 3).map (fun i => (i.zero, i.size, i.bytes)) = some (some (.int .i64 0), 1, 8) := by kernel_rfl
theorem info22 : (Tryd.prog.info? 22).map (fun i => (i.zero, i.size, i.bytes)) = some (some (.int .u64 0), 1, 8) := by kernel_rfl
theorem info42 : (Tryd.prog.info? 42).map (fun i => (i.zero, i.size, i.bytes)) = some (some (.agg #[(.string ⟨#[]⟩), (.int .i64 0)]), 2, 24) := by kernel_rfl
theorem info73 : (Tryd.prog.info? 73).map (fun i => (i.zero, i.size, i.bytes)) = some (some (.slice none 0 0), 1, 24) := by kernel_rfl
theorem info75 : (Tryd.prog.info? 75).map (fun i => (i.zero, i.size, i.bytes)) = some (some (.agg #[(.int .i64 0), (.int .i64 0), (.int .u64 0)]), 3, 24) := by kernel_rfl
theorem info127 : (Tryd.prog.info? 127).map (fun i => (i.zero, i.size, i.bytes)) = some (some (.agg #[(.int .i64 0), (.int .i64 0), (.int .u64 0)]), 3, 24) := by kernel_rfl
structure S42 where
  f0 : ByteArray
  f1 : Int
def z42 : S42 := ⟨(⟨#[]⟩ : ByteArray), (0 : Int)⟩
def k42 : Kd S42 := Kd.iso (Kd.pair Kd.string (Kd.int .i64)) (fun x : S42 => (x.f0, x.f1))
theorem k42_open {w : World} {x : S42} {cs : List Value} (h : k42.K w x cs) : cs = [.string x.f0, .int .i64 x.f1] := by
  obtain ⟨_, _, rfl, rfl, rfl⟩ := h
  exact rfl
theorem k42_mkM (w : World) (base : Nat) (ok : Nat → Prop) (x : S42)  : k42.M w base ok x [.string x.f0, .int .i64 x.f1] := ⟨[.string x.f0], [.int .i64 x.f1], rfl, rfl, rfl⟩
def rd_T42 (xs : List S42) (i : Int) : S42 := xs.getD i.toNat z42
theorem at_T42 {w : World} {A : Option Addr} {n : Nat} {xs : List S42} (h : Kd.C k42 w A n xs) (i : Int) (h0 : 0 ≤ i) (h1 : i < n) : ∃ ad , A = some ad ∧ w.cell? (ad.add (i.toNat * 2)) = some (.string (rd_T42 xs i).f0) ∧ w.cell? ⟨(ad.add (i.toNat * 2)).block, (ad.add (i.toNat * 2)).off + 1, none⟩ = some (.int .i64 (rd_T42 xs i).f1) := by
  obtain ⟨ad, c, e, _, hK, hc0⟩ := Kd.C_get h z42 i h0 h1
  have hc : ∀ j u, c[j]? = some u → w.cell? (ad.add (i.toNat * 2 + j)) = some u := hc0
  obtain rfl := k42_open hK
  exact ⟨ad, e, hc 0 _ rfl, by rw [← add_field _ _ 1 (by omega)]; exact hc 1 _ rfl⟩
structure S75 where
  f0 : Int
  f1 : Int
  f2 : Int
def z75 : S75 := ⟨(0 : Int), (0 : Int), (0 : Int)⟩
def k75 : Kd S75 := Kd.iso (Kd.pair (Kd.int .i64) (Kd.pair (Kd.int .i64) (Kd.int .u64))) (fun x : S75 => (x.f0, x.f1, x.f2))
theorem k75_open {w : World} {x : S75} {cs : List Value} (h : k75.K w x cs) : cs = [.int .i64 x.f0, .int .i64 x.f1, .int .u64 x.f2] := by
  obtain ⟨_, _, rfl, rfl, ⟨_, _, rfl, rfl, rfl⟩⟩ := h
  exact rfl
theorem k75_openM {w : World} {base : Nat} {ok : Nat → Prop} {x : S75} {cs : List Value} (h : k75.M w base ok x cs) : cs = [.int .i64 x.f0, .int .i64 x.f1, .int .u64 x.f2] := by
  obtain ⟨_, _, rfl, rfl, ⟨_, _, rfl, rfl, rfl⟩⟩ := h
  exact rfl
theorem k75_mk (w : World) (x : S75)  : k75.K w x [.int .i64 x.f0, .int .i64 x.f1, .int .u64 x.f2] := ⟨[.int .i64 x.f0], [.int .i64 x.f1, .int .u64 x.f2], rfl, rfl, ⟨[.int .i64 x.f1], [.int .u64 x.f2], rfl, rfl, rfl⟩⟩
theorem k75_mkM (w : World) (base : Nat) (ok : Nat → Prop) (x : S75)  : k75.M w base ok x [.int .i64 x.f0, .int .i64 x.f1, .int .u64 x.f2] := ⟨[.int .i64 x.f0], [.int .i64 x.f1, .int .u64 x.f2], rfl, rfl, ⟨[.int .i64 x.f1], [.int .u64 x.f2], rfl, rfl, rfl⟩⟩
def rd_T75 (xs : List S75) (i : Int) : S75 := xs.getD i.toNat z75
theorem at_T75 {w : World} {A : Option Addr} {n : Nat} {xs : List S75} (h : Kd.C k75 w A n xs) (i : Int) (h0 : 0 ≤ i) (h1 : i < n) : ∃ ad , A = some ad ∧ w.cell? (ad.add (i.toNat * 3)) = some (.int .i64 (rd_T75 xs i).f0) ∧ w.cell? ⟨(ad.add (i.toNat * 3)).block, (ad.add (i.toNat * 3)).off + 1, none⟩ = some (.int .i64 (rd_T75 xs i).f1) ∧ w.cell? ⟨(ad.add (i.toNat * 3)).block, (ad.add (i.toNat * 3)).off + 2, none⟩ = some (.int .u64 (rd_T75 xs i).f2) := by
  obtain ⟨ad, c, e, _, hK, hc0⟩ := Kd.C_get h z75 i h0 h1
  have hc : ∀ j u, c[j]? = some u → w.cell? (ad.add (i.toNat * 3 + j)) = some u := hc0
  obtain rfl := k75_open hK
  exact ⟨ad, e, hc 0 _ rfl, by rw [← add_field _ _ 1 (by omega)]; exact hc 1 _ rfl, by rw [← add_field _ _ 2 (by omega)]; exact hc 2 _ rfl⟩
structure S127 where
  f0 : Int
  f1 : Int
  f2 : Int
def z127 : S127 := ⟨(0 : Int), (0 : Int), (0 : Int)⟩
def k127 : Kd S127 := Kd.iso (Kd.pair (Kd.int .i64) (Kd.pair (Kd.int .i64) (Kd.int .u64))) (fun x : S127 => (x.f0, x.f1, x.f2))
theorem k127_open {w : World} {x : S127} {cs : List Value} (h : k127.K w x cs) : cs = [.int .i64 x.f0, .int .i64 x.f1, .int .u64 x.f2] := by
  obtain ⟨_, _, rfl, rfl, ⟨_, _, rfl, rfl, rfl⟩⟩ := h
  exact rfl
theorem k127_openM {w : World} {base : Nat} {ok : Nat → Prop} {x : S127} {cs : List Value} (h : k127.M w base ok x cs) : cs = [.int .i64 x.f0, .int .i64 x.f1, .int .u64 x.f2] := by
  obtain ⟨_, _, rfl, rfl, ⟨_, _, rfl, rfl, rfl⟩⟩ := h
  exact rfl
theorem k127_mk (w : World) (x : S127)  : k127.K w x [.int .i64 x.f0, .int .i64 x.f1, .int .u64 x.f2] := ⟨[.int .i64 x.f0], [.int .i64 x.f1, .int .u64 x.f2], rfl, rfl, ⟨[.int .i64 x.f1], [.int .u64 x.f2], rfl, rfl, rfl⟩⟩
theorem k127_mkM (w : World) (base : Nat) (ok : Nat → Prop) (x : S127)  : k127.M w base ok x [.int .i64 x.f0, .int .i64 x.f1, .int .u64 x.f2] := ⟨[.int .i64 x.f0], [.int .i64 x.f1, .int .u64 x.f2], rfl, rfl, ⟨[.int .i64 x.f1], [.int .u64 x.f2], rfl, rfl, rfl⟩⟩
def rd_T127 (xs : List S127) (i : Int) : S127 := xs.getD i.toNat z127
theorem at_T127 {w : World} {A : Option Addr} {n : Nat} {xs : List S127} (h : Kd.C k127 w A n xs) (i : Int) (h0 : 0 ≤ i) (h1 : i < n) : ∃ ad , A = some ad ∧ w.cell? (ad.add (i.toNat * 3)) = some (.int .i64 (rd_T127 xs i).f0) ∧ w.cell? ⟨(ad.add (i.toNat * 3)).block, (ad.add (i.toNat * 3)).off + 1, none⟩ = some (.int .i64 (rd_T127 xs i).f1) ∧ w.cell? ⟨(ad.add (i.toNat * 3)).block, (ad.add (i.toNat * 3)).off + 2, none⟩ = some (.int .u64 (rd_T127 xs i).f2) := by
  obtain ⟨ad, c, e, _, hK, hc0⟩ := Kd.C_get h z127 i h0 h1
  have hc : ∀ j u, c[j]? = some u → w.cell? (ad.add (i.toNat * 3 + j)) = some u := hc0
  obtain rfl := k127_open hK
  exact ⟨ad, e, hc 0 _ rfl, by rw [← add_field _ _ 1 (by omega)]; exact hc 1 _ rfl, by rw [← add_field _ _ 2 (by omega)]; exact hc 2 _ rfl⟩
def marchlandlaw02_few.l0 : Nat → List (S42) → List (S42) → Int → Option ((List (S42)))
  | 0, _, _, _ => none
  | k + 1, x0, x3, x4 => if x4 < (x0.length : Int) then (if x4 < 12 then (if 0 ≤ x4 then (if 0 ≤ (mn (((rd_T42 x0 x4).f0).size : Int) 20) then (if (mn (((rd_T42 x0 x4).f0).size : Int) 20) ≤ (((rd_T42 x0 x4).f0).size : Int) then (if x3.length < 5864062014805 then (marchlandlaw02_few.l0 k x0 (x3 ++ [(⟨((rd_T42 x0 x4).f0).extract 0 ((mn (((rd_T42 x0 x4).f0).size : Int) 20) : Int).toNat, (rd_T42 x0 x4).f1⟩ : S42)]) (wrap64 (x4 + 1))) else (none)) else (none)) else (none)) else (none)) else (some x3)) else (some x3)
def marchlandlaw02_few.f (k : Nat) (l0 : List (S42)) : Option ((List (S42))) := marchlandlaw02_few.l0 k l0 ([] : List (S42)) 0
theorem marchlandlaw02_few.mono_l : ∀ k, (∀ y0 y1 y2, LeO (marchlandlaw02_few.l0 k y0 y1 y2) (marchlandlaw02_few.l0 (k + 1) y0 y1 y2))
  | 0 => fun _ _ _ r h => by simp [marchlandlaw02_few.l0] at h
  | k + 1 => by
    have ih0 := marchlandlaw02_few.mono_l k
    · intro y0 y1 y2
      unfold marchlandlaw02_few.l0
      repeat' first
      | (with_reducible exact ih0 _ _ _)
      | (with_reducible exact LeO.refl _)
      | (with_reducible exact LeO.none _)
      | (with_reducible refine LeO.ite ?_ ?_)
      | (with_reducible refine LeO.bind ?_ (fun _ => ?_))
      | exact ih0 _ _ _
      | exact LeO.none _
      | refine LeO.ite ?_ ?_
      | refine LeO.bind ?_ (fun _ => ?_)
theorem marchlandlaw02_few.mono : ∀ a0 k, LeO (marchlandlaw02_few.f k a0) (marchlandlaw02_few.f (k + 1) a0) := by
  intro a0 k
  have ih0 := marchlandlaw02_few.mono_l k
  unfold marchlandlaw02_few.f
  repeat' first
      | (with_reducible exact ih0 _ _ _)
      | (with_reducible exact LeO.refl _)
      | (with_reducible exact LeO.none _)
      | (with_reducible refine LeO.ite ?_ ?_)
      | (with_reducible refine LeO.bind ?_ (fun _ => ?_))
      | exact ih0 _ _ _
      | exact LeO.none _
      | refine LeO.ite ?_ ?_
      | refine LeO.bind ?_ (fun _ => ?_)
def marchlandlaw02_few.T5 : Bool × List (List Nat × List Nat) := (true, [([], []), ([], []), ([], []), ([1, 2], [1, 2]), ([3], [3]), ([4], [4]), ([], []), ([], []), ([6, 7], [6, 7]), ([8], [8]), ([9], [9]), ([10], [10]), ([11], [11]), ([5, 12], [5, 12]), ([], []), ([], []), ([14, 15], [14, 15]), ([16], [16]), ([17], [17]), ([13, 18], [13, 18]), ([19], [19]), ([0, 20], [0, 20]), ([21, 21, 0, 1, 2, 3, 4, 5, 6, 7, 8, 9, 10, 11, 12, 13, 14, 15, 16, 17, 18, 19, 20, 21], [0, 21])])
def marchlandlaw02_few.B5 : List Nat := [0, 0, 0, 6, 14, 30, 0, 0, 192, 448, 960, 1984, 4032, 8190, 0, 0, 49152, 114688, 245760, 524286, 1048574, 2097151, 4194303]
theorem marchlandlaw02_few.tab5 : rtab .any (opsOf Tryd.f17 5) = marchlandlaw02_few.T5 := by kernel_rfl
theorem marchlandlaw02_few.bits5 : waitsOk marchlandlaw02_few.T5.2 marchlandlaw02_few.B5 = true := by kernel_rfl
set_option maxHeartbeats 8000000 in
set_option maxRecDepth 100000 in
theorem marchlandlaw02_few.calls (k : Nat) (A0 : Option Addr) (c0 : Nat) (l0 : List (S42)) (r : List (S42)) (w : World) (hr0 : Kd.C k42 w A0 l0.length l0) (hc0 : l0.length ≤ c0) (h : marchlandlaw02_few.f k l0 = some r) :
    Calls Tryd.prog 17 #[.slice A0 l0.length c0] w fun e w' => ∃ v0_ : Value, e = .returned (v0_) ∧ Kd.R k42 42 w' w.heap.size (fun _ => True) v0_ r ∧ Below w.heap.size w w' := by
  have hu42 := Tryd.underlying42
  have HR0 := Aside0.mk hr0
  have HC0 := Aside0.mk hc0
  clear hr0 hc0
  have HB := Aside0.mk (Below.refl w.heap.size w)
  have H : (marchlandlaw02_few.l0 k l0 ([] : List (S42)) 0) = some r := h
  clear h
  have H' := Aside0.mk H
  clear H
  go_enter Tryd.func17, Tryd.ntmps17
  go_wp2
  go_loopg [3, 4] k (fun kq v3 v4 w' => ∃ (x3_1 : List (S42)) (x4_1 : Int), v4 = .int .i64 x4_1 ∧ Aside0 (marchlandlaw02_few.l0 kq l0 x3_1 x4_1 = some r) ∧ Aside0 (kq ≤ k) ∧ Aside0 (Kd.R k42 42 w' w.heap.size (fun _ => True) v3 x3_1) ∧ Aside0 (Below w.heap.size w w'))
  case atStart => exact ⟨(([] : List (S42))), (0), (by first | rfl | (simp; done) | (simp [*]; done)), H', ⟨Nat.le_refl _⟩, ⟨by first | exact Kd.R_nil _ _ _ _ _ | exact Kd.N_nil _ _ _ _ _ | exact Kd.V_nil _ _ _ _ _ | exact Kd.Q_nil _ _ _ _ _ | exact Kd.S_nil _ _ _ _ _⟩, ⟨by repeat (first | (with_reducible first | exact HB.out | apply below_alloc | apply pw_below_drewN | apply below_drew1) | exact HB.out)⟩⟩
  case round =>
    clear H'
    try clear c1
    obtain ⟨x3_1, x4_1, rfl, HA, HK1, HO_3, HB⟩ := hrel
    cases gk with
    | zero => exact absurd HA.out (by simp [marchlandlaw02_few.l0])
    | succ k1 =>
      have H := HA.out
      clear HA
      simp only [marchlandlaw02_few.l0] at H
      by_cases c2 : x4_1 < (l0.length : Int)
      · rw [if_pos c2] at H
        have c2b0 : decide (x4_1 < (l0.length : Int)) = true := decide_eq_true c2
        clear c2
        by_cases c3 : x4_1 < 12
        · rw [if_pos c3] at H
          have c3b0 : decide (x4_1 < 12) = true := decide_eq_true c3
          clear c3
          by_cases c4 : 0 ≤ x4_1
          · rw [if_pos c4] at H
            have c4b0 : decide (0 ≤ x4_1) = true := decide_eq_true c4
            clear c4
            obtain ⟨ji5, hji5⟩ : ∃ j_ : Int, (mn (((rd_T42 l0 x4_1).f0).size : Int) 20) = j_ := ⟨_, rfl⟩
            replace H : (if 0 ≤ (ji5) then (if (ji5) ≤ (((rd_T42 l0 x4_1).f0).size : Int) then (if x3_1.length < 5864062014805 then (marchlandlaw02_few.l0 k1 l0 (x3_1 ++ [(⟨((rd_T42 l0 x4_1).f0).extract 0 ((ji5) : Int).toNat, (rd_T42 l0 x4_1).f1⟩ : S42)]) (wrap64 (x4_1 + 1))) else (none)) else (none)) else (none)) = some r := by first | (rw [hji5] at H; exact H) | (simp only [hji5] at H ⊢; exact H)
            have hji5_ : (if 20 < (((rd_T42 l0 x4_1).f0).size : Int) then 20 else (((rd_T42 l0 x4_1).f0).size : Int)) = ji5 := hji5
            by_cases c6 : 0 ≤ (ji5)
            · rw [if_pos c6] at H
              have c6b0 := eq_true c6
              have c6b1 : decide (0 ≤ (ji5)) = true := decide_eq_true c6
              clear c6
              by_cases c7 : (ji5) ≤ (((rd_T42 l0 x4_1).f0).size : Int)
              · rw [if_pos c7] at H
                have c7b0 := eq_true c7
                have c7b1 : decide ((ji5) ≤ (((rd_T42 l0 x4_1).f0).size : Int)) = true := decide_eq_true c7
                clear c7
                by_cases c8 : x3_1.length < 5864062014805
                · rw [if_pos c8] at H
                  have LMc8 := Aside0.mk c8
                  clear c8
                  obtain ⟨y104, hy104⟩ : ∃ y_ : List (S42), y_ = (x3_1 ++ [(⟨((rd_T42 l0 x4_1).f0).extract 0 ((ji5) : Int).toNat, (rd_T42 l0 x4_1).f1⟩ : S42)]) := ⟨_, rfl⟩
                  replace H : (marchlandlaw02_few.l0 k1 l0 y104 (wrap64 (x4_1 + 1))) = some r := by first | (rw [hy104]; with_reducible exact H) | (have H2_ := (Option.bind_some _ _).symm.trans H; rw [hy104]; with_reducible exact H2_) | (have H2_ := (Option.bind_some _ _).symm.trans H; with_reducible exact H2_) | with_reducible exact H | (rw [hy104]; exact H) | exact H
                  have Ny104 := Aside0.mk hy104
                  clear hy104
                  have H' := Aside0.mk H
                  clear H
                  try go_wp2
                  have n0_ := Aside0.mk (Kd.R_drew HO_3.out)
                  have n1_ := Aside0.mk (below_drew1 HB.out)
                  clear HO_3
                  clear HB
                  have HO_3 := n0_
                  have HB := n1_
                  clear n0_ n1_
                  have p101 : 0 ≤ (x4_1 : Int) := of_decide_eq_true (by first | (with_reducible assumption) | assumption)
                  have q101 : x4_1 < (l0.length : Int) := of_decide_eq_true (by first | (with_reducible assumption) | assumption)
                  obtain ⟨ad101, e101, hx101_0, hx101_1⟩ := at_T42 HR0.out x4_1 p101 q101
                  have hw101_1 := hx101_1
                  have hw101_0 := hx101_0
                  cases e101
                  replace hx101_0 := (HB.out.cell (World.block_lt_of_cell? w _ hx101_0)).trans hx101_0
                  replace hx101_1 := (HB.out.cell (World.block_lt_of_cell? w _ hx101_1)).trans hx101_1
                  replace p101 := eq_true p101
                  replace q101 := eq_true q101
                  have p102 : 0 ≤ (x4_1 : Int) := of_decide_eq_true (by first | (with_reducible assumption) | assumption)
                  have q102 : x4_1 < (l0.length : Int) := of_decide_eq_true (by first | (with_reducible assumption) | assumption)
                  obtain ⟨ad102, e102, hx102_0, hx102_1⟩ := at_T42 HR0.out x4_1 p102 q102
                  have hw102_1 := hx102_1
                  have hw102_0 := hx102_0
                  obtain rfl : ad101 = ad102 := (by injection e102)
                  replace hx102_0 := (HB.out.cell (World.block_lt_of_cell? w _ hx102_0)).trans hx102_0
                  replace hx102_1 := (HB.out.cell (World.block_lt_of_cell? w _ hx102_1)).trans hx102_1
                  replace p102 := eq_true p102
                  replace q102 := eq_true q102
                  have p103 : 0 ≤ (x4_1 : Int) := of_decide_eq_true (by first | (with_reducible assumption) | assumption)
                  have q103 : x4_1 < (l0.length : Int) := of_decide_eq_true (by first | (with_reducible assumption) | assumption)
                  obtain ⟨ad103, e103, hx103_0, hx103_1⟩ := at_T42 HR0.out x4_1 p103 q103
                  have hw103_1 := hx103_1
                  have hw103_0 := hx103_0
                  obtain rfl : ad101 = ad103 := (by injection e103)
                  replace hx103_0 := (HB.out.cell (World.block_lt_of_cell? w _ hx103_0)).trans hx103_0
                  replace hx103_1 := (HB.out.cell (World.block_lt_of_cell? w _ hx103_1)).trans hx103_1
                  replace p103 := eq_true p103
                  replace q103 := eq_true q103
                  refine start_ (n := 23) (S := fun w' => w'.cell? (ad101.add ((x4_1).toNat * 2)) = some (.string ((rd_T42 l0 x4_1).f0)) ∧ w'.cell? ⟨(ad101.add ((x4_1).toNat * 2)).block, (ad101.add ((x4_1).toNat * 2)).off + 1, none⟩ = some (.int .i64 ((rd_T42 l0 x4_1).f1)) ∧ w'.cell? (ad101.add ((x4_1).toNat * 2)) = some (.string ((rd_T42 l0 x4_1).f0)) ∧ w'.cell? ⟨(ad101.add ((x4_1).toNat * 2)).block, (ad101.add ((x4_1).toNat * 2)).off + 1, none⟩ = some (.int .i64 ((rd_T42 l0 x4_1).f1)) ∧ w'.cell? (ad101.add ((x4_1).toNat * 2)) = some (.string ((rd_T42 l0 x4_1).f0)) ∧ w'.cell? ⟨(ad101.add ((x4_1).toNat * 2)).block, (ad101.add ((x4_1).toNat * 2)).off + 1, none⟩ = some (.int .i64 ((rd_T42 l0 x4_1).f1))) (ds := []) #[false, false, false, false, false, false, false, false, false, false, false, false, false, false, false, false, false, false, false, false, false, false, false] (by kernel_rfl) rfl rfl ⟨((HB.out.cell (World.block_lt_of_cell? w _ hw101_0)).trans hw101_0), ((HB.out.cell (World.block_lt_of_cell? w _ hw101_1)).trans hw101_1), ((HB.out.cell (World.block_lt_of_cell? w _ hw102_0)).trans hw102_0), ((HB.out.cell (World.block_lt_of_cell? w _ hw102_1)).trans hw102_1), ((HB.out.cell (World.block_lt_of_cell? w _ hw103_0)).trans hw103_0), ((HB.out.cell (World.block_lt_of_cell? w _ hw103_1)).trans hw103_1)⟩ (fun hHeld => ?_); refine with_tabW marchlandlaw02_few.tab5 marchlandlaw02_few.bits5 (fun HT_ HW_ => ?_)
                  generalize wr.drew = w9 at HO_3 HB hx101_0 hx101_1 hx102_0 hx102_1 hx103_0 hx103_1 hHeld ⊢
                  refine pure_ (i := 0) (N := some 15) (v := ?_) (a' := ?_) #[true, false, false, false, false, false, false, false, false, false, false, false, false, false, false, false, false, false, false, false, false, false, false] rfl rfl (any_of HT_.out (by kernel_rfl)) (fun _ _ _ h => h) (Or.inl ⟨by rfl, ?_⟩) ?_ ?_
                  rotate_left
                  · intro w'
                    go_simp
                    with_reducible rfl
                  rotate_left
                  · simp only [Act.put, List.setIfInBounds_toArray, List.set_cons_zero, List.set_cons_succ, i64_w, i32_w]
                    rfl
                  refine pure_ (i := 1) (N := some 16) (v := ?_) (a' := ?_) #[true, true, false, false, false, false, false, false, false, false, false, false, false, false, false, false, false, false, false, false, false, false, false] rfl rfl (any_of HT_.out (by kernel_rfl)) (fun _ _ _ h => h) (Or.inl ⟨by rfl, ?_⟩) ?_ ?_
                  rotate_left
                  · intro w'
                    go_simp
                    with_reducible rfl
                  rotate_left
                  · simp only [Act.put, List.setIfInBounds_toArray, List.set_cons_zero, List.set_cons_succ, i64_w, i32_w]
                    rfl
                  refine pure_ (i := 2) (N := some 17) (v := ?_) (a' := ?_) #[true, true, true, false, false, false, false, false, false, false, false, false, false, false, false, false, false, false, false, false, false, false, false] rfl rfl (any_of HT_.out (by kernel_rfl)) (fun _ _ _ h => h) (Or.inl ⟨by rfl, ?_⟩) ?_ ?_
                  rotate_left
                  · intro w'
                    go_simp
                    with_reducible rfl
                  rotate_left
                  · simp only [Act.put, List.setIfInBounds_toArray, List.set_cons_zero, List.set_cons_succ, i64_w, i32_w]
                    rfl
                  refine pure_ (i := 3) (N := some 18) (v := ?_) (a' := ?_) #[true, true, true, true, false, false, false, false, false, false, false, false, false, false, false, false, false, false, false, false, false, false, false] rfl rfl (any_of HT_.out (by kernel_rfl)) (fun _ _ _ h => h) (Or.inl ⟨by rfl, ?_⟩) ?_ ?_
                  rotate_left
                  · intro w'
                    go_simp
                    with_reducible rfl
                  rotate_left
                  · simp only [Act.put, List.setIfInBounds_toArray, List.set_cons_zero, List.set_cons_succ, i64_w, i32_w]
                    rfl
                  refine pure_ (i := 4) (N := some 19) (v := ?_) (a' := ?_) #[true, true, true, true, true, false, false, false, false, false, false, false, false, false, false, false, false, false, false, false, false, false, false] rfl rfl (any_of HT_.out (by kernel_rfl)) (fun _ _ _ h => h) (Or.inl ⟨by rfl, ?_⟩) ?_ ?_
                  rotate_left
                  · intro w'
                    go_simp
                    with_reducible rfl
                  rotate_left
                  · simp only [Act.put, List.setIfInBounds_toArray, List.set_cons_zero, List.set_cons_succ, i64_w, i32_w]
                    rfl
                  refine pure_ (i := 6) (N := some 21) (v := ?_) (a' := ?_) #[true, true, true, true, true, false, true, false, false, false, false, false, false, false, false, false, false, false, false, false, false, false, false] rfl rfl (any_of HT_.out (by kernel_rfl)) (fun _ _ _ h => h) (Or.inl ⟨by rfl, ?_⟩) ?_ ?_
                  rotate_left
                  · intro w'
                    go_simp
                    with_reducible rfl
                  rotate_left
                  · simp only [Act.put, List.setIfInBounds_toArray, List.set_cons_zero, List.set_cons_succ, i64_w, i32_w]
                    rfl
                  refine pure_ (i := 7) (N := some 22) (v := ?_) (a' := ?_) #[true, true, true, true, true, false, true, true, false, false, false, false, false, false, false, false, false, false, false, false, false, false, false] rfl rfl (any_of HT_.out (by kernel_rfl)) (fun _ _ _ h => h) (Or.inl ⟨by rfl, ?_⟩) ?_ ?_
                  rotate_left
                  · intro w'
                    go_simp
                    with_reducible rfl
                  rotate_left
                  · simp only [Act.put, List.setIfInBounds_toArray, List.set_cons_zero, List.set_cons_succ, i64_w, i32_w]
                    rfl
                  refine pure_ (i := 8) (N := some 23) (v := ?_) (a' := ?_) #[true, true, true, true, true, false, true, true, true, false, false, false, false, false, false, false, false, false, false, false, false, false, false] rfl rfl (any_of HT_.out (by kernel_rfl)) (fun _ _ _ h => h) (Or.inl ⟨by rfl, ?_⟩) ?_ ?_
                  rotate_left
                  · intro w'
                    go_simp
                    with_reducible rfl
                  rotate_left
                  · simp only [Act.put, List.setIfInBounds_toArray, List.set_cons_zero, List.set_cons_succ, i64_w, i32_w]
                    rfl
                  refine pure_ (i := 9) (N := some 24) (v := ?_) (a' := ?_) #[true, true, true, true, true, false, true, true, true, true, false, false, false, false, false, false, false, false, false, false, false, false, false] rfl rfl (any_of HT_.out (by kernel_rfl)) (fun _ _ _ h => h) (Or.inl ⟨by rfl, ?_⟩) ?_ ?_
                  rotate_left
                  · intro w'
                    go_simp
                    with_reducible rfl
                  rotate_left
                  · simp only [Act.put, List.setIfInBounds_toArray, List.set_cons_zero, List.set_cons_succ, i64_w, i32_w]
                    rfl
                  refine pure_ (i := 14) (N := some 29) (v := ?_) (a' := ?_) #[true, true, true, true, true, false, true, true, true, true, false, false, false, false, true, false, false, false, false, false, false, false, false] rfl rfl (any_of HT_.out (by kernel_rfl)) (fun _ _ _ h => h) (Or.inl ⟨by rfl, ?_⟩) ?_ ?_
                  rotate_left
                  · intro w'
                    go_simp
                    with_reducible rfl
                  rotate_left
                  · simp only [Act.put, List.setIfInBounds_toArray, List.set_cons_zero, List.set_cons_succ, i64_w, i32_w]
                    rfl
                  refine pure_ (i := 15) (N := some 30) (v := ?_) (a' := ?_) #[true, true, true, true, true, false, true, true, true, true, false, false, false, false, true, true, false, false, false, false, false, false, false] rfl rfl (any_of HT_.out (by kernel_rfl)) (fun _ _ _ h => h) (Or.inl ⟨by rfl, ?_⟩) ?_ ?_
                  rotate_left
                  · intro w'
                    go_simp
                    with_reducible rfl
                  rotate_left
                  · simp only [Act.put, List.setIfInBounds_toArray, List.set_cons_zero, List.set_cons_succ, i64_w, i32_w]
                    rfl
                  refine pure_ (i := 16) (N := some 31) (v := ?_) (a' := ?_) #[true, true, true, true, true, false, true, true, true, true, false, false, false, false, true, true, true, false, false, false, false, false, false] rfl rfl (any_of HT_.out (by kernel_rfl)) (fun _ _ _ h => h) (Or.inl ⟨by rfl, ?_⟩) ?_ ?_
                  rotate_left
                  · intro w'
                    go_simp
                    with_reducible rfl
                  rotate_left
                  · simp only [Act.put, List.setIfInBounds_toArray, List.set_cons_zero, List.set_cons_succ, i64_w, i32_w]
                    rfl
                  refine pure_ (i := 17) (N := some 32) (v := ?_) (a' := ?_) #[true, true, true, true, true, false, true, true, true, true, false, false, false, false, true, true, true, true, false, false, false, false, false] rfl rfl (any_of HT_.out (by kernel_rfl)) (fun _ _ _ h => h) (Or.inl ⟨by rfl, ?_⟩) ?_ ?_
                  rotate_left
                  · intro w'
                    go_simp
                    with_reducible rfl
                  rotate_left
                  · simp only [Act.put, List.setIfInBounds_toArray, List.set_cons_zero, List.set_cons_succ, i64_w, i32_w]
                    rfl
                  refine take_ (i := 5) (N := some 20) (v := ?_) (a' := ?_) #[true, true, true, true, true, true, true, true, true, true, false, false, false, false, true, true, true, true, false, false, false, false, false] rfl rfl (take_ofW HT_.out HW_.out (by kernel_rfl)) (fun _ _ _ h => h) (Or.inl ⟨by rfl, ?_⟩) hHeld ?_ ?_
                  rotate_left
                  · rintro w' ⟨s0, s1, s2, s3, s4, s5⟩
                    go_simp
                    with_reducible rfl
                  rotate_left
                  · simp only [Act.put, List.setIfInBounds_toArray, List.set_cons_zero, List.set_cons_succ, i64_w, i32_w]
                    rfl
                  refine take_ (i := 10) (N := some 25) (v := ?_) (a' := ?_) #[true, true, true, true, true, true, true, true, true, true, true, false, false, false, true, true, true, true, false, false, false, false, false] rfl rfl (take_ofW HT_.out HW_.out (by kernel_rfl)) (fun _ _ _ h => h) (Or.inl ⟨by rfl, ?_⟩) hHeld ?_ ?_
                  rotate_left
                  · rintro w' ⟨s0, s1, s2, s3, s4, s5⟩
                    go_simp
                    with_reducible rfl
                  rotate_left
                  · simp only [Act.put, List.setIfInBounds_toArray, List.set_cons_zero, List.set_cons_succ, i64_w, i32_w]
                    rfl
                  refine pure_ (i := 11) (N := some 26) (v := ?_) (a' := ?_) #[true, true, true, true, true, true, true, true, true, true, true, true, false, false, true, true, true, true, false, false, false, false, false] rfl rfl (any_of HT_.out (by kernel_rfl)) (fun _ _ _ h => h) (Or.inl ⟨by rfl, ?_⟩) ?_ ?_
                  rotate_left
                  · intro w'
                    go_simp
                    with_reducible rfl
                  rotate_left
                  · simp only [Act.put, List.setIfInBounds_toArray, List.set_cons_zero, List.set_cons_succ, i64_w, i32_w]
                    rfl
                  refine pure_ (i := 12) (N := some 27) (v := ?_) (a' := ?_) #[true, true, true, true, true, true, true, true, true, true, true, true, true, false, true, true, true, true, false, false, false, false, false] rfl rfl (any_of HT_.out (by kernel_rfl)) (fun _ _ _ h => h) (Or.inl ⟨by rfl, ?_⟩) ?_ ?_
                  rotate_left
                  · intro w'
                    go_simp
                    with_reducible rfl
                  rotate_left
                  · simp only [Act.put, List.setIfInBounds_toArray, List.set_cons_zero, List.set_cons_succ, i64_w, i32_w]
                    rfl
                  refine pure_ (i := 13) (N := some 28) (v := ?_) (a' := ?_) #[true, true, true, true, true, true, true, true, true, true, true, true, true, true, true, true, true, true, false, false, false, false, false] rfl rfl (any_of HT_.out (by kernel_rfl)) (fun _ _ _ h => h) (Or.inl ⟨by rfl, ?_⟩) ?_ ?_
                  rotate_left
                  · intro w'
                    go_simp
                    with_reducible rfl
                  rotate_left
                  · simp only [Act.put, List.setIfInBounds_toArray, List.set_cons_zero, List.set_cons_succ, i64_w, i32_w]
                    rfl
                  refine take_ (i := 18) (N := some 33) (v := ?_) (a' := ?_) #[true, true, true, true, true, true, true, true, true, true, true, true, true, true, true, true, true, true, true, false, false, false, false] rfl rfl (take_ofW HT_.out HW_.out (by kernel_rfl)) (fun _ _ _ h => h) (Or.inl ⟨by rfl, ?_⟩) hHeld ?_ ?_
                  rotate_left
                  · rintro w' ⟨s0, s1, s2, s3, s4, s5⟩
                    go_simp
                    with_reducible rfl
                  rotate_left
                  · simp only [Act.put, List.setIfInBounds_toArray, List.set_cons_zero, List.set_cons_succ, i64_w, i32_w]
                    rfl
                  refine pure_ (i := 19) (N := some 34) (v := ?_) (a' := ?_) #[true, true, true, true, true, true, true, true, true, true, true, true, true, true, true, true, true, true, true, true, false, false, false] rfl rfl (any_of HT_.out (by kernel_rfl)) (fun _ _ _ h => h) (Or.inl ⟨by rfl, ?_⟩) ?_ ?_
                  rotate_left
                  · intro w'
                    go_simp
                    with_reducible rfl
                  rotate_left
                  · simp only [Act.put, List.setIfInBounds_toArray, List.set_cons_zero, List.set_cons_succ, i64_w, i32_w]
                    rfl
                  refine one_ (i := 20) (N := some 35) #[true, true, true, true, true, true, true, true, true, true, true, true, true, true, true, true, true, true, true, true, true, false, false] rfl rfl (one_of HT_.out (by kernel_rfl)) (by decide) (fun K hK => ?_)
                  refine value_ (w1 := ?_) (v := ?_) (by rfl) rfl ?_ ?_
                  rotate_left 2
                  · go_simp
                    constructor
                    · rfl
                    · rfl
                  refine hK.out _ _ ⟨(World.cell?_alloc_lt _ _ _ (World.block_lt_of_cell? _ _ (((HB.out.cell (World.block_lt_of_cell? w _ hw101_0)).trans hw101_0)))).trans (((HB.out.cell (World.block_lt_of_cell? w _ hw101_0)).trans hw101_0)), (World.cell?_alloc_lt _ _ _ (World.block_lt_of_cell? _ _ (((HB.out.cell (World.block_lt_of_cell? w _ hw101_1)).trans hw101_1)))).trans (((HB.out.cell (World.block_lt_of_cell? w _ hw101_1)).trans hw101_1)), (World.cell?_alloc_lt _ _ _ (World.block_lt_of_cell? _ _ (((HB.out.cell (World.block_lt_of_cell? w _ hw102_0)).trans hw102_0)))).trans (((HB.out.cell (World.block_lt_of_cell? w _ hw102_0)).trans hw102_0)), (World.cell?_alloc_lt _ _ _ (World.block_lt_of_cell? _ _ (((HB.out.cell (World.block_lt_of_cell? w _ hw102_1)).trans hw102_1)))).trans (((HB.out.cell (World.block_lt_of_cell? w _ hw102_1)).trans hw102_1)), (World.cell?_alloc_lt _ _ _ (World.block_lt_of_cell? _ _ (((HB.out.cell (World.block_lt_of_cell? w _ hw103_0)).trans hw103_0)))).trans (((HB.out.cell (World.block_lt_of_cell? w _ hw103_0)).trans hw103_0)), (World.cell?_alloc_lt _ _ _ (World.block_lt_of_cell? _ _ (((HB.out.cell (World.block_lt_of_cell? w _ hw103_1)).trans hw103_1)))).trans (((HB.out.cell (World.block_lt_of_cell? w _ hw103_1)).trans hw103_1))⟩ (fun hHeld => ?_)
                  clear hK K
                  refine norm_ (a' := ?_) ?_ ?_
                  rotate_left
                  · show Act.put _ (some 35) _ = _
                    simp only [Act.put, List.setIfInBounds_toArray, List.set_cons_zero, List.set_cons_succ, i64_w, i32_w]
                    rfl
                  refine one_ (i := 21) (N := some 36) #[true, true, true, true, true, true, true, true, true, true, true, true, true, true, true, true, true, true, true, true, true, true, false] rfl rfl (one_of HT_.out (by kernel_rfl)) (by decide) (fun K hK => ?_)
                  refine Kd.R_append_step k42 (w0 := w) w.heap.size (by rfl) (.tmp 15) (.tmp 35) 28 42 (.agg #[(.string ⟨#[]⟩), (.int .i64 0)]) 24 rfl Tryd.underlying28 info42 rfl (by decide) (by omega) u3 x3_1 (⟨((rd_T42 l0 x4_1).f0).extract 0 ((ji5) : Int).toNat, (rd_T42 l0 x4_1).f1⟩ : S42) [.string (((rd_T42 l0 x4_1).f0).extract 0 ((ji5) : Int).toNat), .int .i64 ((rd_T42 l0 x4_1).f1)] (fun _ => True) (fun _ => False) rfl rfl ?aP (fun _ hk => hk.elim) ?aF ?aO ?aB ?aS ?aL ?_
                  (case aP => exact k42_mkM _ _ _ (⟨((rd_T42 l0 x4_1).f0).extract 0 ((ji5) : Int).toNat, (rd_T42 l0 x4_1).f1⟩ : S42))
                  (case aB => exact (by repeat (first | (with_reducible first | exact HB.out | apply below_alloc | apply pw_below_drewN | apply below_drew1) | exact HB.out)))
                  (case aF => exact (fun _ _ => trivial))
                  (case aO => exact (by (with_reducible repeat (first | apply Kd.R_alloc | apply Kd.R_drewN | apply Kd.R_drew)); exact HO_3.out))
                  (case aS => exact (below_size (by repeat (first | (with_reducible first | exact HB.out | apply below_alloc | apply pw_below_drewN | apply below_drew1) | exact HB.out))))
                  (case aL => have := LMc8.out; omega)
                  intro v105 w10 ho hb hg hat
                  rw [← Ny104.out] at ho
                  have n0_ := Aside0.mk (hb)
                  have n1_ := Aside0.mk (ho)
                  clear HB
                  clear HO_3
                  have HB := n0_
                  have HO106 := n1_
                  clear n0_ n1_
                  clear ho hb hg hat
                  refine hK.out _ _ ⟨((HB.out.cell (World.block_lt_of_cell? w _ hw101_0)).trans hw101_0), ((HB.out.cell (World.block_lt_of_cell? w _ hw101_1)).trans hw101_1), ((HB.out.cell (World.block_lt_of_cell? w _ hw102_0)).trans hw102_0), ((HB.out.cell (World.block_lt_of_cell? w _ hw102_1)).trans hw102_1), ((HB.out.cell (World.block_lt_of_cell? w _ hw103_0)).trans hw103_0), ((HB.out.cell (World.block_lt_of_cell? w _ hw103_1)).trans hw103_1)⟩ (fun hHeld => ?_)
                  clear hK K
                  refine norm_ (a' := ?_) ?_ ?_
                  rotate_left
                  · show Act.put _ (some 36) _ = _
                    simp only [Act.put, List.setIfInBounds_toArray, List.set_cons_zero, List.set_cons_succ, i64_w, i32_w]
                    rfl
                  refine pure_ (i := 22) (N := some 3) (v := ?_) (a' := ?_) #[true, true, true, true, true, true, true, true, true, true, true, true, true, true, true, true, true, true, true, true, true, true, true] rfl rfl (any_of HT_.out (by kernel_rfl)) (fun _ _ _ h => h) (Or.inl ⟨by rfl, ?_⟩) ?_ ?_
                  rotate_left
                  · intro w'
                    go_simp
                    with_reducible rfl
                  rotate_left
                  · simp only [Act.put, List.setIfInBounds_toArray, List.set_cons_zero, List.set_cons_succ, i64_w, i32_w]
                    rfl
                  refine done_ (done_of HT_.out (by kernel_rfl)) ?_
                  try go_wp2
                  go_roundg k1
                  case measure => have := HK1.out; omega
                  case rel => exact ⟨(y104), (wrap64 (x4_1 + 1)), (by first | rfl | (simp; done) | (simp [*]; done)), H', ⟨by have := HK1.out; omega⟩, ⟨by (with_reducible repeat (first | apply Kd.R_alloc | apply Kd.R_drewN | apply Kd.R_drew)); exact HO106.out⟩, ⟨by repeat (first | (with_reducible first | exact HB.out | apply below_alloc | apply pw_below_drewN | apply below_drew1) | exact HB.out)⟩⟩
                · rw [if_neg c8] at H
                  exact absurd H (by simp)
              · rw [if_neg c7] at H
                exact absurd H (by simp)
            · rw [if_neg c6] at H
              exact absurd H (by simp)
          · rw [if_neg c4] at H
            exact absurd H (by simp)
        · rw [if_neg c3] at H
          have c3b0 : decide (x4_1 < 12) = false := decide_eq_false c3
          clear c3
          obtain rfl := Option.some.inj H
          go_wp2
          go_ret
          exact ⟨_, by first | rfl | (simp [errW_none, errW_some] <;> rfl) | (simp [*, errW_none, errW_some] <;> rfl), by (with_reducible repeat (first | apply Kd.R_alloc | apply Kd.R_drewN | apply Kd.R_drew)); exact HO_3.out, by repeat (first | (with_reducible first | exact HB.out | apply below_alloc | apply pw_below_drewN | apply below_drew1) | exact HB.out)⟩
      · rw [if_neg c2] at H
        have c2b0 : decide (x4_1 < (l0.length : Int)) = false := decide_eq_false c2
        clear c2
        obtain rfl := Option.some.inj H
        go_wp2
        go_ret
        exact ⟨_, by first | rfl | (simp [errW_none, errW_some] <;> rfl) | (simp [*, errW_none, errW_some] <;> rfl), by (with_reducible repeat (first | apply Kd.R_alloc | apply Kd.R_drewN | apply Kd.R_drew)); exact HO_3.out, by repeat (first | (with_reducible first | exact HB.out | apply below_alloc | apply pw_below_drewN | apply below_drew1) | exact HB.out)⟩
end Go.Proofs.YtgeldmhgbnamcaaDoor.Q
end
section
namespace Go.Proofs.YtgeldmhgbnamcaaDoor.P
open Go.RowKit Go.Proofs.YtgeldmhgbnamcaaDoorW.PrintWords Go.Proofs.YtgeldmhgbnamcaaDoorW.PrintLast Go.Proofs.YtgeldmhgbnamcaaDoorW.PrintMore
open Go.Proofs.YtgeldmhgbnamcaaDoor.Q (S42 k42 z42 rd_T42 at_T42 marchlandlaw02_few.l0 marchlandlaw02_few.f marchlandlaw02_few.calls)
set_option linter.unusedVariables false
set_option linter.unusedSimpArgs false
def few1 (p : S42) : S42 := ⟨p.f0.extract 0 (mn (p.f0.size : Int) 20).toNat, p.f1⟩
def fewL (l : List S42) : List S42 := (l.take 12).map few1
theorem mn_le (n : Nat) : 0 ≤ mn (n : Int) 20 ∧ mn (n : Int) 20 ≤ (n : Int) ∧ mn (n : Int) 20 ≤ 20 := by
  unfold mn
  split <;> omega
theorem few1_size (p : S42) : (few1 p).f0.size ≤ 20 := by
  have h := mn_le p.f0.size
  show (p.f0.extract 0 _).size ≤ 20
  rw [ByteArray.size_extract]
  omega
theorem few_l0 (l : List S42) : ∀ (d i : Nat) (acc : List S42), min l.length 12 ≤ i + d → i ≤ min l.length 12 → acc.length = i →
    marchlandlaw02_few.l0 (d + 1) l acc (i : Int) = some (acc ++ ((l.take 12).drop i).map few1) := by
  intro d
  induction d with
  | zero =>
    intro i acc h1 h2 h3
    have e : (l.take 12).drop i = [] := List.drop_eq_nil_of_le (by rw [List.length_take]; omega)
    rw [e, List.map_nil, List.append_nil, marchlandlaw02_few.l0]
    by_cases a : (i : Int) < (l.length : Int)
    · rw [if_pos a, if_neg (by omega)]
    · rw [if_neg a]
  | succ d ih =>
    intro i acc h1 h2 h3
    by_cases a : i < min l.length 12
    · have hi : i < l.length := by omega
      have m := mn_le ((rd_T42 l (i : Int)).f0).size
      rw [marchlandlaw02_few.l0, if_pos (by omega), if_pos (by omega), if_pos (by omega), if_pos m.1, if_pos m.2.1, if_pos (by omega)]
      rw [show wrap64 ((i : Int) + 1) = ((i + 1 : Nat) : Int) by unfold wrap64; omega]
      have hr : rd_T42 l (i : Int) = l[i] := by unfold rd_T42; rw [Int.toNat_natCast, List.getD_eq_getElem?_getD, List.getElem?_eq_getElem hi]; rfl
      rw [ih (i + 1) _ (by omega) (by omega) (by rw [List.length_append, h3]; rfl)]
      rw [List.drop_eq_getElem_cons (show i < (l.take 12).length by rw [List.length_take]; omega), List.map_cons, List.append_assoc, List.getElem_take, ← hr]
      rfl
    · have e : (l.take 12).drop i = [] := List.drop_eq_nil_of_le (by rw [List.length_take]; omega)
      rw [e, List.map_nil, List.append_nil, marchlandlaw02_few.l0]
      by_cases a : (i : Int) < (l.length : Int)
      · rw [if_pos a, if_neg (by omega)]
      · rw [if_neg a]
theorem few_ev (l : List S42) : marchlandlaw02_few.f 13 l = some (fewL l) := by
  show marchlandlaw02_few.l0 (12 + 1) l [] ((0 : Nat) : Int) = _
  rw [few_l0 l 12 0 [] (by omega) (by omega) rfl]
  rfl
theorem fewL_len (l : List S42) : (fewL l).length ≤ 12 := by unfold fewL; rw [List.length_map, List.length_take]; omega
theorem few_C (A : Option Addr) (c : Nat) (l : List S42) (W : World) (hC : Kd.C k42 W A l.length l) (hc : l.length ≤ c) :
    Calls Tryd.prog 17 #[.slice A l.length c] W fun e w' => ∃ A1 c1, e = .returned (.slice A1 (fewL l).length c1) ∧ Kd.C k42 w' A1 (fewL l).length (fewL l) ∧ (fewL l).length ≤ c1 ∧ Below W.heap.size W w' := by
  refine (marchlandlaw02_few.calls 13 A c l (fewL l) W hC hc (few_ev l)).mono ?_
  rintro e w' ⟨v, rfl, hr, hb⟩
  obtain ⟨A1, c1, rfl⟩ := Kd.R_slice hr
  exact ⟨A1, c1, rfl, (Kd.R_reads' hr).2.2, (Kd.R_reads' hr).2.1, hb⟩
theorem few_at {w : World} {A : Option Addr} {L : List S42} (hC : Kd.C k42 w A L.length L) (i : Nat) (hi : i < L.length) : ∃ ad : Addr, A = some ad ∧ w.cell? (ad.add (i * 2)) = some (.string (L[i]).f0) ∧ w.cell? ⟨(ad.add (i * 2)).block, (ad.add (i * 2)).off + 1, none⟩ = some (.int .i64 (L[i]).f1) := by
  obtain ⟨ad, e, h0, h1⟩ := at_T42 hC (i : Int) (by omega) (by omega)
  have hr : rd_T42 L (i : Int) = L[i] := by unfold rd_T42; rw [Int.toNat_natCast, List.getD_eq_getElem?_getD, List.getElem?_eq_getElem hi]; rfl
  rw [Int.toNat_natCast, hr] at h0 h1
  exact ⟨ad, e, h0, h1⟩
end Go.Proofs.YtgeldmhgbnamcaaDoor.P
end
section
namespace Go
section
variable {P : Program} (w : World)
theorem run_equalIn_iface_int (d : Nat) {ti tn : TypeId} {ms : Array (String × TypeId)} {i : TypeInfo} {k : IntKind} (a b : Int)
    (hi : P.underlying ti = some (.interface ms)) (hn : P.underlying tn = some (.int k)) (hinfo : P.info? tn = some i) (hcomp : i.comparable = true) :
    (Op.equalIn (d + 2) ti (.iface tn (.int k a)) (.iface tn (.int k b))).run P w = .ok (a == b) w := by
  simp [Op.equalIn, run_underlying hi, run_underlying hn, typeInfo, hinfo, hcomp]
theorem run_eql_iface_int {ti tn : TypeId} {ms : Array (String × TypeId)} {i : TypeInfo} {k : IntKind} (a b : Int)
    (hi : P.underlying ti = some (.interface ms)) (hn : P.underlying tn = some (.int k)) (hinfo : P.info? tn = some i) (hcomp : i.comparable = true) :
    (binOp .eql ti (.iface tn (.int k a)) (.iface tn (.int k b))).run P w = .ok (.bool (a == b)) w := by
  simp only [binOp]
  simp [Op.equal, Op.maxDepth, run_equalIn_iface_int w 9998 a b hi hn hinfo hcomp]
end
end Go
namespace Go.Proofs.YtgeldmhgbnamcaaDoor.P
open Go.RowKit Go.Extern.Stop Go.Stop Go.Extern Go.Proofs.YtgeldmhgbnamcaaDoorW.PrintWords
set_option linter.unusedVariables false
set_option linter.unusedSimpArgs false
theorem e_noIsW (v : Value) (xT : TypeId) (w : World) : (Instr.typeAssert (.iface 100 v) xT 148 true).run Tryd.prog w = .ok (.tuple #[.nilIface, .bool false]) w := run_typeAssert_lacksB Tryd.underlying148 (by kernel_rfl) (by kernel_rfl) v xT w
theorem e_noIs33 (v : Value) (xT : TypeId) (w : World) : (Instr.typeAssert (.iface 33 v) xT 148 true).run Tryd.prog w = .ok (.tuple #[.nilIface, .bool false]) w := run_typeAssert_lacksB Tryd.underlying148 (by kernel_rfl) (by kernel_rfl) v xT w
theorem e_noUnwrap33 (v : Value) (xT : TypeId) (w : World) : (Instr.typeAssert (.iface 33 v) xT 151 true).run Tryd.prog w = .ok (.tuple #[.nilIface, .bool false]) w := run_typeAssert_lacksB Tryd.underlying151 (by kernel_rfl) (by kernel_rfl) v xT w
theorem e_noUnwraps33 (v : Value) (xT : TypeId) (w : World) : (Instr.typeAssert (.iface 33 v) xT 152 true).run Tryd.prog w = .ok (.tuple #[.nilIface, .bool false]) w := run_typeAssert_lacksB Tryd.underlying152 (by kernel_rfl) (by kernel_rfl) v xT w
theorem e_info33 : ∃ i, Tryd.prog.info? 33 = some i ∧ i.comparable = true := Option.map_eq_some_iff.1 (show (Tryd.prog.info? 33).map (·.comparable) = some true by kernel_rfl)
theorem e_comparable33 (w : World) : ((ReflectliteType.method fun t => do Rtype.noPackHeld "Comparable" t; (fun a => Value.bool a.comparable) <$> typeInfo t) #[.agg #[.pointer (some ⟨6, 33, none⟩)]]).run Tryd.prog w = .ok (.bool true) w := by kernel_rfl
theorem e_methodComparable (v : Value) (w : World) : (Go.method 346 146 v "Comparable").run Tryd.prog w = .ok (165, v) w := by kernel_rfl
set_option maxHeartbeats 4000000 in
set_option maxRecDepth 100000 in
theorem is_calls (ps : List (ByteArray × Int)) (v : Value) (k o : Int) (W : World) (hE : ErrIs W ps v (.iface 33 (.int .i64 k))) :
    Calls Tryd.prog 59 #[v, .iface 33 (.int .i64 o), .bool true] W fun e w' => e = .returned (.bool (k == o)) ∧ w' = W := by
  obtain ⟨i, hi, hcmp⟩ := e_info33
  have nW := e_noIsW
  have n33 := e_noIs33
  have u33 := e_noUnwrap33
  have us33 := e_noUnwraps33
  have uW := e_hasUnwrapW
  have mU := e_methodUnwrap
  have HE := Aside0.mk hE
  clear hE
  go_enter Tryd.func59, Tryd.ntmps59
  go_wp2
  go_loopg [0] (ps.length + 1) (fun kq v0 wr => wr = W ∧ ∃ qs : List (ByteArray × Int), kq = qs.length + 1 ∧ Aside0 (ErrIs W qs v0 (.iface 33 (.int .i64 k))))
  case atStart => exact ⟨rfl, ps, rfl, HE⟩
  case round =>
    obtain ⟨rfl, qs, hq, HS⟩ := hrel
    cases qs with
    | nil =>
      obtain rfl : _ = Value.iface 33 (.int .i64 k) := HS.out
      have heq := run_eql_iface_int (P := Tryd.prog) wr k o Tryd.underlying31 Tryd.underlying33 hi hcmp
      cases hko : (k == o) with
      | true =>
        rw [hko] at heq
        go_wp2
        go_ret
        exact ⟨by rw [hko]; rfl, rfl⟩
      | false =>
        rw [hko] at heq
        go_wp2
        go_ret
        exact ⟨by rw [hko]; rfl, rfl⟩
    | cons p qs =>
      obtain ⟨b, vi, rfl, hb, hE⟩ := HS.out
      have hty := run_eql_iface_types (P := Tryd.prog) 100 33 (.pointer (some ⟨b, 0, none⟩)) (.int .i64 o) Tryd.underlying31 (by decide) wr
      have HN := Aside0.mk hE
      have HU := Aside0.mk (unwrap_calls b p.1 p.2 vi wr hb)
      obtain ⟨u, x, rfl⟩ := hE.iface
      clear hE hb
      go_wp2_with (first | (go_at_call 158; refine HU.out.mono ?_; rintro e w' ⟨rfl, rfl⟩))
      go_roundg (qs.length + 1)
      case measure => rw [hq]; simp
      case rel => exact ⟨rfl, qs, rfl, HN⟩
set_option maxHeartbeats 4000000 in
set_option maxRecDepth 100000 in
theorem Is_calls (ps : List (ByteArray × Int)) (v : Value) (k o : Int) (W : World) (hE : ErrIs W ps v (.iface 33 (.int .i64 k))) :
    Calls Tryd.prog 25 #[v, .iface 33 (.int .i64 o)] W fun e w' => e = .returned (.bool (k == o)) ∧ w' = W := by
  have h58 := @run_callFunc_extern Tryd.prog 58 _ ReflectliteType.typeOf Tryd.func58 (by kernel_rfl) (by kernel_rfl) (by kernel_rfl) (by kernel_rfl)
  have h165 := @run_callFunc_extern Tryd.prog 165 _ (ReflectliteType.method fun t => do Rtype.noPackHeld "Comparable" t; pure (.bool (← typeInfo t).comparable)) Tryd.func165 (by kernel_rfl) (by kernel_rfl) (by kernel_rfl) (by kernel_rfl)
  have tO := e_typeOf33
  have mC := e_methodComparable
  have cC := e_comparable33
  obtain ⟨u, x, rfl⟩ := hE.iface
  have HIS := Aside0.mk (is_calls ps _ k o W hE)
  clear hE
  go_enter Tryd.func25, Tryd.ntmps25
  go_wp2_with (first | (go_at_call 59; refine HIS.out.mono ?_; rintro e w' ⟨rfl, rfl⟩))
  go_ret
  exact ⟨rfl, rfl⟩
set_option maxHeartbeats 1000000 in
theorem fIs_calls (ps : List (ByteArray × Int)) (v : Value) (k o : Int) (ho : o ≠ 0) (W : World) (hE : ErrIs W ps v (.iface 33 (.int .i64 k))) :
    Calls Tryd.prog 21 #[v, .int .i64 o] W fun e w' => e = .returned (.bool (k == o)) ∧ w' = W := by
  have hob : (o == 0) = false := beq_eq_false_iff_ne.mpr ho
  have HIS := Aside0.mk (Is_calls ps v k o W hE)
  clear hE ho
  go_enter Tryd.func21, Tryd.ntmps21
  go_wp2_with (first | (go_at_call 25; refine HIS.out.mono ?_; rintro e w' ⟨rfl, rfl⟩))
  go_ret
  exact ⟨rfl, rfl⟩
end Go.Proofs.YtgeldmhgbnamcaaDoor.P
end
section
namespace Go.Proofs.YtgeldmhgbnamcaaDoor.P
open Go.RowKit Go.Proofs.YtgeldmhgbnamcaaDoorW.PrintWords
set_option linter.unusedVariables false
set_option linter.unusedSimpArgs false
def words15 : List ByteArray := [⟨#[111, 107]⟩, ⟨#[97, 114, 103, 117, 109, 101, 110, 116]⟩, ⟨#[112, 111, 114, 116]⟩, ⟨#[99, 121, 99, 108, 101]⟩, ⟨#[109, 97, 110, 121]⟩, ⟨#[117, 110, 106, 117, 115, 116, 105, 102, 105, 101, 100]⟩, ⟨#[98, 97, 99, 107]⟩, ⟨#[115, 116, 97, 108, 101]⟩, ⟨#[99, 108, 111, 115, 101, 100]⟩, ⟨#[102, 117, 108, 108]⟩, ⟨#[111, 118, 101, 114]⟩, ⟨#[115, 116, 97, 116, 101]⟩, ⟨#[102, 111, 114, 109]⟩, ⟨#[119, 111, 114, 100]⟩, ⟨#[110, 111, 110, 101]⟩]
def wordOf (k : Int) : ByteArray := words15.getD k.toNat ⟨#[]⟩
set_option maxHeartbeats 4000000 in
set_option maxRecDepth 100000 in
theorem Error_calls (k : Int) (h0 : 0 ≤ k) (h1 : k < 15) (W : World) : Calls Tryd.prog 55 #[.int .i64 k] W fun e w' => e = .returned (.string (wordOf k)) ∧ Below W.heap.size W w' := by
  have hk : k = 0 ∨ k = 1 ∨ k = 2 ∨ k = 3 ∨ k = 4 ∨ k = 5 ∨ k = 6 ∨ k = 7 ∨ k = 8 ∨ k = 9 ∨ k = 10 ∨ k = 11 ∨ k = 12 ∨ k = 13 ∨ k = 14 := by omega
  rcases hk with rfl | rfl | rfl | rfl | rfl | rfl | rfl | rfl | rfl | rfl | rfl | rfl | rfl | rfl | rfl
  all_goals
    clear h0 h1
    go_enter Tryd.func55, Tryd.ntmps55
    go_wp2
    go_ret
    exact ⟨rfl, below_alloc (Below.refl _ _) _⟩
open Go.RowKit Go.Proofs.YtgeldmhgbnamcaaDoorW.PrintWords Go.Proofs.YtgeldmhgbnamcaaDoorW.PrintLast Go.Proofs.YtgeldmhgbnamcaaDoorW.PrintMore
structure S41 where
  f0 : ByteArray
  f1 : Int
def z41 : S41 := ⟨(⟨#[]⟩ : ByteArray), (0 : Int)⟩
theorem info41 : (Tryd.prog.info? 41).map (fun i => (i.zero, i.size, i.bytes)) = some (some (.agg #[(.string ⟨#[]⟩), (.int .i64 0)]), 2, 24) := by kernel_rfl
def k41 : Kd S41 := Kd.iso (Kd.pair Kd.string (Kd.int .i64)) (fun x : S41 => (x.f0, x.f1))
theorem k41_open {w : World} {x : S41} {cs : List Value} (h : k41.K w x cs) : cs = [.string x.f0, .int .i64 x.f1] := by
  obtain ⟨_, _, rfl, rfl, rfl⟩ := h
  exact rfl
theorem k41_mkM (w : World) (base : Nat) (ok : Nat → Prop) (x : S41)  : k41.M w base ok x [.string x.f0, .int .i64 x.f1] := ⟨[.string x.f0], [.int .i64 x.f1], rfl, rfl, rfl⟩
def rd_T41 (xs : List S41) (i : Int) : S41 := xs.getD i.toNat z41
theorem at_T41 {w : World} {A : Option Addr} {n : Nat} {xs : List S41} (h : Kd.C k41 w A n xs) (i : Int) (h0 : 0 ≤ i) (h1 : i < n) : ∃ ad , A = some ad ∧ w.cell? (ad.add (i.toNat * 2)) = some (.string (rd_T41 xs i).f0) ∧ w.cell? ⟨(ad.add (i.toNat * 2)).block, (ad.add (i.toNat * 2)).off + 1, none⟩ = some (.int .i64 (rd_T41 xs i).f1) := by
  obtain ⟨ad, c, e, _, hK, hc0⟩ := Kd.C_get h z41 i h0 h1
  have hc : ∀ j u, c[j]? = some u → w.cell? (ad.add (i.toNat * 2 + j)) = some u := hc0
  obtain rfl := k41_open hK
  exact ⟨ad, e, hc 0 _ rfl, by rw [← add_field _ _ 1 (by omega)]; exact hc 1 _ rfl⟩
theorem e_assert100 (v : Value) (w : World) : (Instr.typeAssert (.iface 100 v) 31 100 true).run Tryd.prog w = .ok (.tuple #[v, .bool true]) w := by kernel_rfl
theorem e_assert33 (v : Value) (w : World) : (Instr.typeAssert (.iface 33 v) 31 100 true).run Tryd.prog w = .ok (.tuple #[.pointer none, .bool false]) w := by kernel_rfl
set_option maxHeartbeats 4000000 in
set_option maxRecDepth 100000 in
theorem Path_calls (ps : List (ByteArray × Int)) (v : Value) (k : Int) (W : World) (hE : ErrIs W ps v (.iface 33 (.int .i64 k))) (hl : ps.length ≤ 1000) :
    Calls Tryd.prog 24 #[v] W fun e w' => ∃ v', e = .returned v' ∧ Kd.R k41 41 w' W.heap.size (fun _ => True) v' (ps.map fun p => ⟨p.1, p.2⟩) ∧ Below W.heap.size W w' := by
  have HE := Aside0.mk hE
  have a100 := e_assert100
  have a33 := e_assert33
  clear hE
  go_enter Tryd.func24, Tryd.ntmps24
  go_wp2
  go_loopg [0, 3] (ps.length + 1) (fun kq v0 v3 wr => ∃ (qs : List (ByteArray × Int)) (acc : List S41), kq = qs.length + 1 ∧ Aside0 (ErrIs W qs v0 (.iface 33 (.int .i64 k)) ∧ Kd.R k41 41 wr W.heap.size (fun _ => True) v3 acc ∧ acc ++ qs.map (fun p => (⟨p.1, p.2⟩ : S41)) = ps.map (fun p => (⟨p.1, p.2⟩ : S41)) ∧ Below W.heap.size W wr))
  case atStart => exact ⟨ps, [], rfl, ⟨HE.out, Kd.R_nil _ _ _ _ _, by simp, Below.refl _ _⟩⟩
  case round =>
    obtain ⟨qs, acc, hq, HS⟩ := hrel
    obtain ⟨A3, c3, rfl⟩ := Kd.R_slice HS.out.2.1
    cases qs with
    | nil =>
      obtain rfl : _ = Value.iface 33 (.int .i64 k) := HS.out.1
      go_wp2
      go_ret
      exact ⟨_, rfl, by have := HS.out.2.2.1; rw [List.map_nil, List.append_nil] at this; rw [← this]; exact HS.out.2.1, HS.out.2.2.2⟩
    | cons p qs =>
      obtain ⟨b, vi, rfl, hb, hE⟩ := HS.out.1
      have hbk := blk_below hb HS.out.2.2.2
      have hx0 := blk_cell hbk 0
      have hx1 := blk_cell hbk 1
      have hx2 := blk_cell hbk 2
      simp only [List.getElem?_toArray, List.getElem?_cons_zero, List.getElem?_cons_succ] at hx0 hx1 hx2
      have HBK := Aside0.mk hbk
      have HBW := Aside0.mk hb
      have HN := Aside0.mk hE
      obtain ⟨u, x, rfl⟩ := hE.iface
      clear hE hb hbk
      have hlen : acc.length ≤ 1000 := by have := congrArg List.length HS.out.2.2.1; simp at this; omega
      go_wp2_with (first
        | ((with_reducible refine gate_builtin (b := .append) (xs := #[.tmp 14, .tmp 19]) rfl ?_); at_builtin; refine Kd.R_append k41 (w0 := W) W.heap.size rfl (.tmp 14) (.tmp 19) 38 41 (.agg #[(.string ⟨#[]⟩), (.int .i64 0)]) 24 rfl Tryd.underlying38 info41 rfl (by decide) (by omega) (.slice A3 acc.length c3) acc (⟨p.1, p.2⟩ : S41) [.string p.1, .int .i64 p.2] (fun _ => True) (fun _ => False) rfl rfl ?aP (fun _ hk => hk.elim) ?aF ?aO ?aB ?aS ?aL ?_; (case aP => exact k41_mkM _ _ _ (⟨p.1, p.2⟩ : S41)); (case aF => exact (fun _ _ => trivial)); (case aO => exact HS.out.2.1); (case aB => exact HS.out.2.2.2); (case aS => exact HS.out.2.2.2.size); (case aL => omega); intro v2 w2 ho hb hg hat; have HB2 := Aside0.mk hb; have HO2 := Aside0.mk ho; have hbk2 := blk_grown HBK.out hg (by intro e; exact absurd (Kd.R_base HS.out.2.1 b e.symm) (by have := blk_lt HBW.out; omega)); have hy0 := blk_cell hbk2 2; simp only [List.getElem?_toArray, List.getElem?_cons_zero, List.getElem?_cons_succ] at hy0; clear ho hb hg hat))
      go_roundg (qs.length + 1)
      case measure => rw [hq]; simp
      case rel => exact ⟨qs, acc ++ [⟨p.1, p.2⟩], rfl, ⟨HN.out, HO2.out, by have := HS.out.2.2.1; rw [← this]; simp, HB2.out⟩⟩
def itoaS (n : Int) : ByteArray := ⟨#[(48 + n.toNat).toUInt8]⟩
set_option maxHeartbeats 1000000 in
set_option maxRecDepth 100000 in
theorem small_calls (n : Int) (h0 : 0 ≤ n) (h1 : n < 10) (W : World) : Calls Tryd.prog 108 #[.int .i64 n] W fun e w' => e = .returned (.string (itoaS n)) ∧ Drawn0 W w' := by
  have hk : n = 0 ∨ n = 1 ∨ n = 2 ∨ n = 3 ∨ n = 4 ∨ n = 5 ∨ n = 6 ∨ n = 7 ∨ n = 8 ∨ n = 9 := by omega
  clear h0 h1
  rcases hk with rfl | rfl | rfl | rfl | rfl | rfl | rfl | rfl | rfl | rfl
  all_goals
    go_enter Tryd.func108, Tryd.ntmps108
    go_wp2
    go_ret
    exact ⟨rfl, ⟨0, rfl⟩⟩
set_option maxHeartbeats 1000000 in
set_option maxRecDepth 100000 in
theorem FormatInt_calls (n : Int) (h0 : 0 ≤ n) (h1 : n < 10) (W : World) : Calls Tryd.prog 101 #[.int .i64 n, .int .i64 10] W fun e w' => e = .returned (.string (itoaS n)) ∧ Drawn0 W w' := by
  have a0 := decide_eq_true h0
  have a1 := decide_eq_true (show n < 100 by omega)
  have HS := Aside0.mk (fun W => small_calls n h0 h1 W)
  clear h0 h1
  go_enter Tryd.func101, Tryd.ntmps101
  go_wp2_with (first | (go_at_call 108; (with_reducible refine (HS.out _).mono ?_); rintro e w' ⟨rfl, ⟨nd, rfl⟩⟩))
  go_ret
  exact ⟨rfl, ⟨_, rfl⟩⟩
set_option maxHeartbeats 1000000 in
theorem Itoa_calls (n : Int) (h0 : 0 ≤ n) (h1 : n < 10) (W : World) : Calls Tryd.prog 54 #[.int .i64 n] W fun e w' => e = .returned (.string (itoaS n)) ∧ Drawn0 W w' := by
  have HF := Aside0.mk (fun W => FormatInt_calls n h0 h1 W)
  clear h0 h1
  have HI : Aside0 (∀ W, Calls Tryd.prog 84 #[.int .i64 n] W fun e w' => e = .returned (.string (itoaS n)) ∧ Drawn0 W w') := ⟨fun W => by
    go_enter Tryd.func84, Tryd.ntmps84
    go_wp2_with (first | (go_at_call 101; (with_reducible refine (HF.out _).mono ?_); rintro e w' ⟨rfl, ⟨nd, rfl⟩⟩))
    go_ret
    exact ⟨rfl, ⟨_, rfl⟩⟩⟩
  go_enter Tryd.func54, Tryd.ntmps54
  go_wp2_with (first | (go_at_call 84; (with_reducible refine (HI.out _).mono ?_); rintro e w' ⟨rfl, ⟨nd, rfl⟩⟩))
  go_ret
  exact ⟨rfl, ⟨_, rfl⟩⟩
def placeT (p : S41) : ByteArray := ((p.f0 ++ ⟨#[32]⟩) ++ itoaS p.f1) ++ ⟨#[58, 32]⟩
def pathT (l : List S41) (n : Nat) : ByteArray := (l.take n).foldl (fun out p => out ++ placeT p) ⟨#[]⟩
theorem pathT_succ (l : List S41) (i : Int) (h0 : 0 ≤ i) (h1 : i < l.length) : pathT l (i + 1).toNat = pathT l i.toNat ++ placeT (rd_T41 l i) := by
  have hi : i.toNat < l.length := by omega
  unfold pathT rd_T41
  rw [show (i + 1).toNat = i.toNat + 1 by omega, List.take_add_one, List.foldl_append, List.getElem?_eq_getElem hi, List.getD_eq_getElem?_getD, List.getElem?_eq_getElem hi]
  rfl
theorem wordOf_size (k : Int) (h0 : 0 ≤ k) (h1 : k < 15) : (wordOf k).size ≤ 11 := by
  have hk : k = 0 ∨ k = 1 ∨ k = 2 ∨ k = 3 ∨ k = 4 ∨ k = 5 ∨ k = 6 ∨ k = 7 ∨ k = 8 ∨ k = 9 ∨ k = 10 ∨ k = 11 ∨ k = 12 ∨ k = 13 ∨ k = 14 := by omega
  rcases hk with rfl | rfl | rfl | rfl | rfl | rfl | rfl | rfl | rfl | rfl | rfl | rfl | rfl | rfl | rfl <;> decide
theorem placeT_size (p : S41) : (placeT p).size = p.f0.size + 4 := by
  unfold placeT
  simp only [ByteArray.size_append]
  rfl
theorem pathT_size (l : List S41) (B : Nat) (h : ∀ p ∈ l, p.f0.size ≤ B) (n : Nat) (hn : n ≤ l.length) : (pathT l n).size ≤ (B + 4) * n := by
  induction n with
  | zero => exact Nat.le_refl _
  | succ n ih =>
    have e := pathT_succ l (n : Int) (by omega) (by omega)
    rw [show ((n : Int) + 1).toNat = n + 1 by omega, Int.toNat_natCast] at e
    rw [e, ByteArray.size_append, placeT_size]
    have hm : rd_T41 l (n : Int) ∈ l := by unfold rd_T41; rw [Int.toNat_natCast, List.getD_eq_getElem?_getD, List.getElem?_eq_getElem (by omega)]; exact List.getElem_mem _
    have := h _ hm
    have := ih (by omega)
    rw [Nat.mul_succ]; omega
theorem text_next {w w1 w' : World} {n : Nat} {u0 u1 : Value} (h : w1.cell? ⟨n, 0, none⟩ = some u0 ∧ w1.cell? ⟨n, 1, none⟩ = some u1 ∧ n < w1.heap.size ∧ Below w.heap.size w w1) (hb : Below w1.heap.size w1 w') :
    w'.cell? ⟨n, 0, none⟩ = some u0 ∧ w'.cell? ⟨n, 1, none⟩ = some u1 ∧ n < w'.heap.size ∧ Below w.heap.size w w' :=
  ⟨(hb.cell (p := ⟨n, 0, none⟩) h.2.2.1).trans h.1, (hb.cell (p := ⟨n, 1, none⟩) h.2.2.1).trans h.2.1, Nat.lt_of_lt_of_le h.2.2.1 hb.size, below_step h.2.2.2 hb⟩
set_option maxHeartbeats 4000000 in
set_option maxRecDepth 100000 in
theorem Text_calls (ps : List (ByteArray × Int)) (v : Value) (k : Int) (W : World) (hE : ErrIs W ps v (.iface 33 (.int .i64 k))) (hg : TypeVar W) (hl : ps.length ≤ 1000) (hn : ∀ p ∈ ps, 0 ≤ p.2 ∧ p.2 < 10) (hz : ∀ p ∈ ps, p.1.size ≤ 1000) (k0 : 0 ≤ k) (k1 : k < 15) :
    Calls Tryd.prog 22 #[v] W fun e w' => e = .returned (.string (pathT (ps.map fun p => ⟨p.1, p.2⟩) ps.length ++ wordOf k)) ∧ Below W.heap.size W w' := by
  have HP := Aside0.mk (Path_calls ps v k W hE hl)
  have HE := Aside0.mk hE
  have HG := Aside0.mk hg
  obtain ⟨l, hle⟩ : ∃ l : List S41, l = ps.map fun p => (⟨p.1, p.2⟩ : S41) := ⟨_, rfl⟩
  have hll : l.length = ps.length := by rw [hle]; simp
  have HNN : Aside0 (∀ i : Int, 0 ≤ i → i < l.length → 0 ≤ (rd_T41 l i).f1 ∧ (rd_T41 l i).f1 < 10) := ⟨fun i h0 h1 => by
    have hi : i.toNat < l.length := by omega
    have hm : rd_T41 l i ∈ l := by unfold rd_T41; rw [List.getD_eq_getElem?_getD, List.getElem?_eq_getElem hi]; exact List.getElem_mem _
    generalize rd_T41 l i = z at hm ⊢
    rw [hle] at hm
    obtain ⟨p, hp, he⟩ := List.mem_map.1 hm
    rw [← he]; exact hn p hp⟩
  have HZZ : Aside0 (∀ p ∈ l, p.f0.size ≤ 1000) := ⟨fun p hp => by rw [hle] at hp; obtain ⟨q, hq, rfl⟩ := List.mem_map.1 hp; exact hz q hq⟩
  rw [← hle] at HP ⊢
  rw [← hll]
  have HK0 := Aside0.mk k0
  have HK1 := Aside0.mk k1
  have hl2 : l.length ≤ 1000 := by omega
  clear hE hg hn k0 k1 hle hll hl hz
  go_enter Tryd.func22, Tryd.ntmps22
  go_wp2_with (first | (go_at_call 24; refine HP.out.mono ?_; rintro e w1 ⟨v1, rfl, ho, hb⟩; obtain ⟨A1, c1, rfl⟩ := Kd.R_slice ho; have HO := Aside0.mk ho; have HB := Aside0.mk hb; clear ho hb))
  go_loopw [3, 9] (fun v3 v9 wr => ∃ i : Int, v9 = .int .i64 i ∧ v3 = .string (pathT l i.toNat) ∧ Aside0 (0 ≤ i ∧ i ≤ l.length ∧ Below w1.heap.size w1 wr)) (fun _ v9 _ => (l.length - intOf v9).toNat)
  case atStart => exact ⟨0, rfl, rfl, ⟨by omega, by omega, Below.refl _ _⟩⟩
  case round =>
    obtain ⟨i, rfl, rfl, HI⟩ := hrel
    have i0 := HI.out.1
    by_cases ci : i < (l.length : Int)
    · have hltb := decide_eq_true ci
      obtain ⟨ad, rfl, hx0, hx1⟩ := at_T41 (Kd.C_below (Kd.R_reads' HO.out).2.2 HI.out.2.2) i i0 ci
      have hm : rd_T41 l i ∈ l := by unfold rd_T41; rw [List.getD_eq_getElem?_getD, List.getElem?_eq_getElem (by omega)]; exact List.getElem_mem _
      have z0 := HZZ.out _ hm
      have z1 := pathT_size l 1000 HZZ.out i.toNat (by omega)
      have z2 : (itoaS (rd_T41 l i).f1).size = 1 := rfl
      have b1 : (rd_T41 l i).f0.size + 1 ≤ 9223372036854775807 := by omega
      have b2 : (rd_T41 l i).f0.size + 1 + (itoaS (rd_T41 l i).f1).size ≤ 9223372036854775807 := by omega
      have b3 : (rd_T41 l i).f0.size + 1 + (itoaS (rd_T41 l i).f1).size + 2 ≤ 9223372036854775807 := by omega
      have b4 : (pathT l i.toNat).size + ((rd_T41 l i).f0.size + 1 + (itoaS (rd_T41 l i).f1).size + 2) ≤ 9223372036854775807 := by omega
      have n1 : ¬ 9223372036854775807 < (rd_T41 l i).f0.size + 1 := Nat.not_lt.2 b1
      have n2 : ¬ 9223372036854775807 < (rd_T41 l i).f0.size + 1 + (itoaS (rd_T41 l i).f1).size := Nat.not_lt.2 b2
      have n3 : ¬ 9223372036854775807 < (rd_T41 l i).f0.size + 1 + (itoaS (rd_T41 l i).f1).size + 2 := Nat.not_lt.2 b3
      have n4 : ¬ 9223372036854775807 < (pathT l i.toNat).size + ((rd_T41 l i).f0.size + 1 + (itoaS (rd_T41 l i).f1).size + 2) := Nat.not_lt.2 b4
      have s32 : (ByteArray.mk #[32]).size = 1 := rfl
      have s58 : (ByteArray.mk #[58, 32]).size = 2 := rfl
      have hps := pathT_succ l i i0 ci
      have HPS := Aside0.mk hps
      clear z0 z1 z2 hm hps
      have HIT := Aside0.mk (fun W => Itoa_calls (rd_T41 l i).f1 (HNN.out i i0 ci).1 (HNN.out i i0 ci).2 W)
      go_wp2
      have s0 := below_alloc HI.out.2.2 (.cells #[.string (rd_T41 l i).f0, .int .i64 (rd_T41 l i).f1] 41)
      have s1 : (wr.alloc (.cells #[.string (rd_T41 l i).f0, .int .i64 (rd_T41 l i).f1] 41)).cell? ⟨wr.heap.size, 0, none⟩ = some (.string (rd_T41 l i).f0) := by simp [go_sem]
      have s2 : (wr.alloc (.cells #[.string (rd_T41 l i).f0, .int .i64 (rd_T41 l i).f1] 41)).cell? ⟨wr.heap.size, 1, none⟩ = some (.int .i64 (rd_T41 l i).f1) := by simp [go_sem]
      have s3 : wr.heap.size < (wr.alloc (.cells #[.string (rd_T41 l i).f0, .int .i64 (rd_T41 l i).f1] 41)).heap.size := by simp
      generalize wr.alloc (.cells #[.string (rd_T41 l i).f0, .int .i64 (rd_T41 l i).f1] 41) = W2 at *
      go_region_held3 (fun w' => w'.cell? ⟨wr.heap.size, 0, none⟩ = some (.string (rd_T41 l i).f0) ∧ w'.cell? ⟨wr.heap.size, 1, none⟩ = some (.int .i64 (rd_T41 l i).f1) ∧ wr.heap.size < w'.heap.size ∧ Below w1.heap.size w1 w')
        (first | exact ⟨s1, s2, s3, below_drew s0⟩ | exact ⟨s1, s2, s3, pw_below_drewN s0 _⟩ | exact hN)
        (first | (go_at_call 54; (with_reducible refine (HIT.out _).mono ?_); rintro e w' ⟨rfl, ⟨nd, rfl⟩⟩; have hN := text_next (by assumption) (pw_below_drewN (Below.refl _ _) nd)))
      all_goals
        rename_i hH
        have HB2 := Aside0.mk hH.2.2.2
        clear hH
        go_wp2
        go_roundw
        case rel => exact ⟨i + 1, by go_num, by rw [HPS.out]; rfl, ⟨by omega, by omega, HB2.out⟩⟩
        case measure => simp [intOf]; omega
    · have hltb := decide_eq_false ci
      obtain rfl : i = (l.length : Int) := by have := HI.out.2.1; omega
      have HEK := Aside0.mk (fun W' (hb : Below W.heap.size W W') => Kind_calls ps v k W' (HE.out.below hb) (HG.out.below hb))
      have HBW := Aside0.mk (below_step HB.out HI.out.2.2)
      have z1 := pathT_size l 1000 HZZ.out l.length (Nat.le_refl _)
      have z3 : (wordOf k).size ≤ 11 := wordOf_size k HK0.out HK1.out
      have b5 : (pathT l l.length).size + (wordOf k).size ≤ 9223372036854775807 := by omega
      clear z1 z3
      rw [Int.toNat_natCast]
      go_wp2_with (first | (go_at_call 20; go_loud (refine (HEK.out _ HBW.out).mono ?_); rintro e w' ⟨rfl, hb⟩; have HB3 := Aside0.mk (below_step HBW.out hb); clear hb) | (go_at_call 55; go_loud (refine (Error_calls k HK0.out HK1.out _).mono ?_); rintro e w' ⟨rfl, hb⟩; have HB4 := Aside0.mk (below_step HB3.out hb); clear hb))
      go_ret
      exact ⟨rfl, HB4.out⟩
set_option maxHeartbeats 4000000 in
set_option maxRecDepth 100000 in
theorem PathZ_calls (ps : List (ByteArray × Int)) (v : Value) (T : TypeId) (y : Value) (hz : ∀ w, (Instr.typeAssert (.iface T y) 31 100 true).run Tryd.prog w = .ok (.tuple #[.pointer none, .bool false]) w) (W : World) (hE : ErrIs W ps v (.iface T y)) (hl : ps.length ≤ 1000) :
    Calls Tryd.prog 24 #[v] W fun e w' => ∃ v', e = .returned v' ∧ Kd.R k41 41 w' W.heap.size (fun _ => True) v' (ps.map fun p => ⟨p.1, p.2⟩) ∧ Below W.heap.size W w' := by
  have HE := Aside0.mk hE
  have a100 := e_assert100
  have a33 := hz
  clear hE
  go_enter Tryd.func24, Tryd.ntmps24
  go_wp2
  go_loopg [0, 3] (ps.length + 1) (fun kq v0 v3 wr => ∃ (qs : List (ByteArray × Int)) (acc : List S41), kq = qs.length + 1 ∧ Aside0 (ErrIs W qs v0 (.iface T y) ∧ Kd.R k41 41 wr W.heap.size (fun _ => True) v3 acc ∧ acc ++ qs.map (fun p => (⟨p.1, p.2⟩ : S41)) = ps.map (fun p => (⟨p.1, p.2⟩ : S41)) ∧ Below W.heap.size W wr))
  case atStart => exact ⟨ps, [], rfl, ⟨HE.out, Kd.R_nil _ _ _ _ _, by simp, Below.refl _ _⟩⟩
  case round =>
    obtain ⟨qs, acc, hq, HS⟩ := hrel
    obtain ⟨A3, c3, rfl⟩ := Kd.R_slice HS.out.2.1
    cases qs with
    | nil =>
      obtain rfl : _ = Value.iface T y := HS.out.1
      go_wp2
      go_ret
      exact ⟨_, rfl, by have := HS.out.2.2.1; rw [List.map_nil, List.append_nil] at this; rw [← this]; exact HS.out.2.1, HS.out.2.2.2⟩
    | cons p qs =>
      obtain ⟨b, vi, rfl, hb, hE⟩ := HS.out.1
      have hbk := blk_below hb HS.out.2.2.2
      have hx0 := blk_cell hbk 0
      have hx1 := blk_cell hbk 1
      have hx2 := blk_cell hbk 2
      simp only [List.getElem?_toArray, List.getElem?_cons_zero, List.getElem?_cons_succ] at hx0 hx1 hx2
      have HBK := Aside0.mk hbk
      have HBW := Aside0.mk hb
      have HN := Aside0.mk hE
      obtain ⟨u, x, rfl⟩ := hE.iface
      clear hE hb hbk
      have hlen : acc.length ≤ 1000 := by have := congrArg List.length HS.out.2.2.1; simp at this; omega
      go_wp2_with (first
        | ((with_reducible refine gate_builtin (b := .append) (xs := #[.tmp 14, .tmp 19]) rfl ?_); at_builtin; refine Kd.R_append k41 (w0 := W) W.heap.size rfl (.tmp 14) (.tmp 19) 38 41 (.agg #[(.string ⟨#[]⟩), (.int .i64 0)]) 24 rfl Tryd.underlying38 info41 rfl (by decide) (by omega) (.slice A3 acc.length c3) acc (⟨p.1, p.2⟩ : S41) [.string p.1, .int .i64 p.2] (fun _ => True) (fun _ => False) rfl rfl ?aP (fun _ hk => hk.elim) ?aF ?aO ?aB ?aS ?aL ?_; (case aP => exact k41_mkM _ _ _ (⟨p.1, p.2⟩ : S41)); (case aF => exact (fun _ _ => trivial)); (case aO => exact HS.out.2.1); (case aB => exact HS.out.2.2.2); (case aS => exact HS.out.2.2.2.size); (case aL => omega); intro v2 w2 ho hb hg hat; have HB2 := Aside0.mk hb; have HO2 := Aside0.mk ho; have hbk2 := blk_grown HBK.out hg (by intro e; exact absurd (Kd.R_base HS.out.2.1 b e.symm) (by have := blk_lt HBW.out; omega)); have hy0 := blk_cell hbk2 2; simp only [List.getElem?_toArray, List.getElem?_cons_zero, List.getElem?_cons_succ] at hy0; clear ho hb hg hat))
      go_roundg (qs.length + 1)
      case measure => rw [hq]; simp
      case rel => exact ⟨qs, acc ++ [⟨p.1, p.2⟩], rfl, ⟨HN.out, HO2.out, by have := HS.out.2.2.1; rw [← this]; simp, HB2.out⟩⟩
set_option maxRecDepth 100000
theorem e_assertNil (w : World) : (Instr.typeAssert .nilIface 31 100 true).run Tryd.prog w = .ok (.tuple #[.pointer none, .bool false]) w := by kernel_rfl
theorem Path_nil (W : World) : Calls Tryd.prog 24 #[.nilIface] W fun e w' => e = .returned (.slice none 0 0) ∧ w' = W := by
  have an := e_assertNil
  go_enter Tryd.func24, Tryd.ntmps24
  go_wp2
  go_loopw [0, 3] (fun v0 v3 wr => v0 = .nilIface ∧ v3 = .slice none 0 0 ∧ Aside0 (wr = W)) (fun _ _ _ => 0)
  case atStart => exact ⟨rfl, rfl, ⟨rfl⟩⟩
  case round =>
    obtain ⟨rfl, rfl, HW⟩ := hrel
    go_wp2
    go_ret
    exact ⟨rfl, HW.out⟩
theorem fIs_ok (T : TypeId) (y : Value) (W : World) : Calls Tryd.prog 21 #[.iface T y, .int .i64 0] W fun e w' => e = .returned (.bool false) ∧ w' = W := by
  go_enter Tryd.func21, Tryd.ntmps21
  go_wp2
  go_ret
  exact ⟨rfl, rfl⟩
theorem Text_nil (W : World) : Calls Tryd.prog 22 #[.nilIface] W fun e w' => e = .returned (.string ⟨#[111, 107]⟩) ∧ Below W.heap.size W w' := by
  have PN := Aside0.mk (Path_nil W)
  have KN := Aside0.mk (Kind_nil W)
  have ER := Aside0.mk (Error_calls 0 (by decide) (by decide) W)
  have s0 : (ByteArray.mk #[]).size = 0 := rfl
  have s2 : (wordOf 0).size = 2 := by decide
  have e2 : (ByteArray.mk #[]) ++ wordOf 0 = ⟨#[111, 107]⟩ := by decide
  go_enter Tryd.func22, Tryd.ntmps22
  go_wp2_with (first | (go_at_call 24; ((with_reducible refine PN.out.mono ?_); rintro e w1 ⟨rfl, hw⟩; obtain rfl := hw.symm)))
  go_loopw [3, 9] (fun v3 v9 wr => v9 = .int .i64 0 ∧ v3 = .string ⟨#[]⟩ ∧ Aside0 (wr = W)) (fun _ _ _ => 0)
  case atStart => exact ⟨rfl, rfl, ⟨rfl⟩⟩
  case round =>
    obtain ⟨rfl, rfl, HW⟩ := hrel
    obtain rfl := HW.out.symm
    go_wp2_with (first | (go_at_call 20; ((with_reducible refine KN.out.mono ?_); rintro e w1 ⟨rfl, hw⟩; obtain rfl := hw.symm)) | (go_at_call 55; ((with_reducible refine ER.out.mono ?_); rintro e w2 ⟨rfl, hb⟩; have HB := Aside0.mk hb; clear hb)))
    go_ret
    exact ⟨by first | rfl | exact congrArg _ (congrArg _ e2), HB.out⟩
open Go
def numS (u : Nat) : ByteArray := ⟨(Lib.decDigits u).toArray⟩
def itoaG (n : Int) : ByteArray := ⟨(Lib.itoa n).toArray⟩
theorem numS_size (u : Nat) (h : u < 18446744073709551616) : (numS u).size ≤ 20 := by
  show (Lib.decDigits u).toArray.size ≤ 20
  rw [List.size_toArray, Lib.decDigits_length]
  exact Lib.nDigits_le20 u h
theorem itoaG_size (n : Int) (h0 : -9223372036854775808 ≤ n) (h1 : n ≤ 9223372036854775807) : (itoaG n).size ≤ 21 := by
  show (Lib.itoa n).toArray.size ≤ 21
  rw [List.size_toArray]
  exact Lib.itoa_length_le n h0 h1
theorem numS_small (u : Nat) (h : u < 10) : numS u = ⟨#[UInt8.ofNat (48 + u)]⟩ := by
  unfold numS
  rw [Lib.decDigits_one h]
theorem numS_big (u : Nat) (h : ¬ u < 10) : numS u = numS (u / 10) ++ ⟨#[UInt8.ofNat (48 + u % 10)]⟩ := by
  unfold numS
  rw [Lib.decDigits, dif_neg h]
  apply ByteArray.ext
  rw [ByteArray.data_append]
  simp
theorem itoaG_nonneg (n : Int) (h : 0 ≤ n) : itoaG n = numS n.toNat := by
  unfold itoaG numS Lib.itoa
  rw [if_neg (by omega)]
theorem itoaG_neg (n : Int) (h : n < 0) : itoaG n = ⟨#[45]⟩ ++ numS n.natAbs := by
  unfold itoaG numS Lib.itoa
  rw [if_pos h]
  apply ByteArray.ext
  rw [ByteArray.data_append]
  simp
open Go.RowKit
set_option maxRecDepth 100000
def itoaT_ren : Go.Shelf.Ren := ⟨fun | 171 => 54 | 243 => 84 | 246 => 101 | 283 => 108 | 284 => 109 | 285 => 110 | 286 => 111 | 129 => 123 | 317 => 122 | 318 => 124 | 319 => 125 | 320 => 126 | 337 => 133 | 338 => 134 | n => n, fun | 3 => 3 | 9 => 9 | 2 => 2 | 4 => 4 | 171 => 180 | 0 => 0 | 53 => 22 | 37 => 175 | 5 => 5 | 173 => 183 | 212 => 200 | 51 => 201 | 20 => 20 | 213 => 202 | 46 => 174 | 232 => 215 | 233 => 216 | n => n, fun | 17 => 3 | 18 => 4 | 19 => 5 | n => n⟩
theorem itoaT : LaysM.n171 Tryd.prog itoaT_ren where
  mixed := by kernel_rfl
  f129 := Tryd.func123.trans (congrArg some (by kernel_rfl))
  f171 := Tryd.func54.trans (congrArg some (by kernel_rfl))
  f243 := Tryd.func84.trans (congrArg some (by kernel_rfl))
  f246 := Tryd.func101.trans (congrArg some (by kernel_rfl))
  f283 := Tryd.func108.trans (congrArg some (by kernel_rfl))
  f284 := Tryd.func109.trans (congrArg some (by kernel_rfl))
  f285 := Tryd.func110.trans (congrArg some (by kernel_rfl))
  f286 := Tryd.func111.trans (congrArg some (by kernel_rfl))
  f317 := Tryd.func122.trans (congrArg some (by kernel_rfl))
  f318 := Tryd.func124.trans (congrArg some (by kernel_rfl))
  f319 := Tryd.func125.trans (congrArg some (by kernel_rfl))
  f320 := Tryd.func126.trans (congrArg some (by kernel_rfl))
  f337 := Tryd.func133.trans (congrArg some (by kernel_rfl))
  f338 := Tryd.func134.trans (congrArg some (by kernel_rfl))
  t0 := Tryd.underlying0
  a0 := Tryd.isAgg0
  z0 := Tryd.sizeOf0
  v0 := Tryd.zeroValue0
  t2 := Tryd.underlying2
  a2 := Tryd.isAgg2
  z2 := Tryd.sizeOf2
  v2 := Tryd.zeroValue2
  t3 := Tryd.underlying3
  a3 := Tryd.isAgg3
  z3 := Tryd.sizeOf3
  v3 := Tryd.zeroValue3
  t4 := Tryd.underlying4
  a4 := Tryd.isAgg4
  z4 := Tryd.sizeOf4
  v4 := Tryd.zeroValue4
  t5 := Tryd.underlying5
  a5 := Tryd.isAgg5
  z5 := Tryd.sizeOf5
  v5 := Tryd.zeroValue5
  t9 := Tryd.underlying9
  a9 := Tryd.isAgg9
  z9 := Tryd.sizeOf9
  v9 := Tryd.zeroValue9
  t20 := Tryd.underlying20
  a20 := Tryd.isAgg20
  z20 := Tryd.sizeOf20
  v20 := Tryd.zeroValue20
  t37 := Tryd.underlying175
  a37 := Tryd.isAgg175
  z37 := Tryd.sizeOf175
  v37 := Tryd.zeroValue175
  t46 := Tryd.underlying174
  a46 := Tryd.isAgg174
  z46 := Tryd.sizeOf174
  v46 := Tryd.zeroValue174
  t51 := Tryd.underlying201
  a51 := Tryd.isAgg201
  z51 := Tryd.sizeOf201
  v51 := Tryd.zeroValue201
  t53 := Tryd.underlying22
  a53 := Tryd.isAgg22
  z53 := Tryd.sizeOf22
  v53 := Tryd.zeroValue22
  t171 := Tryd.underlying180
  a171 := Tryd.isAgg180
  z171 := Tryd.sizeOf180
  v171 := Tryd.zeroValue180
  t173 := Tryd.underlying183
  a173 := Tryd.isAgg183
  z173 := Tryd.sizeOf183
  v173 := Tryd.zeroValue183
  t212 := Tryd.underlying200
  a212 := Tryd.isAgg200
  z212 := Tryd.sizeOf200
  v212 := Tryd.zeroValue200
  t213 := Tryd.underlying202
  a213 := Tryd.isAgg202
  z213 := Tryd.sizeOf202
  t232 := Tryd.underlying215
  a232 := Tryd.isAgg215
  z232 := Tryd.sizeOf215
  v232 := Tryd.zeroValue215
  t233 := Tryd.underlying216
  a233 := Tryd.isAgg216
  z233 := Tryd.sizeOf216
  v233 := Tryd.zeroValue216
  g17 := by kernel_rfl
  g18 := by kernel_rfl
  g19 := by kernel_rfl
  i0 := by kernel_rfl
  i2 := by kernel_rfl
  i3 := by kernel_rfl
  i4 := by kernel_rfl
  i5 := by kernel_rfl
  i9 := by kernel_rfl
  i20 := by kernel_rfl
  i37 := by kernel_rfl
  i46 := by kernel_rfl
  i51 := by kernel_rfl
  i53 := by kernel_rfl
  i171 := by kernel_rfl
  i173 := by kernel_rfl
  i212 := by kernel_rfl
  i232 := by kernel_rfl
  i233 := by kernel_rfl
  m17 := by kernel_rfl
  m18 := by kernel_rfl
  m19 := by kernel_rfl
def Tab10 (W : World) : Prop := Lib.TabIs Tryd.prog W "internal/strconv.uint64pow10" .u64 Lib.pow10Tab
theorem Tab10.below {w w' : World} (h : Tab10 w) (hb : Below w.heap.size w w') : Tab10 w' := Lib.tabBelow_of_tabIs h w' hb
theorem ItoaG_calls (n : Int) (h0 : -9223372036854775808 ≤ n) (h1 : n ≤ 9223372036854775807) (W : World) (hT : Tab10 W) :
    Calls Tryd.prog 54 #[.int .i64 n] W fun e w' => e = .returned (.string (itoaG n)) ∧ Below W.heap.size W w' := by
  refine (Any.strconv_Itoa itoaT n h0 h1 W hT).mono ?_
  rintro e w' ⟨he, k, os, rfl⟩
  exact ⟨he, Lib.below_grow W.heap.size W (Nat.le_refl _) k os⟩
def placeG (p : S41) : ByteArray := ((p.f0 ++ ⟨#[32]⟩) ++ itoaG p.f1) ++ ⟨#[58, 32]⟩
def pathG (l : List S41) (n : Nat) : ByteArray := (l.take n).foldl (fun out p => out ++ placeG p) ⟨#[]⟩
theorem pathG_succ (l : List S41) (i : Int) (h0 : 0 ≤ i) (h1 : i < l.length) : pathG l (i + 1).toNat = pathG l i.toNat ++ placeG (rd_T41 l i) := by
  have hi : i.toNat < l.length := by omega
  unfold pathG rd_T41
  rw [show (i + 1).toNat = i.toNat + 1 by omega, List.take_add_one, List.foldl_append, List.getElem?_eq_getElem hi, List.getD_eq_getElem?_getD, List.getElem?_eq_getElem hi]
  rfl
theorem placeG_size (p : S41) (h0 : -9223372036854775808 ≤ p.f1) (h1 : p.f1 ≤ 9223372036854775807) : (placeG p).size ≤ p.f0.size + 24 := by
  unfold placeG
  simp only [ByteArray.size_append]
  have := itoaG_size p.f1 h0 h1
  have e1 : (ByteArray.mk #[32]).size = 1 := rfl
  have e2 : (ByteArray.mk #[58, 32]).size = 2 := rfl
  omega
theorem pathG_size (l : List S41) (B : Nat) (h : ∀ p ∈ l, p.f0.size ≤ B) (hi : ∀ p ∈ l, -9223372036854775808 ≤ p.f1 ∧ p.f1 ≤ 9223372036854775807) (n : Nat) (hn : n ≤ l.length) : (pathG l n).size ≤ (B + 24) * n := by
  induction n with
  | zero => exact Nat.le_refl _
  | succ n ih =>
    have e := pathG_succ l (n : Int) (by omega) (by omega)
    rw [show ((n : Int) + 1).toNat = n + 1 by omega, Int.toNat_natCast] at e
    have hm : rd_T41 l (n : Int) ∈ l := by unfold rd_T41; rw [Int.toNat_natCast, List.getD_eq_getElem?_getD, List.getElem?_eq_getElem (by omega)]; exact List.getElem_mem _
    rw [e, ByteArray.size_append]
    have := placeG_size _ (hi _ hm).1 (hi _ hm).2
    have := h _ hm
    have := ih (by omega)
    rw [Nat.mul_succ]; omega
theorem text_bel {w1 w' : World} {n : Nat} {u0 u1 : Value} (h : w'.cell? ⟨n, 0, none⟩ = some u0 ∧ w'.cell? ⟨n, 1, none⟩ = some u1 ∧ n < w'.heap.size ∧ Below w1.heap.size w1 w') : Below w1.heap.size w1 w' := h.2.2.2
set_option maxHeartbeats 4000000 in
set_option maxRecDepth 100000 in
theorem TextG_calls (ps : List (ByteArray × Int)) (v : Value) (T : TypeId) (y : Value) (hz0 : ∀ w, (Instr.typeAssert (.iface T y) 31 100 true).run Tryd.prog w = .ok (.tuple #[.pointer none, .bool false]) w) (k : Int) (W : World) (hTb : Tab10 W) (hE : ErrIs W ps v (.iface T y)) (hkd : ∀ W', Below W.heap.size W W' → Calls Tryd.prog 20 #[v] W' fun e w' => e = .returned (.int .i64 k) ∧ Below W'.heap.size W' w') (hl : ps.length ≤ 1000) (hn : ∀ p ∈ ps, -9223372036854775808 ≤ p.2 ∧ p.2 ≤ 9223372036854775807) (hz : ∀ p ∈ ps, p.1.size ≤ 1000) (k0 : 0 ≤ k) (k1 : k < 15) :
    Calls Tryd.prog 22 #[v] W fun e w' => e = .returned (.string (pathG (ps.map fun p => ⟨p.1, p.2⟩) ps.length ++ wordOf k)) ∧ Below W.heap.size W w' := by
  have HP := Aside0.mk (PathZ_calls ps v T y hz0 W hE hl)
  have HE := Aside0.mk hE
  have HKD := Aside0.mk hkd
  have HTB := Aside0.mk hTb
  obtain ⟨l, hle⟩ : ∃ l : List S41, l = ps.map fun p => (⟨p.1, p.2⟩ : S41) := ⟨_, rfl⟩
  have hll : l.length = ps.length := by rw [hle]; simp
  have HNN : Aside0 (∀ i : Int, 0 ≤ i → i < l.length → -9223372036854775808 ≤ (rd_T41 l i).f1 ∧ (rd_T41 l i).f1 ≤ 9223372036854775807) := ⟨fun i h0 h1 => by
    have hi : i.toNat < l.length := by omega
    have hm : rd_T41 l i ∈ l := by unfold rd_T41; rw [List.getD_eq_getElem?_getD, List.getElem?_eq_getElem hi]; exact List.getElem_mem _
    generalize rd_T41 l i = z at hm ⊢
    rw [hle] at hm
    obtain ⟨p, hp, he⟩ := List.mem_map.1 hm
    rw [← he]; exact hn p hp⟩
  have HN2 : Aside0 (∀ p ∈ l, -9223372036854775808 ≤ p.f1 ∧ p.f1 ≤ 9223372036854775807) := ⟨fun p hp => by rw [hle] at hp; obtain ⟨q, hq, rfl⟩ := List.mem_map.1 hp; exact hn q hq⟩
  have HZZ : Aside0 (∀ p ∈ l, p.f0.size ≤ 1000) := ⟨fun p hp => by rw [hle] at hp; obtain ⟨q, hq, rfl⟩ := List.mem_map.1 hp; exact hz q hq⟩
  rw [← hle] at HP ⊢
  rw [← hll]
  have HK0 := Aside0.mk k0
  have HK1 := Aside0.mk k1
  have hl2 : l.length ≤ 1000 := by omega
  clear hE hkd hn hTb k0 k1 hle hll hl hz
  go_enter Tryd.func22, Tryd.ntmps22
  go_wp2_with (first | (go_at_call 24; refine HP.out.mono ?_; rintro e w1 ⟨v1, rfl, ho, hb⟩; obtain ⟨A1, c1, rfl⟩ := Kd.R_slice ho; have HO := Aside0.mk ho; have HB := Aside0.mk hb; clear ho hb))
  go_loopw [3, 9] (fun v3 v9 wr => ∃ i : Int, v9 = .int .i64 i ∧ v3 = .string (pathG l i.toNat) ∧ Aside0 (0 ≤ i ∧ i ≤ l.length ∧ Below w1.heap.size w1 wr)) (fun _ v9 _ => (l.length - intOf v9).toNat)
  case atStart => exact ⟨0, rfl, rfl, ⟨by omega, by omega, Below.refl _ _⟩⟩
  case round =>
    obtain ⟨i, rfl, rfl, HI⟩ := hrel
    have i0 := HI.out.1
    by_cases ci : i < (l.length : Int)
    · have hltb := decide_eq_true ci
      obtain ⟨ad, rfl, hx0, hx1⟩ := at_T41 (Kd.C_below (Kd.R_reads' HO.out).2.2 HI.out.2.2) i i0 ci
      have hm : rd_T41 l i ∈ l := by unfold rd_T41; rw [List.getD_eq_getElem?_getD, List.getElem?_eq_getElem (by omega)]; exact List.getElem_mem _
      have z0 := HZZ.out _ hm
      have z1 := pathG_size l 1000 HZZ.out HN2.out i.toNat (by omega)
      have z2 := itoaG_size (rd_T41 l i).f1 (HNN.out i i0 ci).1 (HNN.out i i0 ci).2
      have b1 : (rd_T41 l i).f0.size + 1 ≤ 9223372036854775807 := by omega
      have b2 : (rd_T41 l i).f0.size + 1 + (itoaG (rd_T41 l i).f1).size ≤ 9223372036854775807 := by omega
      have b3 : (rd_T41 l i).f0.size + 1 + (itoaG (rd_T41 l i).f1).size + 2 ≤ 9223372036854775807 := by omega
      have b4 : (pathG l i.toNat).size + ((rd_T41 l i).f0.size + 1 + (itoaG (rd_T41 l i).f1).size + 2) ≤ 9223372036854775807 := by omega
      have n1 : ¬ 9223372036854775807 < (rd_T41 l i).f0.size + 1 := Nat.not_lt.2 b1
      have n2 : ¬ 9223372036854775807 < (rd_T41 l i).f0.size + 1 + (itoaG (rd_T41 l i).f1).size := Nat.not_lt.2 b2
      have n3 : ¬ 9223372036854775807 < (rd_T41 l i).f0.size + 1 + (itoaG (rd_T41 l i).f1).size + 2 := Nat.not_lt.2 b3
      have n4 : ¬ 9223372036854775807 < (pathG l i.toNat).size + ((rd_T41 l i).f0.size + 1 + (itoaG (rd_T41 l i).f1).size + 2) := Nat.not_lt.2 b4
      have s32 : (ByteArray.mk #[32]).size = 1 := rfl
      have s58 : (ByteArray.mk #[58, 32]).size = 2 := rfl
      have hps := pathG_succ l i i0 ci
      have HPS := Aside0.mk hps
      clear z0 z1 z2 hm hps
      have HIT := Aside0.mk (fun W' (hb : Below w1.heap.size w1 W') => ItoaG_calls (rd_T41 l i).f1 (HNN.out i i0 ci).1 (HNN.out i i0 ci).2 W' (HTB.out.below (below_step HB.out hb)))
      go_wp2
      have s0 := below_alloc HI.out.2.2 (.cells #[.string (rd_T41 l i).f0, .int .i64 (rd_T41 l i).f1] 41)
      have s1 : (wr.alloc (.cells #[.string (rd_T41 l i).f0, .int .i64 (rd_T41 l i).f1] 41)).cell? ⟨wr.heap.size, 0, none⟩ = some (.string (rd_T41 l i).f0) := by simp [go_sem]
      have s2 : (wr.alloc (.cells #[.string (rd_T41 l i).f0, .int .i64 (rd_T41 l i).f1] 41)).cell? ⟨wr.heap.size, 1, none⟩ = some (.int .i64 (rd_T41 l i).f1) := by simp [go_sem]
      have s3 : wr.heap.size < (wr.alloc (.cells #[.string (rd_T41 l i).f0, .int .i64 (rd_T41 l i).f1] 41)).heap.size := by simp
      generalize wr.alloc (.cells #[.string (rd_T41 l i).f0, .int .i64 (rd_T41 l i).f1] 41) = W2 at *
      go_region_held3 (fun w' => w'.cell? ⟨wr.heap.size, 0, none⟩ = some (.string (rd_T41 l i).f0) ∧ w'.cell? ⟨wr.heap.size, 1, none⟩ = some (.int .i64 (rd_T41 l i).f1) ∧ wr.heap.size < w'.heap.size ∧ Below w1.heap.size w1 w')
        (first | exact ⟨s1, s2, s3, below_drew s0⟩ | exact ⟨s1, s2, s3, pw_below_drewN s0 _⟩ | exact hN)
        (first | (go_at_call 54; (with_reducible refine (HIT.out _ (text_bel (by assumption))).mono ?_); rintro e w' ⟨rfl, hbI⟩; have hN := text_next (by assumption) hbI; clear hbI))
      all_goals
        rename_i hH
        have HB2 := Aside0.mk hH.2.2.2
        clear hH
        go_wp2
        go_roundw
        case rel => exact ⟨i + 1, by go_num, by rw [HPS.out]; rfl, ⟨by omega, by omega, HB2.out⟩⟩
        case measure => simp [intOf]; omega
    · have hltb := decide_eq_false ci
      obtain rfl : i = (l.length : Int) := by have := HI.out.2.1; omega
      have HEK := Aside0.mk (fun W' (hb : Below W.heap.size W W') => HKD.out W' hb)
      have HBW := Aside0.mk (below_step HB.out HI.out.2.2)
      have z1 := pathG_size l 1000 HZZ.out HN2.out l.length (Nat.le_refl _)
      have z3 : (wordOf k).size ≤ 11 := wordOf_size k HK0.out HK1.out
      have b5 : (pathG l l.length).size + (wordOf k).size ≤ 9223372036854775807 := by omega
      clear z1 z3
      rw [Int.toNat_natCast]
      go_wp2_with (first | (go_at_call 20; go_loud (refine (HEK.out _ HBW.out).mono ?_); rintro e w' ⟨rfl, hb⟩; have HB3 := Aside0.mk (below_step HBW.out hb); clear hb) | (go_at_call 55; go_loud (refine (Error_calls k HK0.out HK1.out _).mono ?_); rintro e w' ⟨rfl, hb⟩; have HB4 := Aside0.mk (below_step HB3.out hb); clear hb))
      go_ret
      exact ⟨rfl, HB4.out⟩
end Go.Proofs.YtgeldmhgbnamcaaDoor.P
end
section
namespace Go.Proofs.YtgeldmhgbnamcaaDoor.Q
open Go.RowKit Go.Proofs.YtgeldmhgbnamcaaDoorW.PrintWords Go.Proofs.YtgeldmhgbnamcaaDoorW.PrintLast Go.Proofs.YtgeldmhgbnamcaaDoorW.PrintMore
attribute [local go_sem] max2_int min2_int max_two min_two max_three min_three max_four min_four
set_option linter.unusedVariables false
set_option linter.unusedSimpArgs false
def marchlandref01_Num.f : Nat → Int → Option (ByteArray)
  | 0, _ => none
  | k + 1, a0 => if a0 < 10 then (if 0 ≤ a0 then (if a0 ≤ (IntKind.u64.wrap (a0 + 1)) then (if (IntKind.u64.wrap (a0 + 1)) ≤ 10 then (some ((⟨#[48, 49, 50, 51, 52, 53, 54, 55, 56, 57]⟩ : ByteArray).extract (a0 : Int).toNat ((IntKind.u64.wrap (a0 + 1)) : Int).toNat)) else (none)) else (none)) else (none)) else ((marchlandref01_Num.f k (IntKind.u64.wrap (Int.tdiv a0 10))).bind fun t134 => (if 0 ≤ (Int.tmod a0 10) then (if (Int.tmod a0 10) ≤ (IntKind.u64.wrap ((Int.tmod a0 10) + 1)) then (if (IntKind.u64.wrap ((Int.tmod a0 10) + 1)) ≤ 10 then (if t134.size + ((⟨#[48, 49, 50, 51, 52, 53, 54, 55, 56, 57]⟩ : ByteArray).extract ((Int.tmod a0 10) : Int).toNat ((IntKind.u64.wrap ((Int.tmod a0 10) + 1)) : Int).toNat).size ≤ 9223372036854775807 then (some (t134 ++ ((⟨#[48, 49, 50, 51, 52, 53, 54, 55, 56, 57]⟩ : ByteArray).extract ((Int.tmod a0 10) : Int).toNat ((IntKind.u64.wrap ((Int.tmod a0 10) + 1)) : Int).toNat))) else (none)) else (none)) else (none)) else (none)))
theorem marchlandref01_Num.mono_l : ∀ k, (∀ y0, LeO (marchlandref01_Num.f k y0) (marchlandref01_Num.f (k + 1) y0))
  | 0 => fun _ r h => by simp [marchlandref01_Num.f] at h
  | k + 1 => by
    have ih0 := marchlandref01_Num.mono_l k
    · intro y0
      unfold marchlandref01_Num.f
      repeat' first
      | (with_reducible exact ih0 _)
      | (with_reducible exact LeO.refl _)
      | (with_reducible exact LeO.none _)
      | (with_reducible refine LeO.ite ?_ ?_)
      | (with_reducible refine LeO.bind ?_ (fun _ => ?_))
      | exact ih0 _
      | exact LeO.none _
      | refine LeO.ite ?_ ?_
      | refine LeO.bind ?_ (fun _ => ?_)
theorem marchlandref01_Num.mono : ∀ a0 k, LeO (marchlandref01_Num.f k a0) (marchlandref01_Num.f (k + 1) a0) := by
  intro a0 k
  have ih0 := marchlandref01_Num.mono_l k
  exact ih0 a0
def marchlandref01_Num.T3 : Bool × List (List Nat × List Nat) := (true, [([], []), ([0], [0]), ([1], [1]), ([], []), ([3], [3]), ([], []), ([5], [5]), ([6], [6]), ([4, 7], [4, 7]), ([2, 8], [2, 8]), ([9, 2, 0, 1, 2, 3, 4, 5, 6, 7, 8, 9], [9])])
def marchlandref01_Num.B3 : List Nat := [0, 1, 3, 0, 8, 0, 32, 96, 248, 511, 1023]
theorem marchlandref01_Num.tab3 : rtab .any (opsOf Tryd.f65 3) = marchlandref01_Num.T3 := by kernel_rfl
theorem marchlandref01_Num.bits3 : waitsOk marchlandref01_Num.T3.2 marchlandref01_Num.B3 = true := by kernel_rfl
set_option maxHeartbeats 8000000 in
set_option maxRecDepth 100000 in
theorem marchlandref01_Num.calls (k : Nat) : ∀ (a0 : Int) (r : ByteArray) (w : World) (h : marchlandref01_Num.f k a0 = some r),
    Calls Tryd.prog 65 #[.int .u64 a0] w fun e w' => e = .returned (.string r) ∧ Below w.heap.size w w' := by
  induction k using Nat.strongRecOn with
  | _ k ih =>
  intro a0 r w h
  cases k with
  | zero => exact absurd h (by simp [marchlandref01_Num.f])
  | succ k =>
  simp only [marchlandref01_Num.f] at h
  have HB := Aside0.mk (Below.refl w.heap.size w)
  have H : (if a0 < 10 then (if 0 ≤ a0 then (if a0 ≤ (IntKind.u64.wrap (a0 + 1)) then (if (IntKind.u64.wrap (a0 + 1)) ≤ 10 then (some ((⟨#[48, 49, 50, 51, 52, 53, 54, 55, 56, 57]⟩ : ByteArray).extract (a0 : Int).toNat ((IntKind.u64.wrap (a0 + 1)) : Int).toNat)) else (none)) else (none)) else (none)) else ((marchlandref01_Num.f k (IntKind.u64.wrap (Int.tdiv a0 10))).bind fun t134 => (if 0 ≤ (Int.tmod a0 10) then (if (Int.tmod a0 10) ≤ (IntKind.u64.wrap ((Int.tmod a0 10) + 1)) then (if (IntKind.u64.wrap ((Int.tmod a0 10) + 1)) ≤ 10 then (if t134.size + ((⟨#[48, 49, 50, 51, 52, 53, 54, 55, 56, 57]⟩ : ByteArray).extract ((Int.tmod a0 10) : Int).toNat ((IntKind.u64.wrap ((Int.tmod a0 10) + 1)) : Int).toNat).size ≤ 9223372036854775807 then (some (t134 ++ ((⟨#[48, 49, 50, 51, 52, 53, 54, 55, 56, 57]⟩ : ByteArray).extract ((Int.tmod a0 10) : Int).toNat ((IntKind.u64.wrap ((Int.tmod a0 10) + 1)) : Int).toNat))) else (none)) else (none)) else (none)) else (none)))) = some r := h
  clear h
  by_cases c2 : a0 < 10
  · rw [if_pos c2] at H
    have c2b0 : decide (a0 < 10) = true := decide_eq_true c2
    clear c2
    by_cases c3 : 0 ≤ a0
    · rw [if_pos c3] at H
      have c3b0 := eq_true c3
      have c3b1 : decide (0 ≤ a0) = true := decide_eq_true c3
      clear c3
      by_cases c4 : a0 ≤ (IntKind.u64.wrap (a0 + 1))
      · rw [if_pos c4] at H
        have c4b0 := eq_true c4
        have c4b1 : decide (a0 ≤ (IntKind.u64.wrap (a0 + 1))) = true := decide_eq_true c4
        by_cases c5 : (IntKind.u64.wrap (a0 + 1)) ≤ 10
        · rw [if_pos c5] at H
          have c5b0 := eq_true c5
          have c5b1 : decide ((IntKind.u64.wrap (a0 + 1)) ≤ 10) = true := decide_eq_true c5
          obtain rfl := Option.some.inj H
          go_enter Tryd.func65, Tryd.ntmps65
          go_wp2
          go_ret
          exact ⟨by first | rfl | (simp [errW_none, errW_some] <;> rfl) | (simp [*, errW_none, errW_some] <;> rfl), by repeat (first | (with_reducible first | exact HB.out | apply below_alloc | apply pw_below_drewN | apply below_drew1) | exact HB.out)⟩
        · rw [if_neg c5] at H
          exact absurd H (by simp)
      · rw [if_neg c4] at H
        exact absurd H (by simp)
    · rw [if_neg c3] at H
      exact absurd H (by simp)
  · rw [if_neg c2] at H
    have c2b0 : decide (a0 < 10) = false := decide_eq_false c2
    clear c2
    replace H := Option.bind_eq_some_iff.mp H
    obtain ⟨t134, A60, H⟩ := H
    replace H : (if 0 ≤ (Int.tmod a0 10) then (if (Int.tmod a0 10) ≤ (IntKind.u64.wrap ((Int.tmod a0 10) + 1)) then (if (IntKind.u64.wrap ((Int.tmod a0 10) + 1)) ≤ 10 then (if t134.size + ((⟨#[48, 49, 50, 51, 52, 53, 54, 55, 56, 57]⟩ : ByteArray).extract ((Int.tmod a0 10) : Int).toNat ((IntKind.u64.wrap ((Int.tmod a0 10) + 1)) : Int).toNat).size ≤ 9223372036854775807 then (some (t134 ++ ((⟨#[48, 49, 50, 51, 52, 53, 54, 55, 56, 57]⟩ : ByteArray).extract ((Int.tmod a0 10) : Int).toNat ((IntKind.u64.wrap ((Int.tmod a0 10) + 1)) : Int).toNat))) else (none)) else (none)) else (none)) else (none)) = some r := H
    have A6 := Aside0.mk A60
    clear A60
    obtain ⟨ji7, hji7⟩ : ∃ j_ : Int, (Int.tmod a0 10) = j_ := ⟨_, rfl⟩
    replace H : (if 0 ≤ (ji7) then (if (ji7) ≤ (IntKind.u64.wrap ((ji7) + 1)) then (if (IntKind.u64.wrap ((ji7) + 1)) ≤ 10 then (if t134.size + ((⟨#[48, 49, 50, 51, 52, 53, 54, 55, 56, 57]⟩ : ByteArray).extract ((ji7) : Int).toNat ((IntKind.u64.wrap ((ji7) + 1)) : Int).toNat).size ≤ 9223372036854775807 then (some (t134 ++ ((⟨#[48, 49, 50, 51, 52, 53, 54, 55, 56, 57]⟩ : ByteArray).extract ((ji7) : Int).toNat ((IntKind.u64.wrap ((ji7) + 1)) : Int).toNat))) else (none)) else (none)) else (none)) else (none)) = some r := by first | (rw [hji7] at H; exact H) | (simp only [hji7] at H ⊢; exact H)
    (try rw [hji7] at A6)
    by_cases c8 : 0 ≤ (ji7)
    · rw [if_pos c8] at H
      have c8b0 := eq_true c8
      have c8b1 : decide (0 ≤ (ji7)) = true := decide_eq_true c8
      clear c8
      by_cases c9 : (ji7) ≤ (IntKind.u64.wrap ((ji7) + 1))
      · rw [if_pos c9] at H
        have c9b0 := eq_true c9
        have c9b1 : decide ((ji7) ≤ (IntKind.u64.wrap ((ji7) + 1))) = true := decide_eq_true c9
        by_cases c10 : (IntKind.u64.wrap ((ji7) + 1)) ≤ 10
        · rw [if_pos c10] at H
          have c10b0 := eq_true c10
          have c10b1 : decide ((IntKind.u64.wrap ((ji7) + 1)) ≤ 10) = true := decide_eq_true c10
          by_cases c11 : t134.size + ((⟨#[48, 49, 50, 51, 52, 53, 54, 55, 56, 57]⟩ : ByteArray).extract ((ji7) : Int).toNat ((IntKind.u64.wrap ((ji7) + 1)) : Int).toNat).size ≤ 9223372036854775807
          · rw [if_pos c11] at H
            have c11b0 := eq_true c11
            have c11b1 : decide (t134.size + ((⟨#[48, 49, 50, 51, 52, 53, 54, 55, 56, 57]⟩ : ByteArray).extract ((ji7) : Int).toNat ((IntKind.u64.wrap ((ji7) + 1)) : Int).toNat).size ≤ 9223372036854775807) = true := decide_eq_true c11
            try have c11b2 : (9223372036854775807 < t134.size + ((⟨#[48, 49, 50, 51, 52, 53, 54, 55, 56, 57]⟩ : ByteArray).extract ((ji7) : Int).toNat ((IntKind.u64.wrap ((ji7) + 1)) : Int).toNat).size) = False := eq_false (Nat.not_lt.2 c11)
            have c11b3 : (9223372036854775807 < t134.size + ((IntKind.u64.wrap (ji7 + 1)).toNat - ji7.toNat)) = False := eq_false (by have h_ := c11; rw [ByteArray.size_extract, show (⟨#[48, 49, 50, 51, 52, 53, 54, 55, 56, 57]⟩ : ByteArray).size = 10 from rfl] at h_; omega)
            obtain rfl := Option.some.inj H
            go_enter Tryd.func65, Tryd.ntmps65
            try go_wp2
            have n0_ := Aside0.mk (below_drew1 HB.out)
            clear HB
            have HB := n0_
            clear n0_
            refine start_ (n := 11) (S := fun w' => True) (ds := []) #[false, false, false, false, false, false, false, false, false, false, false] (by kernel_rfl) rfl rfl trivial (fun hHeld => ?_); refine with_tabW marchlandref01_Num.tab3 marchlandref01_Num.bits3 (fun HT_ HW_ => ?_)
            generalize w.drew = w12 at HB hHeld ⊢
            refine pure_ (i := 0) (N := some 9) (v := ?_) (a' := ?_) #[true, false, false, false, false, false, false, false, false, false, false] rfl rfl (any_of HT_.out (by kernel_rfl)) (fun _ _ _ h => h) (Or.inl ⟨by rfl, ?_⟩) ?_ ?_
            rotate_left
            · intro w'
              go_simp
              with_reducible rfl
            rotate_left
            · simp only [Act.put, List.setIfInBounds_toArray, List.set_cons_zero, List.set_cons_succ, i64_w, i32_w]
              rfl
            refine pure_ (i := 1) (N := some 10) (v := ?_) (a' := ?_) #[true, true, false, false, false, false, false, false, false, false, false] rfl rfl (any_of HT_.out (by kernel_rfl)) (fun _ _ _ h => h) (Or.inl ⟨by rfl, ?_⟩) ?_ ?_
            rotate_left
            · intro w'
              go_simp
              with_reducible rfl
            rotate_left
            · simp only [Act.put, List.setIfInBounds_toArray, List.set_cons_zero, List.set_cons_succ, i64_w, i32_w]
              rfl
            refine pure_ (i := 3) (N := some 12) (v := ?_) (a' := ?_) #[true, true, false, true, false, false, false, false, false, false, false] rfl rfl (any_of HT_.out (by kernel_rfl)) (fun _ _ _ h => h) (Or.inl ⟨by rfl, ?_⟩) ?_ ?_
            rotate_left
            · intro w'
              go_simp
              with_reducible rfl
            rotate_left
            · simp only [Act.put, List.setIfInBounds_toArray, List.set_cons_zero, List.set_cons_succ, i64_w, i32_w]
              rfl
            refine pure_ (i := 4) (N := some 13) (v := ?_) (a' := ?_) #[true, true, false, true, true, false, false, false, false, false, false] rfl rfl (any_of HT_.out (by kernel_rfl)) (fun _ _ _ h => h) (Or.inl ⟨by rfl, ?_⟩) ?_ ?_
            rotate_left
            · intro w'
              go_simp
              with_reducible rfl
            rotate_left
            · simp only [Act.put, List.setIfInBounds_toArray, List.set_cons_zero, List.set_cons_succ, i64_w, i32_w]
              rfl
            refine pure_ (i := 5) (N := some 14) (v := ?_) (a' := ?_) #[true, true, false, true, true, true, false, false, false, false, false] rfl rfl (any_of HT_.out (by kernel_rfl)) (fun _ _ _ h => h) (Or.inl ⟨by rfl, ?_⟩) ?_ ?_
            rotate_left
            · intro w'
              go_simp
              with_reducible rfl
            rotate_left
            · simp only [Act.put, List.setIfInBounds_toArray, List.set_cons_zero, List.set_cons_succ, i64_w, i32_w]
              rfl
            refine pure_ (i := 6) (N := some 15) (v := ?_) (a' := ?_) #[true, true, false, true, true, true, true, false, false, false, false] rfl rfl (any_of HT_.out (by kernel_rfl)) (fun _ _ _ h => h) (Or.inl ⟨by rfl, ?_⟩) ?_ ?_
            rotate_left
            · intro w'
              go_simp
              with_reducible rfl
            rotate_left
            · simp only [Act.put, List.setIfInBounds_toArray, List.set_cons_zero, List.set_cons_succ, i64_w, i32_w]
              rfl
            refine pure_ (i := 7) (N := some 16) (v := ?_) (a' := ?_) #[true, true, false, true, true, true, true, true, false, false, false] rfl rfl (any_of HT_.out (by kernel_rfl)) (fun _ _ _ h => h) (Or.inl ⟨by rfl, ?_⟩) ?_ ?_
            rotate_left
            · intro w'
              go_simp
              with_reducible rfl
            rotate_left
            · simp only [Act.put, List.setIfInBounds_toArray, List.set_cons_zero, List.set_cons_succ, i64_w, i32_w]
              rfl
            refine pure_ (i := 8) (N := some 17) (v := ?_) (a' := ?_) #[true, true, false, true, true, true, true, true, true, false, false] rfl rfl (any_of HT_.out (by kernel_rfl)) (fun _ _ _ h => h) (Or.inl ⟨by rfl, ?_⟩) ?_ ?_
            rotate_left
            · intro w'
              go_simp
              with_reducible rfl
            rotate_left
            · simp only [Act.put, List.setIfInBounds_toArray, List.set_cons_zero, List.set_cons_succ, i64_w, i32_w]
              rfl
            refine one_ (i := 2) (N := some 11) #[true, true, true, true, true, true, true, true, true, false, false] rfl rfl (one_of HT_.out (by kernel_rfl)) (by decide) (fun K hK => ?_)
            refine goes_ Tryd.func65 (by kernel_rfl) rfl #[.int .u64 (IntKind.u64.wrap (Int.tdiv a0 10))] (by rfl) rfl rfl (by (try simp only [List.map_toArray, List.map_cons, List.map_nil]); first | done | rfl | (simp only [List.length_drop, List.length_take]; rfl)) ?_
            with_reducible refine (ih k (by omega) (IntKind.u64.wrap (Int.tdiv a0 10)) t134 _ A6.out).mono ?_
            rintro e w13 ⟨rfl, hb⟩
            refine ⟨_, rfl, ?_⟩
            have n0_ := Aside0.mk (below_step (by repeat (first | (with_reducible first | exact HB.out | apply below_alloc | apply pw_below_drewN | apply below_drew1) | exact HB.out)) hb)
            clear HB
            have HB := n0_
            clear n0_
            (try clear hb)
            (try clear hb2)
            (try clear hk)
            (try clear hi)
            refine hK.out _ _ trivial (fun hHeld => ?_)
            clear hK K
            refine norm_ (a' := ?_) ?_ ?_
            rotate_left
            · show Act.put _ (some 11) _ = _
              simp only [Act.put, List.setIfInBounds_toArray, List.set_cons_zero, List.set_cons_succ, i64_w, i32_w]
              rfl
            refine pure_ (i := 9) (N := some 18) (v := ?_) (a' := ?_) #[true, true, true, true, true, true, true, true, true, true, false] rfl rfl (any_of HT_.out (by kernel_rfl)) (fun _ _ _ h => h) (Or.inl ⟨by rfl, ?_⟩) ?_ ?_
            rotate_left
            · intro w'
              go_simp
              with_reducible rfl
            rotate_left
            · simp only [Act.put, List.setIfInBounds_toArray, List.set_cons_zero, List.set_cons_succ, i64_w, i32_w]
              rfl
            refine pure_ (i := 10) (N := some 2) (v := ?_) (a' := ?_) #[true, true, true, true, true, true, true, true, true, true, true] rfl rfl (any_of HT_.out (by kernel_rfl)) (fun _ _ _ h => h) (Or.inl ⟨by rfl, ?_⟩) ?_ ?_
            rotate_left
            · intro w'
              go_simp
              with_reducible rfl
            rotate_left
            · simp only [Act.put, List.setIfInBounds_toArray, List.set_cons_zero, List.set_cons_succ, i64_w, i32_w]
              rfl
            refine done_ (done_of HT_.out (by kernel_rfl)) ?_
            try go_wp2
            go_ret
            exact ⟨by first | rfl | (simp [errW_none, errW_some] <;> rfl) | (simp only [← hji7]; first | rfl | (simp [errW_none, errW_some] <;> rfl)) | (simp [*, errW_none, errW_some] <;> rfl), by repeat (first | (with_reducible first | exact HB.out | apply below_alloc | apply pw_below_drewN | apply below_drew1) | exact HB.out)⟩
          · rw [if_neg c11] at H
            exact absurd H (by simp)
        · rw [if_neg c10] at H
          exact absurd H (by simp)
      · rw [if_neg c9] at H
        exact absurd H (by simp)
    · rw [if_neg c8] at H
      exact absurd H (by simp)
def marchlandref02_Num.f (k : Nat) (a0 : Int) : Option (ByteArray) := if a0 < 0 then ((marchlandref01_Num.f k (IntKind.u64.wrap ((IntKind.u64.wrap (wrap64 (-(wrap64 (a0 + 1))))) + 1))).bind fun t135 => (if 1 + t135.size ≤ 9223372036854775807 then (some ((⟨#[45]⟩ : ByteArray) ++ t135)) else (none))) else ((marchlandref01_Num.f k (IntKind.u64.wrap (a0))).bind fun t136 => (some t136))
theorem marchlandref02_Num.mono : ∀ a0 k, LeO (marchlandref02_Num.f k a0) (marchlandref02_Num.f (k + 1) a0) := by
  intro a0 k
  unfold marchlandref02_Num.f
  repeat' first
      | (with_reducible exact marchlandref01_Num.mono _ _)
      | (with_reducible exact LeO.refl _)
      | (with_reducible exact LeO.none _)
      | (with_reducible refine LeO.ite ?_ ?_)
      | (with_reducible refine LeO.bind ?_ (fun _ => ?_))
      | exact marchlandref01_Num.mono _ _
      | exact LeO.none _
      | refine LeO.ite ?_ ?_
      | refine LeO.bind ?_ (fun _ => ?_)
set_option maxHeartbeats 8000000 in
set_option maxRecDepth 100000 in
theorem marchlandref02_Num.calls (k : Nat) (a0 : Int) (r : ByteArray) (w : World) (h : marchlandref02_Num.f k a0 = some r) :
    Calls Tryd.prog 56 #[.int .i64 a0] w fun e w' => e = .returned (.string r) ∧ Below w.heap.size w w' := by
  have HB := Aside0.mk (Below.refl w.heap.size w)
  have H : (if a0 < 0 then ((marchlandref01_Num.f k (IntKind.u64.wrap ((IntKind.u64.wrap (wrap64 (-(wrap64 (a0 + 1))))) + 1))).bind fun t135 => (if 1 + t135.size ≤ 9223372036854775807 then (some ((⟨#[45]⟩ : ByteArray) ++ t135)) else (none))) else ((marchlandref01_Num.f k (IntKind.u64.wrap (a0))).bind fun t136 => (some t136))) = some r := h
  clear h
  by_cases c2 : a0 < 0
  · rw [if_pos c2] at H
    have c2b0 : decide (a0 < 0) = true := decide_eq_true c2
    clear c2
    replace H := Option.bind_eq_some_iff.mp H
    obtain ⟨t135, A30, H⟩ := H
    replace H : (if 1 + t135.size ≤ 9223372036854775807 then (some ((⟨#[45]⟩ : ByteArray) ++ t135)) else (none)) = some r := H
    have A3 := Aside0.mk A30
    clear A30
    by_cases c4 : 1 + t135.size ≤ 9223372036854775807
    · rw [if_pos c4] at H
      have c4b0 := eq_true c4
      have c4b1 : decide (1 + t135.size ≤ 9223372036854775807) = true := decide_eq_true c4
      try have c4b2 : (9223372036854775807 < 1 + t135.size) = False := eq_false (Nat.not_lt.2 c4)
      obtain rfl := Option.some.inj H
      go_enter Tryd.func56, Tryd.ntmps56
      go_wp2_with (first | ((with_reducible refine gate_callee (f := 65) rfl ?_); refine goesL_ (some 10) rfl rfl Tryd.func65 (by kernel_rfl) rfl #[.int .u64 (IntKind.u64.wrap ((IntKind.u64.wrap (wrap64 (-(wrap64 (a0 + 1))))) + 1))] rfl (by (try simp only [List.map_toArray, List.map_cons, List.map_nil]); first | done | rfl | (simp only [List.length_drop, List.length_take]; rfl)) ?_; (with_reducible refine (marchlandref01_Num.calls k (IntKind.u64.wrap ((IntKind.u64.wrap (wrap64 (-(wrap64 (a0 + 1))))) + 1)) t135 _ A3.out).mono ?_); rintro e w5 ⟨rfl, hb⟩; refine ⟨_, rfl, ?_⟩; have n0_ := Aside0.mk (below_step (by repeat (first | (with_reducible first | exact HB.out | apply below_alloc | apply pw_below_drewN | apply below_drew1) | exact HB.out)) hb); clear HB; have HB := n0_; clear n0_; (try clear hb); (try clear hb2); (try clear hk); (try clear hi)))
      go_ret
      exact ⟨by first | rfl | (simp [errW_none, errW_some] <;> rfl) | (simp [*, errW_none, errW_some] <;> rfl), by repeat (first | (with_reducible first | exact HB.out | apply below_alloc | apply pw_below_drewN | apply below_drew1) | exact HB.out)⟩
    · rw [if_neg c4] at H
      exact absurd H (by simp)
  · rw [if_neg c2] at H
    have c2b0 : decide (a0 < 0) = false := decide_eq_false c2
    clear c2
    replace H := Option.bind_eq_some_iff.mp H
    obtain ⟨t136, A60, H⟩ := H
    replace H : (some t136) = some r := H
    have A6 := Aside0.mk A60
    clear A60
    obtain rfl := Option.some.inj H
    go_enter Tryd.func56, Tryd.ntmps56
    go_wp2_with (first | ((with_reducible refine gate_callee (f := 65) rfl ?_); refine goesL_ (some 14) rfl rfl Tryd.func65 (by kernel_rfl) rfl #[.int .u64 (IntKind.u64.wrap (a0))] rfl (by (try simp only [List.map_toArray, List.map_cons, List.map_nil]); first | done | rfl | (simp only [List.length_drop, List.length_take]; rfl)) ?_; (with_reducible refine (marchlandref01_Num.calls k (IntKind.u64.wrap (a0)) t136 _ A6.out).mono ?_); rintro e w7 ⟨rfl, hb⟩; refine ⟨_, rfl, ?_⟩; have n0_ := Aside0.mk (below_step (by repeat (first | (with_reducible first | exact HB.out | apply below_alloc | apply pw_below_drewN | apply below_drew1) | exact HB.out)) hb); clear HB; have HB := n0_; clear n0_; (try clear hb); (try clear hb2); (try clear hk); (try clear hi)))
    go_ret
    exact ⟨by first | rfl | (simp [errW_none, errW_some] <;> rfl) | (simp [*, errW_none, errW_some] <;> rfl), by repeat (first | (with_reducible first | exact HB.out | apply below_alloc | apply pw_below_drewN | apply below_drew1) | exact HB.out)⟩
end Go.Proofs.YtgeldmhgbnamcaaDoor.Q
end
