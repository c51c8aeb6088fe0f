/- Walks and laws of several statements of this seat, joined into one text; no condition. -/
import Derived.Test.YtgeldmhgbnamcaaDoorProg
import Derived.Below
import Derived.Deep.Draws
import Derived.Deep.AppendLies
import Derived.Maps.AppendAt
import Derived.OwnWalk
import Derived.Laws.BytesArg
import Derived.Laws.MakeOwn
import Derived.Laws.OwnMore
import Derived.Deep.OwnRows
import Derived.Tactics
import Derived.Lib.ConvBytes
import Derived.Laws.Slices
import Derived.WalkKit
import Derived.KernelRfl
import Derived.RowKit3
import Derived.Deep.LoopGhost
import Derived.Deep.QuietTactic
import Derived.BigQuiet
import Derived.WideLaws
import Derived.Deep.DeepCutAuto
import Derived.Deep.CutBlock
import Derived.Deep.RegionHeld3
import Derived.Laws.Rows
import Derived.Lib.AppendStr
import Derived.ArgAppend
import Derived.Laws.IdiomCopy
import Derived.OrdersHeld
import Derived.Laws.BitsLemmas
import Derived.RowKit
import Derived.Laws.StructEq
import Derived.Deep.Slices
import Derived.SizedLaws
import Derived.OpenShut
import Derived.Lib.SmallJoins
import Derived.LaidEql
import Derived.Stop.Asserts
import Derived.RowKitTokens
import Derived.LoopTactic
import Derived.Test.YtgeldmhgbnamcaaDoorRows
import Derived.LaidLaws
import Derived.LaidHandle
import Derived.Lay
import Derived.Laws.CopyOwn
import Derived.Deep.RegionLaw
import Derived.Outline
import Derived.IntWalk
import Derived.Test.YtgeldmhgbnamcaaDoorGXa0
import Derived.Test.YtgeldmhgbnamcaaDoorGXa1
section
namespace Go.Proofs.YtgeldmhgbnamcaaDoor.P
open Go.RowKit Go.Proofs.YtgeldmhgbnamcaaDoorW.PrintWords Go.Proofs.YtgeldmhgbnamcaaDoorW.PrintLast Go.Proofs.YtgeldmhgbnamcaaDoorW.PrintMore
attribute [local go_sem] max2_int min2_int max_two min_two max_three min_three max_four min_four   -- for this text's walks alone
set_option linter.unusedVariables false
set_option linter.unusedSimpArgs false
def errW : Option Int → Value
 | none => .nilIface
 | some c => .iface 33 (.int .i64 c)
theorem errW_none : errW none = .nilIface := rfl
theorem errW_some (c : Int) : errW (some c) = .iface 33 (.int .i64 c) := rfl
theorem info3 : (Tryd.prog.info? 3).map (fun i => (i.zero, i.size, i.bytes)) = some (some (.int .i64 0), 1, 8) := by kernel_rfl
theorem info22 : (Tryd.prog.info? 22).map (fun i => (i.zero, i.size, i.bytes)) = some (some (.int .u64 0), 1, 8) := by kernel_rfl
theorem info73 : (Tryd.prog.info? 73).map (fun i => (i.zero, i.size, i.bytes)) = some (some (.slice none 0 0), 1, 24) := by kernel_rfl
theorem info127 : (Tryd.prog.info? 127).map (fun i => (i.zero, i.size, i.bytes)) = some (some (.agg #[(.int .i64 0), (.int .i64 0), (.int .u64 0)]), 3, 24) := by kernel_rfl
-- the values' own types
/-! #### struct type 75 -/
structure S75 where
 f0 : Int
 f1 : Int
 f2 : Int
def z75 : S75 := ⟨(0 : Int), (0 : Int), (0 : Int)⟩
def k75 : Kd S75 := Kd.iso (Kd.pair (Kd.int .i64) (Kd.pair (Kd.int .i64) (Kd.int .u64))) (fun x : S75 => (x.f0, x.f1, x.f2))
theorem k75_open {w : World} {x : S75} {cs : List Value} (h : k75.K w x cs) : cs = [.int .i64 x.f0, .int .i64 x.f1, .int .u64 x.f2] := by
 obtain ⟨_, _, rfl, rfl, ⟨_, _, rfl, rfl, rfl⟩⟩ := h; (exact rfl)
def rd_T75 (xs : List S75) (i : Int) : S75 := xs.getD i.toNat z75
theorem at_T75 {w : World} {A : Option Addr} {n : Nat} {xs : List S75} (h : Kd.C k75 w A n xs) (i : Int) (h0 : 0 ≤ i) (h1 : i < n) : ∃ ad , A = some ad ∧ w.cell? (ad.add (i.toNat * 3)) = some (.int .i64 (rd_T75 xs i).f0) ∧ w.cell? ⟨(ad.add (i.toNat * 3)).block, (ad.add (i.toNat * 3)).off + 1, none⟩ = some (.int .i64 (rd_T75 xs i).f1) ∧ w.cell? ⟨(ad.add (i.toNat * 3)).block, (ad.add (i.toNat * 3)).off + 2, none⟩ = some (.int .u64 (rd_T75 xs i).f2) := by
 obtain ⟨ad, c, e, _, hK, hc0⟩ := Kd.C_get h z75 i h0 h1; (have hc : ∀ j u, c[j]? = some u → w.cell? (ad.add (i.toNat * 3 + j)) = some u := hc0); obtain rfl := k75_open hK; (exact ⟨ad, e, hc 0 _ rfl, by rw [← add_field _ _ 1 (by omega)]; exact hc 1 _ rfl, by rw [← add_field _ _ 2 (by omega)]; exact hc 2 _ rfl⟩)
/-! #### struct type 127 -/
structure S127 where
 f0 : Int
 f1 : Int
 f2 : Int
def z127 : S127 := ⟨(0 : Int), (0 : Int), (0 : Int)⟩
def k127 : Kd S127 := Kd.iso (Kd.pair (Kd.int .i64) (Kd.pair (Kd.int .i64) (Kd.int .u64))) (fun x : S127 => (x.f0, x.f1, x.f2))
theorem k127_open {w : World} {x : S127} {cs : List Value} (h : k127.K w x cs) : cs = [.int .i64 x.f0, .int .i64 x.f1, .int .u64 x.f2] := by
 obtain ⟨_, _, rfl, rfl, ⟨_, _, rfl, rfl, rfl⟩⟩ := h; (exact rfl)
theorem k127_mkM (w : World) (base : Nat) (ok : Nat → Prop) (x : S127)  : k127.M w base ok x [.int .i64 x.f0, .int .i64 x.f1, .int .u64 x.f2] := ⟨[.int .i64 x.f0], [.int .i64 x.f1, .int .u64 x.f2], rfl, rfl, ⟨[.int .i64 x.f1], [.int .u64 x.f2], rfl, rfl, rfl⟩⟩
def rd_T127 (xs : List S127) (i : Int) : S127 := xs.getD i.toNat z127
theorem at_T127 {w : World} {A : Option Addr} {n : Nat} {xs : List S127} (h : Kd.C k127 w A n xs) (i : Int) (h0 : 0 ≤ i) (h1 : i < n) : ∃ ad , A = some ad ∧ w.cell? (ad.add (i.toNat * 3)) = some (.int .i64 (rd_T127 xs i).f0) ∧ w.cell? ⟨(ad.add (i.toNat * 3)).block, (ad.add (i.toNat * 3)).off + 1, none⟩ = some (.int .i64 (rd_T127 xs i).f1) ∧ w.cell? ⟨(ad.add (i.toNat * 3)).block, (ad.add (i.toNat * 3)).off + 2, none⟩ = some (.int .u64 (rd_T127 xs i).f2) := by
 obtain ⟨ad, c, e, _, hK, hc0⟩ := Kd.C_get h z127 i h0 h1; (have hc : ∀ j u, c[j]? = some u → w.cell? (ad.add (i.toNat * 3 + j)) = some u := hc0); obtain rfl := k127_open hK; (exact ⟨ad, e, hc 0 _ rfl, by rw [← add_field _ _ 1 (by omega)]; exact hc 1 _ rfl, by rw [← add_field _ _ 2 (by omega)]; exact hc 2 _ rfl⟩)
open Go.ChangeShapes Go.WideShapes Go.Deep
def Opens (P : Program) (t : TypeId) {α : Type} (d : Kd α) (q : α → Prop) : Prop :=
 ∀ (H : Type) (enc : TypeId × Value → H) (w : World) (base : Nat) (spare : Nat → Bool) (held : Bool) (fuel : Nat) (cs : List Value) (x : DataW H × List MemPlace),
  DataW.trod enc P w base spare held fuel t cs = some x → ∃ y : α, d.K w y cs ∧ q y
theorem Opens.int {P : Program} {t : TypeId} {k : IntKind} (hu : P.underlying t = some (.int k)) : Opens P t (Kd.int k) (fun n => (Lit.int k n).wf = true) := by
 intro H enc w base spare held fuel cs x h
 obtain ⟨n, rfl, _, hw⟩ := DataW.trod_int hu h
 exact ⟨n, rfl, hw⟩
theorem Opens.imp {P : Program} {t : TypeId} {α : Type} {d : Kd α} {q q' : α → Prop} (h : Opens P t d q) (hq : ∀ y, q y → q' y) : Opens P t d q' := by
 intro H enc w base spare held fuel cs x hx
 obtain ⟨y, h1, h2⟩ := h H enc w base spare held fuel cs x hx
 exact ⟨y, h1, hq y h2⟩
theorem Opens.iso {P : Program} {t : TypeId} {α β : Type} {d : Kd α} {q : α → Prop} (h : Opens P t d q) (f : β → α) (g : α → β) (hfg : ∀ y, f (g y) = y) : Opens P t (Kd.iso d f) (fun x => q (f x)) := by
 intro H enc w base spare held fuel cs x hx
 obtain ⟨y, h1, h2⟩ := h H enc w base spare held fuel cs x hx
 refine ⟨g y, ?_, by show q (f (g y)); rw [hfg]; exact h2⟩
 show d.K w (f (g y)) cs
 rw [hfg]; exact h1
theorem Opens.slice {P : Program} {t e : TypeId} {α : Type} [Inhabited α] {d : Kd α} {q : α → Prop} (hu : P.underlying t = some (.slice e)) (hc : P.cellsOf e = d.sz) (h : Opens P e d q) : Opens P t (Kd.slice e d) (fun l => l.length ≤ maxLen ∧ ∀ y ∈ l, q y) := by
 intro H enc w base spare held fuel cs x hx
 rcases open_slice hu hx with ⟨rfl, _⟩ | ⟨a, len, cap, m, n, D, Pl, rfl, hb, hl, hm, hmm, _, hel⟩
 ·exact ⟨[], ⟨none, 0, rfl, Nat.le_refl _, rfl, Nat.zero_le _, fun h => absurd h (by simp)⟩, Nat.zero_le _, fun y hy => by simp at hy⟩
 ·have hlm : len ≤ m := by rw [hmm]; split <;> omega
  obtain ⟨Y, hY⟩ := choose_lt (α := α) (n := len) (p := fun i y => ∃ cs', w.cells? base (a.add (i * P.cellsOf e)) (P.cellsOf e) = some cs' ∧ d.K w y cs' ∧ q y) (fun i hi => by
   obtain ⟨cs', h1, h2⟩ := hel i (by omega)
   obtain ⟨y, h3, h4⟩ := h H enc w base spare held n cs' _ h2
   exact ⟨y, cs', h1, h3, h4⟩)
  have hlen : ((List.range len).map Y).length = len := by simp
  refine ⟨(List.range len).map Y, ⟨some a, cap, by rw [hlen], by rw [hlen]; exact hl, rfl, ?_, fun _ => ⟨a, rfl, fun j p hj => ?_⟩⟩, ?_, fun y hy => ?_⟩
  ·rw [hlen]; unfold maxLen at hm; omega
  ·obtain ⟨hjl, hje⟩ := List.getElem?_eq_some_iff.1 hj
   rw [hlen] at hjl
   have hpj : p = Y j := by rw [← hje]; simp
   obtain ⟨cs', h1, h3, _⟩ := hY j hjl
   obtain ⟨_, hcl, hcc⟩ := World.cells?_some h1
   refine ⟨cs', d.K_len h3, by rw [hpj]; exact h3, fun i u hu2 => ?_⟩
   have hi := (List.getElem?_eq_some_iff.1 hu2).1
   rw [d.K_len h3] at hi
   have h5 := hcc i (by rw [hc]; exact hi)
   rw [hc, Go.Deep.add_add] at h5
   rw [h5, ← hu2]
  ·rw [hlen]; omega
  ·obtain ⟨j, hj, rfl⟩ := List.mem_map.1 hy
   obtain ⟨_, _, _, h4⟩ := hY j (List.mem_range.1 hj)
   exact h4
def OpensSeg (P : Program) (fs : List Field) (off : Nat) {α : Type} (d : Kd α) (q : α → Prop) : Prop :=
 ∀ (H : Type) (enc : TypeId × Value → H) (w : World) (base : Nat) (spare : Nat → Bool) (held : Bool) (fuel : Nat) (cs : List Value), cs.length = d.sz →
  (∀ f ∈ fs, ∃ x : DataW H × List MemPlace, DataW.trod enc P w base spare held fuel f.type ((cs.drop (f.offset - off)).take (P.cellsOf f.type)) = some x) → ∃ y : α, d.K w y cs ∧ q y
theorem OpensSeg.one {P : Program} {f : Field} {off : Nat} {α : Type} {d : Kd α} {q : α → Prop} (ho : f.offset = off) (hc : P.cellsOf f.type = d.sz) (h : Opens P f.type d q) : OpensSeg P [f] off d q := by
 intro H enc w base spare held fuel cs hl hf
 obtain ⟨x, hx⟩ := hf f List.mem_cons_self
 rw [ho, Nat.sub_self, List.drop_zero, hc, ← hl, List.take_length] at hx
 exact h H enc w base spare held fuel cs x hx
theorem OpensSeg.cons {P : Program} {f : Field} {fs : List Field} {off : Nat} {α β : Type} {d : Kd α} {d2 : Kd β} {q : α → Prop} {q2 : β → Prop} (ho : f.offset = off) (hc : P.cellsOf f.type = d.sz) (hm : ∀ g ∈ fs, off + d.sz ≤ g.offset) (h : Opens P f.type d q) (h2 : OpensSeg P fs (off + d.sz) d2 q2) :
  OpensSeg P (f :: fs) off (Kd.pair d d2) (fun y => q y.1 ∧ q2 y.2) := by
 intro H enc w base spare held fuel cs hl hf
 have hl' : cs.length = d.sz + d2.sz := hl
 obtain ⟨x, hx⟩ := hf f List.mem_cons_self
 rw [ho, Nat.sub_self, List.drop_zero, hc] at hx
 obtain ⟨y, h3, h4⟩ := h H enc w base spare held fuel _ x hx
 obtain ⟨y2, h5, h6⟩ := h2 H enc w base spare held fuel (cs.drop d.sz) (by rw [List.length_drop]; omega) (fun g hg => by
  obtain ⟨x2, hx2⟩ := hf g (List.mem_cons_of_mem _ hg)
  refine ⟨x2, ?_⟩
  have := hm g hg
  rw [List.drop_drop, show d.sz + (g.offset - (off + d.sz)) = g.offset - off by omega]
  exact hx2)
 exact ⟨(y, y2), ⟨cs.take d.sz, cs.drop d.sz, (List.take_append_drop _ _).symm, h3, h5⟩, h4, h6⟩
theorem Opens.struct {P : Program} {t : TypeId} {fs : Array Field} {α : Type} {d : Kd α} {q : α → Prop} (hu : P.underlying t = some (.struct fs)) (hc : P.cellsOf t = d.sz) (h : OpensSeg P fs.toList 0 d q) : Opens P t d q := by
 intro H enc w base spare held fuel cs x hx
 obtain ⟨xs, n, rfl, _, hl, hxs, hf⟩ := DataW.trod_struct hu hx
 refine h H enc w base spare held n cs (by rw [hl, hc]) (fun f hf2 => ?_)
 obtain ⟨i, hi, rfl⟩ := List.getElem_of_mem hf2
 have h1 := hf i fs.toList[i] (by rw [Array.getElem?_eq_getElem (by simpa using hi)]; simp)
 have hi2 : i < fs.size := by simpa using hi
 rw [List.getElem?_eq_getElem (by omega)] at h1
 exact ⟨_, by rw [Nat.sub_zero]; exact h1⟩
theorem opens_i64 {P : Program} {t : TypeId} (hu : P.underlying t = some (.int .i64)) : Opens P t (Kd.int .i64) (fun n => -9223372036854775808 ≤ n ∧ n ≤ 9223372036854775807) := (Opens.int hu).imp fun _ h => bounds_i64 h
theorem opens_u64 {P : Program} {t : TypeId} (hu : P.underlying t = some (.int .u64)) : Opens P t (Kd.int .u64) (fun n => 0 ≤ n ∧ n ≤ 18446744073709551615) := (Opens.int hu).imp fun _ h => bounds_u64 h
open Go.RowKit Go.Extern.Stop Go.Stop Go.Extern
theorem e_valueOf45 (t : Addr) (w : World) : (ReflectliteValue.unpack (.iface 45 (.pointer (some t)))).run Tryd.prog w
  = .ok (.agg #[.pointer (some ⟨6, 45, none⟩), .pointer (some ⟨w.heap.size, 0, none⟩), .int .u64 150]) (w.alloc (.cells #[.pointer (some t)] 45)) := by kernel_rfl
theorem e_type45 (a : Addr) (w : World) : (ReflectliteValue.methodAny (ReflectliteValue.valueError "reflectlite.Value.Type" 0) (fun t _ _ _ => ReflectliteType.toType t) #[.agg #[.pointer (some ⟨6, 45, none⟩), .pointer (some a), .int .u64 150]]).run Tryd.prog w
  = .ok (.iface 146 (.agg #[.pointer (some ⟨6, 45, none⟩)])) w := by kernel_rfl
theorem e_kind45 (w : World) : ((ReflectliteType.abiMethod fun t => (fun a : Nat => Value.int IntKind.u8 (a : Int)) <$> Rtype.kind t) #[.pointer (some ⟨6, 45, none⟩)]).run Tryd.prog w = .ok (.int .u8 22) w := by kernel_rfl
theorem e_kind33 (w : World) : ((ReflectliteType.abiMethod fun t => (fun a : Nat => Value.int IntKind.u8 (a : Int)) <$> Rtype.kind t) #[.pointer (some ⟨6, 33, none⟩)]).run Tryd.prog w = .ok (.int .u8 2) w := by kernel_rfl
theorem e_rlm (z : Sem Value) (f : TypeId → Addr → Nat → Nat → Sem Value) (v : Value) :
  ReflectliteValue.method z f #[v] = (do match ← ReflectliteValue.parts v with | none => z | some (t, a, fl) => f t a fl (fl % 32)) := rfl
theorem e_parts45 (a : Addr) (w : World) : (ReflectliteValue.parts (.agg #[.pointer (some ⟨6, 45, none⟩), .pointer (some a), .int .u64 150])).run Tryd.prog w = .ok (some (45, a, 150)) w := by kernel_rfl
theorem e_isNil45 (a p : Addr) (W : World) (ha : W.cell? a = some (.pointer (some p))) :
  (ReflectliteValue.method (ReflectliteValue.valueError "reflectlite.Value.IsNil" 0) ReflectliteValue.isNil #[.agg #[.pointer (some ⟨6, 45, none⟩), .pointer (some a), .int .u64 150]]).run Tryd.prog W = .ok (.bool false) W := by
 rw [e_rlm]
 simp only [Sem.run_bind, e_parts45, Result.andThen]
 simp [ReflectliteValue.isNil, loadVar, isAgg, underlying, Tryd.underlying45, ha, Result.andThen]
theorem e_elem45 (w : World) : (ReflectliteType.method ReflectliteType.elem #[.agg #[.pointer (some ⟨6, 45, none⟩)]]).run Tryd.prog w = .ok (.iface 146 (.agg #[.pointer (some ⟨6, 33, none⟩)])) w := by kernel_rfl
theorem e_implements33 (w : World) : (ReflectliteType.relation "Implements" ReflectliteType.implements_ #[.agg #[.pointer (some ⟨6, 33, none⟩)], .iface 146 (.agg #[.pointer (some ⟨6, 31, none⟩)])]).run Tryd.prog w = .ok (.bool true) w := by kernel_rfl
theorem e_typeOf33 (v : Value) (w : World) : (ReflectliteType.typeOf #[.iface 33 v]).run Tryd.prog w = .ok (.iface 146 (.agg #[.pointer (some ⟨6, 33, none⟩)])) w := by kernel_rfl
theorem e_typeOf100 (v : Value) (w : World) : (ReflectliteType.typeOf #[.iface 100 v]).run Tryd.prog w = .ok (.iface 146 (.agg #[.pointer (some ⟨6, 100, none⟩)])) w := by kernel_rfl
theorem e_assignable33 (w : World) : (ReflectliteType.relation "AssignableTo" ReflectliteType.assignableTo #[.agg #[.pointer (some ⟨6, 33, none⟩)], .iface 146 (.agg #[.pointer (some ⟨6, 33, none⟩)])]).run Tryd.prog w = .ok (.bool true) w := by kernel_rfl
theorem e_assignable100 (w : World) : (ReflectliteType.relation "AssignableTo" ReflectliteType.assignableTo #[.agg #[.pointer (some ⟨6, 100, none⟩)], .iface 146 (.agg #[.pointer (some ⟨6, 33, none⟩)])]).run Tryd.prog w = .ok (.bool false) w := by kernel_rfl
theorem e_valueOf33 (k : Int) (w : World) : (ReflectliteValue.unpack (.iface 33 (.int .i64 k))).run Tryd.prog w
  = .ok (.agg #[.pointer (some ⟨6, 33, none⟩), .pointer (some ⟨w.heap.size, 0, none⟩), .int .u64 130]) (w.alloc (.cells #[.int .i64 k] 33)) := by kernel_rfl
theorem e_elemOf45 (w : World) : (Rtype.elem? 45).run Tryd.prog w = .ok (some 33) w := by kernel_rfl
theorem e_mk33 (p : Addr) (w : World) : (ReflectliteValue.mk 33 p ReflectliteValue.flagAddr).run Tryd.prog w = .ok (.agg #[.pointer (some ⟨6, 33, none⟩), .pointer (some p), .int .u64 386]) w := by kernel_rfl
theorem e_elemV45 (a p : Addr) (W : World) (ha : W.cell? a = some (.pointer (some p))) :
  (ReflectliteValue.method (ReflectliteValue.valueError "reflectlite.Value.Elem" 0) ReflectliteValue.elem #[.agg #[.pointer (some ⟨6, 45, none⟩), .pointer (some a), .int .u64 150]]).run Tryd.prog W
   = .ok (.agg #[.pointer (some ⟨6, 33, none⟩), .pointer (some p), .int .u64 386]) W := by
 rw [e_rlm]
 simp only [Sem.run_bind, e_parts45, Result.andThen]
 simp [ReflectliteValue.elem, loadVar, isAgg, underlying, Tryd.underlying45, ha, Result.andThen, e_elemOf45, e_mk33]
theorem e_rls (v x : Value) : ReflectliteValue.set #[v, x] = (do
  let (some (dst, a, fl), some (src, b, _)) := (← ReflectliteValue.parts v, ← ReflectliteValue.parts x)
   | unsupported (.noEntry "extern/(internal/reflectlite.Value).Set.zeroValue")
  if fl / ReflectliteValue.flagAddr % 2 == 0 then unsupported (.noEntry "extern/(internal/reflectlite.Value).Set.unaddressable")
  let val ← loadVar src b
  if ← Rtype.directlyAssignable dst src then storeVar dst a val
  else if ← Rtype.implements dst src then
   if (← Rtype.kind src) == 20 then
    match val with
    | .nilIface => unsupported (.noEntry "extern/reflectlite: a nil value of one interface type handed on as a value of another")
    | _ => storeVar dst a val
   else storeVar dst a (.iface src val)
  else panicString ("reflectlite.Set: value of type " ++ (← Rtype.spelt src) ++ " is not assignable to type " ++ (← Rtype.spelt dst))
  pure (.tuple #[])) := rfl
theorem e_parts33a (a : Addr) (w : World) : (ReflectliteValue.parts (.agg #[.pointer (some ⟨6, 33, none⟩), .pointer (some a), .int .u64 386])).run Tryd.prog w = .ok (some (33, a, 386)) w := by kernel_rfl
theorem e_parts33 (a : Addr) (w : World) : (ReflectliteValue.parts (.agg #[.pointer (some ⟨6, 33, none⟩), .pointer (some a), .int .u64 130])).run Tryd.prog w = .ok (some (33, a, 130)) w := by kernel_rfl
theorem e_direct33 (w : World) : (Rtype.directlyAssignable 33 33).run Tryd.prog w = .ok true w := by kernel_rfl
theorem e_set33 (ta b : Addr) (k : Int) (old : Value) (W : World) (hb : W.cell? b = some (.int .i64 k)) (ht : W.cell? ta = some old) (hf : W.frozen? ta = false) :
  (ReflectliteValue.set #[.agg #[.pointer (some ⟨6, 33, none⟩), .pointer (some ta), .int .u64 386], .agg #[.pointer (some ⟨6, 33, none⟩), .pointer (some b), .int .u64 130]]).run Tryd.prog W
   = .ok (.tuple #[]) (W.setCell ta (.int .i64 k)) := by
 rw [e_rls]
 simp only [Sem.run_bind, e_parts33a, e_parts33, Result.andThen]
 simp [ReflectliteValue.flagAddr, loadVar, isAgg, underlying, Tryd.underlying33, hb, Result.andThen, e_direct33, storeVar, Value.cells, storeCells, Addr.add]
 rw [run_store Tryd.prog W ta _ _ (by rfl)]
 simp [ht, hf]
open Go.RowKit Go.Extern.Stop Go.Stop Go.Extern Go.Proofs.YtgeldmhgbnamcaaDoorW.PrintWords
theorem e_noAsW (v : Value) (xT : TypeId) (w : World) : (Instr.typeAssert (.iface 100 v) xT 157 true).run Tryd.prog w = .ok (.tuple #[.nilIface, .bool false]) w := run_typeAssert_lacksB Tryd.underlying157 (by kernel_rfl) (by kernel_rfl) v xT w
theorem e_hasUnwrapW (v : Value) (xT : TypeId) (w : World) : (Instr.typeAssert (.iface 100 v) xT 151 true).run Tryd.prog w = .ok (.tuple #[.iface 100 v, .bool true]) w := run_typeAssert_hasB Tryd.underlying151 (by kernel_rfl) v xT w
theorem e_methodUnwrap (v : Value) (w : World) : (Go.method 346 100 v "Unwrap").run Tryd.prog w = .ok (158, v) w := by kernel_rfl
theorem e_methodAssignable (h : Value) (w : World) : (Go.method 346 146 (.agg #[h]) "AssignableTo").run Tryd.prog w = .ok (164, .agg #[h]) w := by kernel_rfl
theorem e_methodKind (h : Value) (w : World) : (Go.method 346 146 (.agg #[h]) "Kind").run Tryd.prog w = .ok (154, h) w := by kernel_rfl
theorem e_methodElem (h : Value) (w : World) : (Go.method 346 146 (.agg #[h]) "Elem").run Tryd.prog w = .ok (166, .agg #[h]) w := by kernel_rfl
theorem e_methodImplements (h : Value) (w : World) : (Go.method 346 146 (.agg #[h]) "Implements").run Tryd.prog w = .ok (167, .agg #[h]) w := by kernel_rfl
def ErrIs (w : World) : List (ByteArray × Int) → Value → Value → Prop
 | [], v, inner => v = inner
 | p :: ps, v, inner => ∃ b vi, v = .iface 100 (.pointer (some ⟨b, 0, none⟩)) ∧ w.heap[b]? = some (.cells #[.string p.1, .int .i64 p.2, vi] 103 (0, 0)) ∧ ErrIs w ps vi inner
theorem ErrIs.below {w w' : World} (hb : Below w.heap.size w w') : ∀ {ps : List (ByteArray × Int)} {v inner : Value}, ErrIs w ps v inner → ErrIs w' ps v inner
 | [], _, _, h => h
 | p :: ps, v, inner, ⟨b, vi, h1, h2, h3⟩ => ⟨b, vi, h1, (hb.block b (Array.getElem?_eq_some_iff.1 h2).1).trans h2, ErrIs.below hb h3⟩
set_option maxHeartbeats 1000000 in
set_option maxRecDepth 100000 in
theorem unwrap_calls (b : Nat) (s : ByteArray) (n : Int) (vi : Value) (W : World) (h : W.heap[b]? = some (.cells #[.string s, .int .i64 n, vi] 103 (0, 0))) : Calls Tryd.prog 158 #[.pointer (some ⟨b, 0, none⟩)] W fun e w' => e = .returned vi ∧ w' = W := by
 have h2 : W.cell? ⟨b, 2, none⟩ = some vi := by simp [World.cell?, h]
 go_enter Tryd.func158, Tryd.ntmps158
 go_wp2
 go_ret
 exact ⟨rfl, rfl⟩
set_option maxHeartbeats 4000000 in
set_option maxRecDepth 100000 in
theorem as_calls (ps : List (ByteArray × Int)) (v : Value) (t a : Addr) (k : Int) (old : Value) (W : World) (hE : ErrIs W ps v (.iface 33 (.int .i64 k))) (ht : W.cell? t = some old) (hf : W.frozen? t = false) (ha : W.cell? a = some (.pointer (some t))) :
  Calls Tryd.prog 63 #[v, .iface 45 (.pointer (some t)), .agg #[.pointer (some ⟨6, 45, none⟩), .pointer (some a), .int .u64 150], .iface 146 (.agg #[.pointer (some ⟨6, 33, none⟩)])] W fun e w' => e = .returned (.bool true) ∧ ∃ w2, Below W.heap.size W w2 ∧ w' = w2.setCell t (.int .i64 k) := by
 have h58 := @run_callFunc_extern Tryd.prog 58 _ ReflectliteType.typeOf Tryd.func58 (by kernel_rfl) (by kernel_rfl) (by kernel_rfl) (by kernel_rfl)
 have h164 := @run_callFunc_extern Tryd.prog 164 _ (ReflectliteType.relation "AssignableTo" ReflectliteType.assignableTo) Tryd.func164 (by kernel_rfl) (by kernel_rfl) (by kernel_rfl) (by kernel_rfl)
 have h85 := @run_callFunc_extern Tryd.prog 85 _ (ReflectliteValue.method (ReflectliteValue.valueError "reflectlite.Value.Elem" 0) ReflectliteValue.elem) Tryd.func85 (by kernel_rfl) (by kernel_rfl) (by kernel_rfl) (by kernel_rfl)
 have h60 := @run_callFunc_extern Tryd.prog 60 _ (fun args => ReflectliteValue.unpack (args.getD 0 (.tuple #[]))) Tryd.func60 (by kernel_rfl) (by kernel_rfl) (by kernel_rfl) (by kernel_rfl)
 have h86 := @run_callFunc_extern Tryd.prog 86 _ ReflectliteValue.set Tryd.func86 (by kernel_rfl) (by kernel_rfl) (by kernel_rfl) (by kernel_rfl)
 have tO := e_typeOf33
 have tW := e_typeOf100
 have mA := e_methodAssignable
 have a33 := e_assignable33
 have a100 := e_assignable100
 have v33 := e_valueOf33
 have nA := e_noAsW
 have hU := e_hasUnwrapW
 have mU := e_methodUnwrap
 have HE := Aside0.mk hE
 have tl := World.block_lt_of_cell? W _ ht
 have al := World.block_lt_of_cell? W _ ha
 clear hE
 go_enter Tryd.func63, Tryd.ntmps63
 go_wp2
 have HB0 := Aside0.mk (Below.refl (W.alloc (.cells #[.pointer (some ⟨6, 45, none⟩), .pointer (some a), .int .u64 150] 111)).heap.size (W.alloc (.cells #[.pointer (some ⟨6, 45, none⟩), .pointer (some a), .int .u64 150] 111)))
 have HA : Aside0 (Below W.heap.size W (W.alloc (.cells #[.pointer (some ⟨6, 45, none⟩), .pointer (some a), .int .u64 150] 111))) := ⟨(Below.refl _ _).alloc (Nat.le_refl _) _⟩
 have HC : Aside0 (W.heap.size < (W.alloc (.cells #[.pointer (some ⟨6, 45, none⟩), .pointer (some a), .int .u64 150] 111)).heap.size ∧ (W.alloc (.cells #[.pointer (some ⟨6, 45, none⟩), .pointer (some a), .int .u64 150] 111)).heap[W.heap.size]? = some (.cells #[.pointer (some ⟨6, 45, none⟩), .pointer (some a), .int .u64 150] 111 (0, 0))) := ⟨by simp, blk_new W _⟩
 generalize W.alloc (.cells #[.pointer (some ⟨6, 45, none⟩), .pointer (some a), .int .u64 150] 111) = W1 at *
 go_loopg [0] (ps.length + 1) (fun kq v0 wr => ∃ qs : List (ByteArray × Int), kq = qs.length + 1 ∧ Aside0 (ErrIs wr qs v0 (.iface 33 (.int .i64 k)) ∧ Below W1.heap.size W1 wr))
 case atStart => exact ⟨ps, rfl, ⟨HE.out.below HA.out, HB0.out⟩⟩
 case round =>
  obtain ⟨qs, hq, HS⟩ := hrel
  have hbw := below_weaken HA.out HA.out.size HS.out.2
  have hbk := blk_below HC.out.2 HS.out.2
  have hx0 := blk_cell hbk 0
  have hx1 := blk_cell hbk 1
  have hx2 := blk_cell hbk 2
  simp only [List.getElem?_toArray, List.getElem?_cons_zero, List.getElem?_cons_succ] at hx0 hx1 hx2
  have HBW := Aside0.mk hbw
  clear hbk hbw
  cases qs with
  | nil =>
   obtain rfl : _ = Value.iface 33 (.int .i64 k) := HS.out.1
   have ta := (HBW.out.cell (p := a) al).trans ha
   have tt := (HBW.out.cell (p := t) tl).trans ht
   have tf : wr.frozen? t = false := by
    have := HBW.out.block t.block tl
    simpa [World.frozen?, this] using hf
   have tl2 : t.block < wr.heap.size := Nat.lt_of_lt_of_le tl HBW.out.size
   have ev := e_elemV45 a t wr ta
   have st := e_set33 t ⟨wr.heap.size, 0, none⟩ k old (wr.alloc (.cells #[.int .i64 k] 33)) (by simp [go_sem]) (by rw [World.cell?_alloc_lt _ _ t tl2]; exact tt) (by rw [World.frozen?_alloc_old _ _ t (Nat.ne_of_lt tl2)]; exact tf)
   go_wp2
   go_ret
   exact ⟨rfl, _, below_alloc HBW.out _, rfl⟩
  | cons p qs =>
   obtain ⟨b, vi, rfl, hb, hE⟩ := HS.out.1
   have HN := Aside0.mk hE
   have HU := Aside0.mk (unwrap_calls b p.1 p.2 vi wr hb)
   have hne : ∃ u x, vi = .iface u x := by
    cases qs with
    | nil => exact ⟨_, _, hE⟩
    | cons q qs => obtain ⟨b', vi', h, _⟩ := hE; exact ⟨_, _, h⟩
   obtain ⟨u, x, rfl⟩ := hne
   clear hE hb
   go_wp2_with (first | (go_at_call 158; refine HU.out.mono ?_; rintro e w' ⟨rfl, rfl⟩))
   go_roundg (qs.length + 1)
   case measure => rw [hq]; simp
   case rel => exact ⟨qs, rfl, ⟨HN.out, HS.out.2⟩⟩
theorem ErrIs.iface {w : World} {ps : List (ByteArray × Int)} {v : Value} {T : TypeId} {z : Value} (h : ErrIs w ps v (.iface T z)) : ∃ u x, v = .iface u x := by
 cases ps with
 | nil => exact ⟨_, _, h⟩
 | cons q qs => obtain ⟨b', vi', h, _⟩ := h; exact ⟨_, _, h⟩
def TypeVar (W : World) : Prop := W.cell? ⟨0, 0, none⟩ = some (.iface 146 (.agg #[.pointer (some ⟨6, 31, none⟩)]))
theorem TypeVar.below {w w' : World} (h : TypeVar w) (hb : Below w.heap.size w w') : TypeVar w' := (hb.cell (World.block_lt_of_cell? _ _ h)).trans h
set_option maxHeartbeats 4000000 in
set_option maxRecDepth 100000 in
theorem As_calls (ps : List (ByteArray × Int)) (v : Value) (t : Addr) (k : Int) (old : Value) (W : World) (hE : ErrIs W ps v (.iface 33 (.int .i64 k))) (hg : TypeVar W) (ht : W.cell? t = some old) (hf : W.frozen? t = false) :
  Calls Tryd.prog 26 #[v, .iface 45 (.pointer (some t))] W fun e w' => e = .returned (.bool true) ∧ ∃ w2, Below W.heap.size W w2 ∧ w' = w2.setCell t (.int .i64 k) := by
 have h60 := @run_callFunc_extern Tryd.prog 60 _ (fun args => ReflectliteValue.unpack (args.getD 0 (.tuple #[]))) Tryd.func60 (by kernel_rfl) (by kernel_rfl) (by kernel_rfl) (by kernel_rfl)
 have h61 := @run_callFunc_extern Tryd.prog 61 _ (ReflectliteValue.methodAny (ReflectliteValue.valueError "reflectlite.Value.Type" 0) (fun t _ _ _ => ReflectliteType.toType t)) Tryd.func61 (by kernel_rfl) (by kernel_rfl) (by kernel_rfl) (by kernel_rfl)
 have h62 := @run_callFunc_extern Tryd.prog 62 _ (ReflectliteValue.method (ReflectliteValue.valueError "reflectlite.Value.IsNil" 0) ReflectliteValue.isNil) Tryd.func62 (by kernel_rfl) (by kernel_rfl) (by kernel_rfl) (by kernel_rfl)
 have h154 := @run_callFunc_extern Tryd.prog 154 _ (ReflectliteType.abiMethod fun t => do pure (.int .u8 (← Rtype.kind t))) Tryd.func154 (by kernel_rfl) (by kernel_rfl) (by kernel_rfl) (by kernel_rfl)
 have h166 := @run_callFunc_extern Tryd.prog 166 _ (ReflectliteType.method ReflectliteType.elem) Tryd.func166 (by kernel_rfl) (by kernel_rfl) (by kernel_rfl) (by kernel_rfl)
 have h167 := @run_callFunc_extern Tryd.prog 167 _ (ReflectliteType.relation "Implements" ReflectliteType.implements_) Tryd.func167 (by kernel_rfl) (by kernel_rfl) (by kernel_rfl) (by kernel_rfl)
 have f6 := e_valueOf45
 have f7 := e_type45
 have mK := e_methodKind
 have mE := e_methodElem
 have mI := e_methodImplements
 have k45 := e_kind45
 have k33 := e_kind33
 have e45 := e_elem45
 have i33 := e_implements33
 obtain ⟨u, x, rfl⟩ := hE.iface
 have tl := World.block_lt_of_cell? W _ ht
 have gl := World.block_lt_of_cell? W _ hg
 have hg2 : ((W.alloc (.cells #[.pointer (some t)] 45)).alloc (.cells #[.pointer (some ⟨6, 45, none⟩), .pointer (some ⟨W.heap.size, 0, none⟩), .int .u64 150] 111)).cell? ⟨0, 0, none⟩ = some (.iface 146 (.agg #[.pointer (some ⟨6, 31, none⟩)])) := by
  rw [World.cell?_alloc_lt _ _ ⟨0, 0, none⟩ (by simp), World.cell?_alloc_lt _ _ ⟨0, 0, none⟩ gl]; exact hg
 have n62 := e_isNil45 ⟨W.heap.size, 0, none⟩ t ((W.alloc (.cells #[.pointer (some t)] 45)).alloc (.cells #[.pointer (some ⟨6, 45, none⟩), .pointer (some ⟨W.heap.size, 0, none⟩), .int .u64 150] 111)) (by simp)
 have HB : Aside0 (Below W.heap.size W ((W.alloc (.cells #[.pointer (some t)] 45)).alloc (.cells #[.pointer (some ⟨6, 45, none⟩), .pointer (some ⟨W.heap.size, 0, none⟩), .int .u64 150] 111))) := ⟨below_alloc (below_alloc (Below.refl _ _) _) _⟩
 have HT : Aside0 (((W.alloc (.cells #[.pointer (some t)] 45)).alloc (.cells #[.pointer (some ⟨6, 45, none⟩), .pointer (some ⟨W.heap.size, 0, none⟩), .int .u64 150] 111)).frozen? t = false) := ⟨by rw [World.frozen?_alloc_old _ _ t (by simp; omega), World.frozen?_alloc_old _ _ t (Nat.ne_of_lt tl)]; exact hf⟩
 have HA : Aside0 (((W.alloc (.cells #[.pointer (some t)] 45)).alloc (.cells #[.pointer (some ⟨6, 45, none⟩), .pointer (some ⟨W.heap.size, 0, none⟩), .int .u64 150] 111)).cell? ⟨W.heap.size, 0, none⟩ = some (.pointer (some t))) := ⟨by simp⟩
 have HAS := Aside0.mk (as_calls ps (.iface u x) t ⟨W.heap.size, 0, none⟩ k old _ (hE.below HB.out) ((HB.out.cell (p := t) tl).trans ht) HT.out HA.out)
 clear hE ht hf hg tl gl
 go_enter Tryd.func26, Tryd.ntmps26
 go_wp2_with (first | (go_at_call 63; refine HAS.out.mono ?_; rintro e w' ⟨rfl, w2, hb, rfl⟩; have HB2 := Aside0.mk (below_step HB.out hb); clear hb))
 go_ret
 exact ⟨rfl, _, HB2.out, rfl⟩
theorem cell_put {w : World} {b o : Nat} {u v : Value} (h : w.cell? ⟨b, o, none⟩ = some u) : (w.setCell ⟨b, o, none⟩ v).cell? ⟨b, o, none⟩ = some v := by simp [go_sem, h]
set_option maxHeartbeats 1000000 in
set_option maxRecDepth 100000 in
theorem Kind_calls (ps : List (ByteArray × Int)) (v : Value) (k : Int) (W : World) (hE : ErrIs W ps v (.iface 33 (.int .i64 k))) (hg : TypeVar W) :
  Calls Tryd.prog 20 #[v] W fun e w' => e = .returned (.int .i64 k) ∧ Below W.heap.size W w' := by
 obtain ⟨u, x, rfl⟩ := hE.iface
 have HB := Aside0.mk (below_alloc (Below.refl W.heap.size W) (.cells #[.int .i64 0] 33))
 have HAS := Aside0.mk (As_calls ps (.iface u x) ⟨W.heap.size, 0, none⟩ k (.int .i64 0) (W.alloc (.cells #[.int .i64 0] 33)) (hE.below HB.out) (hg.below HB.out) (by simp [go_sem]) (by simp))
 clear hE hg
 have hlt : W.heap.size < (W.alloc (.cells #[.int .i64 0] 33)).heap.size := by simp
 have hce : (W.alloc (.cells #[.int .i64 0] 33)).cell? ⟨W.heap.size, 0, none⟩ = some (.int .i64 0) := by simp [go_sem]
 go_enter Tryd.func20, Tryd.ntmps20
 go_wp2_with (first | (go_at_call 26; refine HAS.out.mono ?_; rintro e w' ⟨rfl, w2, hb, rfl⟩; have HB2 := Aside0.mk (below_step HB.out hb); have hc2 := (hb.cell (p := ⟨W.heap.size, 0, none⟩) hlt).trans hce; have hc3 : (w2.setCell ⟨W.heap.size, 0, none⟩ (.int .i64 k)).cell? ⟨W.heap.size, 0, none⟩ = some (.int .i64 k) := cell_put hc2; clear hb))
 go_ret
 exact ⟨rfl, below_set HB2.out (Nat.le_refl _)⟩
set_option maxHeartbeats 1000000 in
theorem Kind_nil (W : World) : Calls Tryd.prog 20 #[.nilIface] W fun e w' => e = .returned (.int .i64 0) ∧ w' = W := by
 go_enter Tryd.func20, Tryd.ntmps20
 go_wp2
 go_ret
 exact ⟨rfl, rfl⟩
set_option maxHeartbeats 1000000 in
theorem At_calls (ps : List (ByteArray × Int)) (v : Value) (T : TypeId) (z : Value) (s : ByteArray) (n : Int) (W : World) (hE : ErrIs W ps v (.iface T z)) : Calls Tryd.prog 27 #[v, .string s, .int .i64 n] W fun e w' => ∃ v', e = .returned v' ∧ ErrIs w' ((s, n) :: ps) v' (.iface T z) ∧ Below W.heap.size W w' := by
 obtain ⟨u, x, rfl⟩ := hE.iface
 have HE := Aside0.mk hE
 clear hE
 go_enter Tryd.func27, Tryd.ntmps27
 go_wp2
 go_ret
 exact ⟨_, rfl, ⟨_, _, rfl, blk_new W _, HE.out.below (below_alloc (Below.refl _ _) _)⟩, below_alloc (Below.refl _ _) _⟩
instance : Inhabited S75 := ⟨z75⟩
theorem opens75 : Opens Tryd.prog 75 k75 (fun x => 0 ≤ x.f2 ∧ x.f2 ≤ 18446744073709551615) :=
 (Opens.iso (Opens.struct (d := Kd.pair (Kd.int .i64) (Kd.pair (Kd.int .i64) (Kd.int .u64))) Tryd.underlying75 (by kernel_rfl)
  (OpensSeg.cons rfl (by kernel_rfl) (by decide) (opens_i64 Tryd.underlying3) (OpensSeg.cons rfl (by kernel_rfl) (by decide) (opens_i64 Tryd.underlying3) (OpensSeg.one rfl (by kernel_rfl) (opens_u64 Tryd.underlying22)))))
  (fun x : S75 => (x.f0, x.f1, x.f2)) (fun y => ⟨y.1, y.2.1, y.2.2⟩) (fun _ => rfl)).imp fun _ h => h.2.2
theorem opens59 : Opens Tryd.prog 59 (Kd.pair (Kd.int .i64) (Kd.pair (Kd.slice 75 k75) (Kd.slice 3 (Kd.int .i64)))) (fun y => ∀ x ∈ y.2.1, 0 ≤ x.f2 ∧ x.f2 ≤ 18446744073709551615) :=
 (Opens.struct Tryd.underlying59 (by kernel_rfl) (OpensSeg.cons rfl (by kernel_rfl) (by decide) (opens_i64 Tryd.underlying3) (OpensSeg.cons rfl (by kernel_rfl) (by decide) (Opens.slice Tryd.underlying56 (by kernel_rfl) opens75) (OpensSeg.one rfl (by kernel_rfl) (Opens.slice Tryd.underlying57 (by kernel_rfl) (opens_i64 Tryd.underlying3)))))).imp fun _ h => h.2.1.2
def dataL : List (String × DataW Unit) := [("math/bits.deBruijn32tab", Rows.laid_math_bits_deBruijn32tab), ("math/bits.deBruijn64tab", Rows.laid_math_bits_deBruijn64tab), ("internal/strconv.uint64pow10", Rows.laid_internal_strconv_uint64pow10)]
def listH : List (String × DataW Unit) := [("math/bits.deBruijn32tab", Rows.laid_math_bits_deBruijn32tab), ("math/bits.deBruijn64tab", Rows.laid_math_bits_deBruijn64tab), ("internal/strconv.uint64pow10", Rows.laid_internal_strconv_uint64pow10), ("errors.errorType", Rows.laid_errors_errorType)]
theorem et_var : Tryd.prog.globalNamed "errors.errorType" = some 0 := by kernel_rfl
theorem rt_type : (Tryd.prog.cutTypes.find? (·.1 == "internal/reflectlite.rtype")).map (·.2) = some 146 := by kernel_rfl
theorem types_size : Tryd.prog.types.size = 246 := by kernel_rfl
theorem error_row : ((List.range 246).filter fun t => Tryd.prog.rowNamed t [101, 114, 114, 111, 114]) = [31] := by kernel_rfl
theorem typeVar_of_laid {W : World} (h : laidMetH Tryd.prog listH W) : TypeVar W := by
 have h' : laidMet Tryd.prog dataL W ∧ handlesMet Tryd.prog [("errors.errorType", Rows.laid_errors_errorType)] W := h
 obtain ⟨name, u, ty, e1, e2, e3, e4, e5⟩ := h'.2 _ (List.mem_singleton.2 rfl)
 have en : name = [101, 114, 114, 111, 114] := (Option.some.inj e1).symm
 subst en
 obtain rfl := Option.some.inj (rt_type.symm.trans e2)
 have hm : ty ∈ (List.range 246).filter fun t => Tryd.prog.rowNamed t [101, 114, 114, 111, 114] := List.mem_filter.2 ⟨List.mem_range.2 (by rw [← types_size]; exact e3), e4⟩
 rw [error_row] at hm
 obtain rfl := List.mem_singleton.1 hm
 have hh : typeHandle Tryd.prog 31 = .pointer (some ⟨6, 31, none⟩) := by kernel_rfl
 rw [hh] at e5
 simpa [TypeVar] using World.var?_cell et_var e5 0
noncomputable def w0h (os : Os) : World :=
 let w0 := World.holding Tryd.prog os ⟨#[], #[], []⟩
 { w0 with heap := w0.heap.modify 0 fun
   | .cells _ t frozen => .cells #[.iface 146 (.agg #[.pointer (some ⟨6, 31, none⟩)])] t frozen
   | o => o }
noncomputable def laidW (os : Os) : World := (w0h os).layVars Tryd.prog dataL
theorem laidW_os (os : Os) : (laidW os).os = os := (World.layVars_os _ _ _).trans rfl
theorem laidW_met (os : Os) (args : Array Value) : laidMet Tryd.prog dataL ((laidW os).forCall (fun _ _ => 0) ⟨#[], args, []⟩).memory := by
 have e1 : (dataL.filter fun x => (dataL.map (·.1)).contains x.1) = dataL := List.filter_eq_self.2 fun x hx => List.contains_iff_mem.2 (List.mem_map.2 ⟨x, hx, rfl⟩)
 have e2 : (dataL.filter fun x => !(dataL.map (·.1)).contains x.1) = [] := List.filter_eq_nil_iff.2 fun x hx => by rw [List.contains_iff_mem.2 (List.mem_map.2 ⟨x, hx, rfl⟩)]; simp
 have h : laidMet Tryd.prog dataL (laidW os) := laidMet_layVars (w0 := w0h os) (dataL.map (·.1)) [] (by rw [e1]; rfl) (by rw [e1]; kernel_rfl) (by rw [e1]; kernel_rfl) (by rw [e2]; exact LaidIn.none)
 exact h.of_heap (by simp [World.memory, World.forCall, Input.heap])
theorem laidW_metH (os : Os) (args : Array Value) : laidMetH Tryd.prog listH ((laidW os).forCall (fun _ _ => 0) ⟨#[], args, []⟩).memory :=
 laidMetH_of_parts (laidW_met os args) (by kernel_rfl)
end Go.Proofs.YtgeldmhgbnamcaaDoor.P
end
section
set_option linter.unusedVariables false
namespace Go.Proofs.YtgeldmhgbnamcaaDoor.Pure.FW
def N : Int := 18446744073709551615
def pl (t s : Int) : Int := if N ≤ t + s then N else t + s
def In (x : Int) : Prop := 0 ≤ x ∧ x ≤ N
theorem pl_in {a b : Int} (ha : In a) (hb : In b) : In (pl a b) := by unfold In pl N at *; split <;> omega
theorem pl_zero {a : Int} (ha : In a) : pl a 0 = a := by unfold In pl N at *; split <;> omega
theorem zero_pl {a : Int} (ha : In a) : pl 0 a = a := by unfold In pl N at *; split <;> omega
theorem pl_mono {a b c d : Int} (h : a ≤ b) (h' : c ≤ d) : pl a c ≤ pl b d := by unfold pl N; split <;> split <;> omega
theorem pl_assoc {a b c : Int} (ha : In a) (hb : In b) (hc : In c) : pl (pl a b) c = pl a (pl b c) := by unfold In pl N at *; repeat' split <;> omega
theorem le_pl {a b : Int} (ha : In a) (hb : In b) : a ≤ pl a b := by unfold In pl N at *; split <;> omega
theorem le_pl' {a b : Int} (ha : In a) (hb : In b) : b ≤ pl a b := by unfold In pl N at *; split <;> omega
theorem in_zero : In 0 := by unfold In N; omega
theorem in_N : In N := by unfold In N; omega
structure Ed where
 f : Nat
 t : Nat
 a : Int
def EOk (n : Nat) (E : List Ed) : Prop := ∀ e ∈ E, e.f < n ∧ e.t < n ∧ In e.a
def D0 (i j : Nat) : Int := if i = j then 0 else N
theorem d0_in (i j : Nat) : In (D0 i j) := by unfold D0; split; exact in_zero; exact in_N
structure Pot (n : Nat) (E : List Ed) (y : Nat → Int) : Prop where
 inn : ∀ v, v < n → In (y v)
 edge : ∀ e ∈ E, y e.t ≤ pl (y e.f) e.a
abbrev Mat := Nat → Nat → Int
def addE (M : Mat) (e : Ed) : Mat := fun i j => if e.f ≠ e.t ∧ i = e.f ∧ j = e.t then min (M i j) e.a else M i j
def fw (M : Mat) (k : Nat) : Mat := fun i j => min (M i j) (pl (M i k) (M k j))
def wk (E : List Ed) : Nat → Mat
 | 0 => E.foldl addE D0
 | k + 1 => fw (wk E k) k
structure Good (n : Nat) (E : List Ed) (M : Mat) : Prop where
 inn : ∀ i j, i < n → j < n → In (M i j)
 diag : ∀ i, i < n → M i i = 0
 pot : ∀ y, Pot n E y → ∀ i j, i < n → j < n → y j ≤ pl (y i) (M i j)
theorem good_d0 (n : Nat) (E : List Ed) : Good n E D0 := by
 refine ⟨fun i j _ _ => d0_in i j, fun i _ => by simp [D0], fun y hy i j hi hj => ?_⟩
 unfold D0
 by_cases c : i = j
 ·subst c; rw [if_pos rfl, pl_zero (hy.inn i hi)]; exact Int.le_refl _
 ·rw [if_neg c]
  have := hy.inn i hi; have := hy.inn j hj
  exact Int.le_trans (hy.inn j hj).2 (le_pl' (hy.inn i hi) in_N)
theorem good_addE {n : Nat} {E : List Ed} (hE : EOk n E) {M : Mat} (h : Good n E M) {e : Ed} (he : e ∈ E) : Good n E (addE M e) := by
 obtain ⟨e1, e2, e3⟩ := hE e he
 refine ⟨fun i j hi hj => ?_, fun i hi => ?_, fun y hy i j hi hj => ?_⟩
 ·unfold addE; have := h.inn i j hi hj; unfold In at *; split <;> omega
 ·unfold addE; rw [if_neg (by rintro ⟨a, b, c⟩; exact a (b.symm.trans c))]; exact h.diag i hi
 ·unfold addE
  have h1 := h.pot y hy i j hi hj
  split
  next c =>
   obtain ⟨_, rfl, rfl⟩ := c
   have h2 := hy.edge e he
   rcases Int.le_total (M e.f e.t) e.a with q | q
   ·rw [Int.min_eq_left q]; exact h1
   ·rw [Int.min_eq_right q]; exact h2
  next c => exact h1
theorem good_foldE {n : Nat} {E : List Ed} (hE : EOk n E) : ∀ (F : List Ed), (∀ e ∈ F, e ∈ E) → ∀ M, Good n E M → Good n E (F.foldl addE M)
 | [], _, M, h => h
 | e :: F, hF, M, h => good_foldE hE F (fun x hx => hF x (List.mem_cons_of_mem _ hx)) _ (good_addE hE h (hF e List.mem_cons_self))
theorem addE_le (M : Mat) (e : Ed) (i j : Nat) : addE M e i j ≤ M i j := by unfold addE; split <;> omega
theorem foldE_le : ∀ (F : List Ed) (M : Mat) (i j : Nat), F.foldl addE M i j ≤ M i j
 | [], M, i, j => Int.le_refl _
 | e :: F, M, i, j => Int.le_trans (foldE_le F _ i j) (addE_le M e i j)
theorem foldE_edge : ∀ (F : List Ed) (M : Mat) (e : Ed), e ∈ F → e.f ≠ e.t → F.foldl addE M e.f e.t ≤ e.a
 | d :: F, M, e, h, hn => by
  rcases List.mem_cons.1 h with rfl | h
  ·refine Int.le_trans (foldE_le F _ _ _) ?_
   unfold addE; rw [if_pos ⟨hn, rfl, rfl⟩]; omega
  ·exact foldE_edge F _ e h hn
theorem good_fw {n : Nat} {E : List Ed} {M : Mat} (h : Good n E M) {k : Nat} (hk : k < n) : Good n E (fw M k) := by
 refine ⟨fun i j hi hj => ?_, fun i hi => ?_, fun y hy i j hi hj => ?_⟩
 ·unfold fw; have := h.inn i j hi hj; have := pl_in (h.inn i k hi hk) (h.inn k j hk hj); unfold In at *; omega
 ·unfold fw; rw [h.diag i hi]; have := pl_in (h.inn i k hi hk) (h.inn k i hk hi); unfold In at this; omega
 ·unfold fw
  have h1 := h.pot y hy i j hi hj
  have h2 := h.pot y hy i k hi hk
  have h3 := h.pot y hy k j hk hj
  have h4 : y j ≤ pl (y i) (pl (M i k) (M k j)) := by
   rw [← pl_assoc (hy.inn i hi) (h.inn i k hi hk) (h.inn k j hk hj)]
   exact Int.le_trans h3 (pl_mono h2 (Int.le_refl _))
  rcases Int.le_total (M i j) (pl (M i k) (M k j)) with q | q
  ·rw [Int.min_eq_left q]; exact h1
  ·rw [Int.min_eq_right q]; exact h4
theorem good_wk {n : Nat} {E : List Ed} (hE : EOk n E) : ∀ k, k ≤ n → Good n E (wk E k)
 | 0, _ => good_foldE hE E (fun _ h => h) _ (good_d0 n E)
 | k + 1, h => good_fw (good_wk hE k (by omega)) (by omega)
theorem wk_edge {n : Nat} {E : List Ed} (hE : EOk n E) : ∀ k, k ≤ n → ∀ e ∈ E, wk E k e.f e.t ≤ e.a
 | 0, h, e, he => by
  by_cases c : e.f = e.t
  ·have := (good_wk hE 0 h).diag e.f (hE e he).1
   rw [← c, this]; exact (hE e he).2.2.1
  ·exact foldE_edge E D0 e he c
 | k + 1, h, e, he => by
  have := wk_edge hE k (by omega) e he
  show fw (wk E k) k e.f e.t ≤ e.a
  unfold fw; omega
theorem wk_tri {n : Nat} {E : List Ed} (hE : EOk n E) : ∀ k, k ≤ n → ∀ q i j, q < k → i < n → j < n → wk E k i j ≤ pl (wk E k i q) (wk E k q j)
 | 0, _, q, _, _, h, _, _ => by omega
 | k + 1, hk, q, i, j, hq, hi, hj => by
  have G := good_wk hE k (by omega)
  have hkn : k < n := by omega
  have hqn : q < n := by omega
  have iik := G.inn i k hi hkn; have ikj := G.inn k j hkn hj; have iij := G.inn i j hi hj
  have iiq := G.inn i q hi hqn; have iqj := G.inn q j hqn hj; have ikq := G.inn k q hkn hqn; have iqk := G.inn q k hqn hkn
  show fw (wk E k) k i j ≤ pl (fw (wk E k) k i q) (fw (wk E k) k q j)
  by_cases c : q = k
  ·subst c
   have e1 : fw (wk E q) q i q = wk E q i q := by unfold fw; rw [G.diag q hqn, pl_zero iik]; omega
   have e2 : fw (wk E q) q q j = wk E q q j := by unfold fw; rw [G.diag q hqn, zero_pl ikj]; omega
   rw [e1, e2]; unfold fw; omega
  ·have hq' : q < k := by omega
   have T1 := wk_tri hE k (by omega) q i j hq' hi hj
   have T2 := wk_tri hE k (by omega) q k j hq' hkn hj
   have T3 := wk_tri hE k (by omega) q i k hq' hi hkn
   have L1 : fw (wk E k) k i j ≤ wk E k i j := by unfold fw; omega
   have L2 : fw (wk E k) k i j ≤ pl (wk E k i k) (wk E k k j) := by unfold fw; omega
   generalize fw (wk E k) k i j = R at L1 L2 ⊢
   unfold fw
   rcases Int.le_total (wk E k i q) (pl (wk E k i k) (wk E k k q)) with a | a <;> rcases Int.le_total (wk E k q j) (pl (wk E k q k) (wk E k k j)) with b | b
   ·rw [Int.min_eq_left a, Int.min_eq_left b]; exact Int.le_trans L1 T1
   ·rw [Int.min_eq_left a, Int.min_eq_right b, ← pl_assoc iiq iqk ikj]
    exact Int.le_trans L2 (pl_mono T3 (Int.le_refl _))
   ·rw [Int.min_eq_right a, Int.min_eq_left b, pl_assoc iik ikq iqj]
    exact Int.le_trans L2 (pl_mono (Int.le_refl _) T2)
   ·rw [Int.min_eq_right a, Int.min_eq_right b]
    refine Int.le_trans L2 (pl_mono (le_pl iik ikq) (le_pl' iqk ikj))
theorem ways_pot {n : Nat} {E : List Ed} (hE : EOk n E) {i : Nat} (hi : i < n) : Pot n E (wk E n i) := by
 have G := good_wk hE n (Nat.le_refl n)
 refine ⟨fun v hv => G.inn i v hi hv, fun e he => ?_⟩
 obtain ⟨h1, h2, h3⟩ := hE e he
 exact Int.le_trans (wk_tri hE n (Nat.le_refl n) e.f i e.t h1 hi h2) (pl_mono (Int.le_refl _) (wk_edge hE n (Nat.le_refl n) e he))
theorem ways_most {n : Nat} {E : List Ed} (hE : EOk n E) {i j : Nat} (hi : i < n) (hj : j < n) {y : Nat → Int} (hy : Pot n E y) (h0 : y i = 0) : y j ≤ wk E n i j := by
 have G := good_wk hE n (Nat.le_refl n)
 have := G.pot y hy i j hi hj
 rwa [h0, zero_pl (G.inn i j hi hj)] at this
def rsx (r : Nat → Int) (e : Ed) : Nat → Int := fun j => if j = e.t ∧ pl (r e.f) e.a < r e.t then pl (r e.f) e.a else r j
def cl (E : List Ed) (i : Nat) : Nat → Nat → Int
 | 0 => D0 i
 | m + 1 => E.foldl rsx (cl E i m)
theorem rs_le (r : Nat → Int) (e : Ed) (j : Nat) : rsx r e j ≤ r j := by
 unfold rsx
 split
 ·next c => rw [c.1]; omega
 ·next c => exact Int.le_refl _
theorem foldr_le : ∀ (F : List Ed) (r : Nat → Int) (j : Nat), F.foldl rsx r j ≤ r j
 | [], r, j => Int.le_refl _
 | e :: F, r, j => Int.le_trans (foldr_le F _ j) (rs_le r e j)
theorem foldr_edge : ∀ (F : List Ed) (r : Nat → Int) (e : Ed), e ∈ F → F.foldl rsx r e.t ≤ pl (r e.f) e.a
 | d :: F, r, e, h => by
  rcases List.mem_cons.1 h with rfl | h
  ·refine Int.le_trans (foldr_le F _ _) ?_
   unfold rsx; split
   ·exact Int.le_refl _
   ·next c => exact Int.not_lt.1 (fun q => c ⟨rfl, q⟩)
  ·exact Int.le_trans (foldr_edge F _ e h) (pl_mono (rs_le r d e.f) (Int.le_refl _))
structure RGood (n : Nat) (E : List Ed) (i : Nat) (r : Nat → Int) : Prop where
 inn : ∀ j, j < n → In (r j)
 pot : ∀ y, Pot n E y → y i = 0 → ∀ j, j < n → y j ≤ r j
theorem rgood_rs {n : Nat} {E : List Ed} (hE : EOk n E) {i : Nat} {r : Nat → Int} (h : RGood n E i r) {e : Ed} (he : e ∈ E) : RGood n E i (rsx r e) := by
 obtain ⟨h1, h2, h3⟩ := hE e he
 refine ⟨fun j hj => ?_, fun y hy h0 j hj => ?_⟩
 ·unfold rsx; split
  ·exact pl_in (h.inn _ h1) h3
  ·exact h.inn j hj
 ·unfold rsx; split
  next c => rw [c.1]; exact Int.le_trans (hy.edge e he) (pl_mono (h.pot y hy h0 _ h1) (Int.le_refl _))
  next c => exact h.pot y hy h0 j hj
theorem rgood_fold {n : Nat} {E : List Ed} (hE : EOk n E) {i : Nat} : ∀ (F : List Ed), (∀ e ∈ F, e ∈ E) → ∀ r, RGood n E i r → RGood n E i (F.foldl rsx r)
 | [], _, r, h => h
 | e :: F, hF, r, h => rgood_fold hE F (fun x hx => hF x (List.mem_cons_of_mem _ hx)) _ (rgood_rs hE h (hF e List.mem_cons_self))
theorem rgood_cl {n : Nat} {E : List Ed} (hE : EOk n E) {i : Nat} (hi : i < n) : ∀ m, RGood n E i (cl E i m)
 | 0 => ⟨fun j _ => d0_in i j, fun y hy h0 j hj => by
   show y j ≤ D0 i j
   unfold D0; split
   next c => rw [← c, h0]; exact Int.le_refl _
   next c => exact (hy.inn j hj).2⟩
 | m + 1 => rgood_fold hE E (fun _ h => h) _ (rgood_cl hE hi m)
theorem cl_le {n : Nat} {E : List Ed} (hE : EOk n E) {i j : Nat} (hi : i < n) (hj : j < n) (m : Nat) : wk E n i j ≤ cl E i m j :=
 (rgood_cl hE hi m).pot _ (ways_pot hE hi) ((good_wk hE n (Nat.le_refl n)).diag i hi) j hj
theorem cl_down (E : List Ed) (i j m : Nat) : cl E i (m + 1) j ≤ cl E i m j := foldr_le E _ j
theorem cl_zero {n : Nat} {E : List Ed} (hE : EOk n E) {i : Nat} (hi : i < n) : ∀ m, cl E i m i = 0
 | 0 => by simp [cl, D0]
 | m + 1 => by
  have h1 := cl_down E i i m
  rw [cl_zero hE hi m] at h1
  have := ((rgood_cl hE hi (m + 1)).inn i hi).1
  omega
theorem settles {n : Nat} {E : List Ed} (hE : EOk n E) {i : Nat} (hi : i < n) (m : Nat) (h : ∀ j, j < n → cl E i m j ≠ wk E n i j → cl E i (m + 1) j ≠ wk E n i j) : ∀ j, j < n → cl E i m j = wk E n i j := by
 have P := ways_pot hE hi
 have hz := (good_wk hE n (Nat.le_refl n)).diag i hi
 let y : Nat → Int := fun j => if cl E i m j = wk E n i j then wk E n i j else wk E n i j + 1
 have lo : ∀ j, wk E n i j ≤ y j := fun j => by
  by_cases c : cl E i m j = wk E n i j
  ·have : y j = wk E n i j := if_pos c
   omega
  ·have : y j = wk E n i j + 1 := if_neg c
   omega
 have hy : Pot n E y := by
  refine ⟨fun v hv => ?_, fun e he => ?_⟩
  ·by_cases c : cl E i m v = wk E n i v
   ·have : y v = wk E n i v := if_pos c
    rw [this]; exact P.inn v hv
   ·have : y v = wk E n i v + 1 := if_neg c
    rw [this]
    have h1 := cl_le hE hi hv m; have h2 := (rgood_cl hE hi m).inn v hv; have h3 := P.inn v hv
    unfold In at *; omega
  ·obtain ⟨h1, h2, h3⟩ := hE e he
   have pe := P.edge e he
   by_cases ct : cl E i m e.t = wk E n i e.t
   ·have : y e.t = wk E n i e.t := if_pos ct
    rw [this]
    exact Int.le_trans pe (pl_mono (lo e.f) (Int.le_refl _))
   ·have yt : y e.t = wk E n i e.t + 1 := if_neg ct
    by_cases cf : cl E i m e.f = wk E n i e.f
    ·have yf : y e.f = wk E n i e.f := if_pos cf
     rw [yt, yf]
     have h4 := h e.t h2 ct
     have h5 : cl E i (m + 1) e.t ≤ pl (cl E i m e.f) e.a := foldr_edge E _ e he
     rw [cf] at h5
     have h6 := cl_le hE hi h2 (m + 1)
     omega
    ·have yf : y e.f = wk E n i e.f + 1 := if_neg cf
     rw [yt, yf]
     have h4 := cl_le hE hi h2 m; have h5 := (rgood_cl hE hi m).inn _ h2
     have h6 := P.inn _ h2
     have h7 := P.inn _ h1
     unfold pl at *
     unfold In N at *
     split at pe <;> split <;> omega
 intro j hj
 have h0 : y i = 0 := (if_pos (by rw [cl_zero hE hi m, hz]) : y i = wk E n i i).trans hz
 have := ways_most hE hi hj hy h0
 by_cases c : cl E i m j = wk E n i j
 ·exact c
 ·have : y j = wk E n i j + 1 := if_neg c
  omega
theorem count_lt {α : Type} {p q : α → Bool} : ∀ {l : List α} {x : α}, (∀ x ∈ l, p x = true → q x = true) → x ∈ l → q x = true → p x = false → l.countP p < l.countP q
 | a :: l, x, h, hx, h1, h2 => by
  rw [List.countP_cons, List.countP_cons]
  have mono : l.countP p ≤ l.countP q := List.countP_mono_left fun x hx => h x (List.mem_cons_of_mem _ hx)
  rcases List.mem_cons.1 hx with rfl | hx
  ·rw [if_neg (by simp [h2]), if_pos h1]; omega
  ·have := count_lt (fun x hx => h x (List.mem_cons_of_mem _ hx)) hx h1 h2
   have : (if p a = true then 1 else 0) ≤ (if q a = true then 1 else 0) := by
    by_cases c : p a = true
    ·rw [if_pos c, if_pos (h a List.mem_cons_self c)]; exact Nat.le_refl 1
    ·rw [if_neg c]; exact Nat.zero_le _
   omega
theorem cl_count {n : Nat} {E : List Ed} (hE : EOk n E) {i : Nat} (hi : i < n) : ∀ m, m < n → m + 1 ≤ (List.range n).countP fun j => decide (cl E i m j = wk E n i j)
 | 0, _ => by
  apply List.countP_pos_iff.2
  exact ⟨i, List.mem_range.2 hi, decide_eq_true (by rw [cl_zero hE hi, (good_wk hE n (Nat.le_refl n)).diag i hi])⟩
 | m + 1, hm => by
  have ih := cl_count hE hi m (by omega)
  by_cases c : ∀ j, j < n → cl E i m j ≠ wk E n i j → cl E i (m + 1) j ≠ wk E n i j
  ·have S := settles hE hi m c
   have : (List.range n).countP (fun j => decide (cl E i (m + 1) j = wk E n i j)) = n := by
    rw [List.countP_eq_length.2, List.length_range]
    intro j hj
    have hj := List.mem_range.1 hj
    apply decide_eq_true
    have h1 := cl_down E i j m; rw [S j hj] at h1
    have h2 := cl_le hE hi hj (m + 1)
    omega
   omega
  ·simp only [Classical.not_forall] at c
   obtain ⟨j, hj, h1, h2⟩ := c
   have h2 := Classical.not_not.1 h2
   have := count_lt (p := fun j => decide (cl E i m j = wk E n i j)) (q := fun j => decide (cl E i (m + 1) j = wk E n i j)) (l := List.range n) (x := j) (fun x hx hp => ?_) (List.mem_range.2 hj) (decide_eq_true h2) (decide_eq_false h1)
   ·omega
   ·have hp := of_decide_eq_true hp
    apply decide_eq_true
    have h3 := cl_down E i x m; rw [hp] at h3
    have h4 := cl_le hE hi (List.mem_range.1 hx) (m + 1)
    omega
theorem cl_ways {n : Nat} {E : List Ed} (hE : EOk n E) {i j : Nat} (hi : i < n) (hj : j < n) : cl E i n j = wk E n i j := by
 obtain ⟨m, rfl⟩ : ∃ m, n = m + 1 := ⟨n - 1, by omega⟩
 have h1 := cl_count hE hi m (by omega)
 have h2 := List.countP_le_length (p := fun j => decide (cl E i m j = wk E (m + 1) i j)) (l := List.range (m + 1))
 rw [List.length_range] at h2
 have h3 := List.countP_eq_length.1 (show (List.range (m + 1)).countP (fun j => decide (cl E i m j = wk E (m + 1) i j)) = (List.range (m + 1)).length by rw [List.length_range]; omega) j (List.mem_range.2 hj)
 have h3 := of_decide_eq_true h3
 have h4 := cl_down E i j m; rw [h3] at h4
 have h5 := cl_le hE hi hj (m + 1)
 omega
end Go.Proofs.YtgeldmhgbnamcaaDoor.Pure.FW
end
section
namespace Go.Proofs.YtgeldmhgbnamcaaDoor.Q
open Go.RowKit Go.Proofs.YtgeldmhgbnamcaaDoorW.PrintWords Go.Proofs.YtgeldmhgbnamcaaDoorW.PrintLast Go.Proofs.YtgeldmhgbnamcaaDoorW.PrintMore
attribute [local go_sem] max2_int min2_int max_two min_two max_three min_three max_four min_four
set_option linter.unusedVariables false
set_option linter.unusedSimpArgs false
def errW : Option Int → Value
  | none => .nilIface
  | some c => .iface 33 (.int .i64 c)
theorem errW_none : errW none = .nilIface := rfl
theorem errW_some (c : Int) : errW (some c) = .iface 33 (.int .i64 c) := rfl
theorem info3 : (Tryd.prog.info? 3).map (fun i => (i.zero, i.size, i.bytes)) = some (some (.int .i64 0), 1, 8) := by kernel_rfl
theorem info22 : (Tryd.prog.info? 22).map (fun i => (i.zero, i.size, i.bytes)) = some (some (.int .u64 0), 1, 8) := by kernel_rfl
theorem info42 : (Tryd.prog.info? 42).map (fun i => (i.zero, i.size, i.bytes)) = some (some (.agg #[(.string ⟨#[]⟩), (.int .i64 0)]), 2, 24) := by kernel_rfl
theorem info73 : (Tryd.prog.info? 73).map (fun i => (i.zero, i.size, i.bytes)) = some (some (.slice none 0 0), 1, 24) := by kernel_rfl
theorem info127 : (Tryd.prog.info? 127).map (fun i => (i.zero, i.size, i.bytes)) = some (some (.agg #[(.int .i64 0), (.int .i64 0), (.int .u64 0)]), 3, 24) := by kernel_rfl
structure S42 where
  f0 : ByteArray
  f1 : Int
def z42 : S42 := ⟨(⟨#[]⟩ : ByteArray), (0 : Int)⟩
def k42 : Kd S42 := Kd.iso (Kd.pair Kd.string (Kd.int .i64)) (fun x : S42 => (x.f0, x.f1))
theorem k42_open {w : World} {x : S42} {cs : List Value} (h : k42.K w x cs) : cs = [.string x.f0, .int .i64 x.f1] := by
  obtain ⟨_, _, rfl, rfl, rfl⟩ := h
  exact rfl
theorem k42_mkM (w : World) (base : Nat) (ok : Nat → Prop) (x : S42)  : k42.M w base ok x [.string x.f0, .int .i64 x.f1] := ⟨[.string x.f0], [.int .i64 x.f1], rfl, rfl, rfl⟩
def rd_T42 (xs : List S42) (i : Int) : S42 := xs.getD i.toNat z42
theorem at_T42 {w : World} {A : Option Addr} {n : Nat} {xs : List S42} (h : Kd.C k42 w A n xs) (i : Int) (h0 : 0 ≤ i) (h1 : i < n) : ∃ ad , A = some ad ∧ w.cell? (ad.add (i.toNat * 2)) = some (.string (rd_T42 xs i).f0) ∧ w.cell? ⟨(ad.add (i.toNat * 2)).block, (ad.add (i.toNat * 2)).off + 1, none⟩ = some (.int .i64 (rd_T42 xs i).f1) := by
  obtain ⟨ad, c, e, _, hK, hc0⟩ := Kd.C_get h z42 i h0 h1
  have hc : ∀ j u, c[j]? = some u → w.cell? (ad.add (i.toNat * 2 + j)) = some u := hc0
  obtain rfl := k42_open hK
  exact ⟨ad, e, hc 0 _ rfl, by rw [← add_field _ _ 1 (by omega)]; exact hc 1 _ rfl⟩
structure S75 where
  f0 : Int
  f1 : Int
  f2 : Int
def z75 : S75 := ⟨(0 : Int), (0 : Int), (0 : Int)⟩
def k75 : Kd S75 := Kd.iso (Kd.pair (Kd.int .i64) (Kd.pair (Kd.int .i64) (Kd.int .u64))) (fun x : S75 => (x.f0, x.f1, x.f2))
theorem k75_open {w : World} {x : S75} {cs : List Value} (h : k75.K w x cs) : cs = [.int .i64 x.f0, .int .i64 x.f1, .int .u64 x.f2] := by
  obtain ⟨_, _, rfl, rfl, ⟨_, _, rfl, rfl, rfl⟩⟩ := h
  exact rfl
def rd_T75 (xs : List S75) (i : Int) : S75 := xs.getD i.toNat z75
theorem at_T75 {w : World} {A : Option Addr} {n : Nat} {xs : List S75} (h : Kd.C k75 w A n xs) (i : Int) (h0 : 0 ≤ i) (h1 : i < n) : ∃ ad , A = some ad ∧ w.cell? (ad.add (i.toNat * 3)) = some (.int .i64 (rd_T75 xs i).f0) ∧ w.cell? ⟨(ad.add (i.toNat * 3)).block, (ad.add (i.toNat * 3)).off + 1, none⟩ = some (.int .i64 (rd_T75 xs i).f1) ∧ w.cell? ⟨(ad.add (i.toNat * 3)).block, (ad.add (i.toNat * 3)).off + 2, none⟩ = some (.int .u64 (rd_T75 xs i).f2) := by
  obtain ⟨ad, c, e, _, hK, hc0⟩ := Kd.C_get h z75 i h0 h1
  have hc : ∀ j u, c[j]? = some u → w.cell? (ad.add (i.toNat * 3 + j)) = some u := hc0
  obtain rfl := k75_open hK
  exact ⟨ad, e, hc 0 _ rfl, by rw [← add_field _ _ 1 (by omega)]; exact hc 1 _ rfl, by rw [← add_field _ _ 2 (by omega)]; exact hc 2 _ rfl⟩
structure S127 where
  f0 : Int
  f1 : Int
  f2 : Int
def z127 : S127 := ⟨(0 : Int), (0 : Int), (0 : Int)⟩
def k127 : Kd S127 := Kd.iso (Kd.pair (Kd.int .i64) (Kd.pair (Kd.int .i64) (Kd.int .u64))) (fun x : S127 => (x.f0, x.f1, x.f2))
theorem k127_open {w : World} {x : S127} {cs : List Value} (h : k127.K w x cs) : cs = [.int .i64 x.f0, .int .i64 x.f1, .int .u64 x.f2] := by
  obtain ⟨_, _, rfl, rfl, ⟨_, _, rfl, rfl, rfl⟩⟩ := h
  exact rfl
theorem k127_mkM (w : World) (base : Nat) (ok : Nat → Prop) (x : S127)  : k127.M w base ok x [.int .i64 x.f0, .int .i64 x.f1, .int .u64 x.f2] := ⟨[.int .i64 x.f0], [.int .i64 x.f1, .int .u64 x.f2], rfl, rfl, ⟨[.int .i64 x.f1], [.int .u64 x.f2], rfl, rfl, rfl⟩⟩
def rd_T127 (xs : List S127) (i : Int) : S127 := xs.getD i.toNat z127
theorem at_T127 {w : World} {A : Option Addr} {n : Nat} {xs : List S127} (h : Kd.C k127 w A n xs) (i : Int) (h0 : 0 ≤ i) (h1 : i < n) : ∃ ad , A = some ad ∧ w.cell? (ad.add (i.toNat * 3)) = some (.int .i64 (rd_T127 xs i).f0) ∧ w.cell? ⟨(ad.add (i.toNat * 3)).block, (ad.add (i.toNat * 3)).off + 1, none⟩ = some (.int .i64 (rd_T127 xs i).f1) ∧ w.cell? ⟨(ad.add (i.toNat * 3)).block, (ad.add (i.toNat * 3)).off + 2, none⟩ = some (.int .u64 (rd_T127 xs i).f2) := by
  obtain ⟨ad, c, e, _, hK, hc0⟩ := Kd.C_get h z127 i h0 h1
  have hc : ∀ j u, c[j]? = some u → w.cell? (ad.add (i.toNat * 3 + j)) = some u := hc0
  obtain rfl := k127_open hK
  exact ⟨ad, e, hc 0 _ rfl, by rw [← add_field _ _ 1 (by omega)]; exact hc 1 _ rfl, by rw [← add_field _ _ 2 (by omega)]; exact hc 2 _ rfl⟩
def rd_L8 (xs : List (List Int)) (i : Int) : (List Int) := xs.getD i.toNat ([] : List Int)
theorem at_L8 {w : World} {A : Option Addr} {n : Nat} {xs : List (List Int)} (h : Kd.C (Kd.slice 22 (Kd.int .u64)) w A n xs) (i : Int) (h0 : 0 ≤ i) (h1 : i < n) : ∃ ad A0 c0, A = some ad ∧ w.cell? (ad.add i.toNat) = some (.slice A0 (rd_L8 xs i).length c0) ∧ (rd_L8 xs i).length ≤ c0 ∧ (Kd.int .u64).C w A0 (rd_L8 xs i).length (rd_L8 xs i) := by
  obtain ⟨ad, c, e, _, hK, hc0⟩ := Kd.C_get h ([] : List Int) i h0 h1
  have hc : ∀ j u, c[j]? = some u → w.cell? (ad.add (i.toNat * 1 + j)) = some u := hc0
  obtain ⟨A0, c0, rfl, l0, g0⟩ := hK
  exact ⟨ad, A0, c0, e, by have hq := hc 0 _ rfl; rwa [Nat.mul_one, Nat.add_zero] at hq, l0, g0⟩
def stamp_Plus.f (a0 : Int) (a1 : Int) : Option (Int) := if a0 ≥ (IntKind.u64.wrap (18446744073709551615 - a1)) then (some 18446744073709551615) else (some (IntKind.u64.wrap (a0 + a1)))
set_option maxHeartbeats 8000000 in
set_option maxRecDepth 100000 in
theorem stamp_Plus.calls (a0 : Int) (a1 : Int) (r : Int) (w : World) (h : stamp_Plus.f a0 a1 = some r) :
    Calls Tryd.prog 12 #[.int .u64 a0, .int .u64 a1] w fun e w' => e = .returned (.int .u64 r) ∧ Drawn0 w w' := by
  have H : (if a0 ≥ (IntKind.u64.wrap (18446744073709551615 - a1)) then (some 18446744073709551615) else (some (IntKind.u64.wrap (a0 + a1)))) = some r := h
  clear h
  by_cases c3 : a0 ≥ (IntKind.u64.wrap (18446744073709551615 - a1))
  · rw [if_pos c3] at H
    have c3b0 : decide ((IntKind.u64.wrap (18446744073709551615 - a1)) ≤ a0) = true := decide_eq_true c3
    clear c3
    obtain rfl := Option.some.inj H
    go_enter Tryd.func12, Tryd.ntmps12
    go_wp2
    go_ret
    exact ⟨by first | rfl | (simp; done) | (simp [*]; done), by repeat (first | exact Drawn0.refl _ | apply Drawn0.step)⟩
  · rw [if_neg c3] at H
    have c3b0 : decide ((IntKind.u64.wrap (18446744073709551615 - a1)) ≤ a0) = false := decide_eq_false c3
    clear c3
    obtain rfl := Option.some.inj H
    go_enter Tryd.func12, Tryd.ntmps12
    go_wp2
    go_ret
    exact ⟨by first | rfl | (simp; done) | (simp [*]; done), by repeat (first | exact Drawn0.refl _ | apply Drawn0.step)⟩
end Go.Proofs.YtgeldmhgbnamcaaDoor.Q
end
section
namespace Go.Proofs.YtgeldmhgbnamcaaDoor.P
open Go.RowKit Go.Proofs.YtgeldmhgbnamcaaDoorW.PrintWords Go.Proofs.YtgeldmhgbnamcaaDoorW.PrintLast Go.Proofs.YtgeldmhgbnamcaaDoorW.PrintMore
attribute [local go_sem] max2_int min2_int max_two min_two max_three min_three max_four min_four   -- for this text's walks alone
set_option linter.unusedVariables false
set_option linter.unusedSimpArgs false
/-! ### bits_Mul64: function 128 -/
def bits_Mul64.f (a0 : Int) (a1 : Int) : Option (Int × Int) := some (IntKind.u64.wrap ((IntKind.u64.wrap ((IntKind.u64.wrap ((a0 / 4294967296) * (a1 / 4294967296))) + ((IntKind.u64.wrap ((IntKind.u64.wrap ((a0 / 4294967296) * (Go.bits .and .u64 a1 4294967295))) + ((IntKind.u64.wrap ((Go.bits .and .u64 a0 4294967295) * (Go.bits .and .u64 a1 4294967295))) / 4294967296))) / 4294967296))) + ((IntKind.u64.wrap ((Go.bits .and .u64 (IntKind.u64.wrap ((IntKind.u64.wrap ((a0 / 4294967296) * (Go.bits .and .u64 a1 4294967295))) + ((IntKind.u64.wrap ((Go.bits .and .u64 a0 4294967295) * (Go.bits .and .u64 a1 4294967295))) / 4294967296))) 4294967295) + (IntKind.u64.wrap ((Go.bits .and .u64 a0 4294967295) * (a1 / 4294967296))))) / 4294967296)), IntKind.u64.wrap (a0 * a1))
set_option maxHeartbeats 8000000 in
set_option maxRecDepth 100000 in
theorem bits_Mul64.calls (a0 : Int) (a1 : Int) (r1 : Int) (r2 : Int) (w : World) (h : bits_Mul64.f a0 a1 = some (r1, r2)) :
  Calls Tryd.prog 128 #[.int .u64 a0, .int .u64 a1] w fun e w' => e = .returned (.tuple #[.int .u64 r1, .int .u64 r2]) ∧ Drawn0 w w' := by
 (have H : (some (IntKind.u64.wrap ((IntKind.u64.wrap ((IntKind.u64.wrap ((a0 / 4294967296) * (a1 / 4294967296))) + ((IntKind.u64.wrap ((IntKind.u64.wrap ((a0 / 4294967296) * (Go.bits .and .u64 a1 4294967295))) + ((IntKind.u64.wrap ((Go.bits .and .u64 a0 4294967295) * (Go.bits .and .u64 a1 4294967295))) / 4294967296))) / 4294967296))) + ((IntKind.u64.wrap ((Go.bits .and .u64 (IntKind.u64.wrap ((IntKind.u64.wrap ((a0 / 4294967296) * (Go.bits .and .u64 a1 4294967295))) + ((IntKind.u64.wrap ((Go.bits .and .u64 a0 4294967295) * (Go.bits .and .u64 a1 4294967295))) / 4294967296))) 4294967295) + (IntKind.u64.wrap ((Go.bits .and .u64 a0 4294967295) * (a1 / 4294967296))))) / 4294967296)), IntKind.u64.wrap (a0 * a1))) = some (r1, r2) := h); clear h; simp only [Option.some.injEq, Prod.mk.injEq] at H; obtain ⟨rfl, rfl⟩ := H; go_enter Tryd.func128, Tryd.ntmps128; go_wp2; go_ret2; (exact ⟨by first | rfl | (simp; done) | (simp [*]; done), by repeat (first | exact Drawn0.refl _ | apply Drawn0.step)⟩)
/-! ### bits_Mul: function 113 -/
def bits_Mul.f (a0 : Int) (a1 : Int) : Option (Int × Int) := (bits_Mul64.f a0 a1).bind fun bt156 => (some (bt156.1, bt156.2))
set_option maxHeartbeats 8000000 in
set_option maxRecDepth 100000 in
theorem bits_Mul.calls (a0 : Int) (a1 : Int) (r1 : Int) (r2 : Int) (w : World) (h : bits_Mul.f a0 a1 = some (r1, r2)) :
  Calls Tryd.prog 113 #[.int .u64 a0, .int .u64 a1] w fun e w' => e = .returned (.tuple #[.int .u64 r1, .int .u64 r2]) ∧ Drawn0 w w' := by
 (have H : ((bits_Mul64.f a0 a1).bind fun bt156 => (some (bt156.1, bt156.2))) = some (r1, r2) := h); clear h; (replace H := Option.bind_eq_some_iff.mp H); obtain ⟨⟨t156, t157⟩, A30, H⟩ := H; (replace H : (some (t156, t157)) = some (r1, r2) := H); (have A3 := Aside0.mk A30); clear A30; simp only [Option.some.injEq, Prod.mk.injEq] at H; obtain ⟨rfl, rfl⟩ := H; go_enter Tryd.func113, Tryd.ntmps113; (go_wp2_with (first | ((with_reducible refine gate_callee (f := 128) rfl ?_); refine gl (some 25) Tryd.func128 #[.int .u64 a0, .int .u64 a1] ?_; (with_reducible refine (bits_Mul64.calls a0 a1 t156 t157 _ A3.out).mono ?_); rintro e w' ⟨rfl, ⟨nd, rfl⟩⟩; refine ⟨_, rfl, ?_⟩))); go_ret2; (exact ⟨by first | rfl | (simp; done) | (simp [*]; done), by repeat (first | exact Drawn0.refl _ | apply Drawn0.step)⟩)
def slices_Repeat.f (l0 : List Int) (a1 : Int) : Option (List Int) := if l0.length = 1 ∧ 0 ≤ a1 ∧ a1 ≤ 1000000 then some (List.replicate a1.toNat (rd l0 0)) else none
theorem wraps63 (n : Int) (h₀ : 0 ≤ n) (h₁ : n < 2 ^ 63) : IntKind.u64.wrap n = n := by rw [IntKind.wrap_u64]; omega
theorem mul_one (n : Int) (h0 : 0 ≤ n) (h1 : n ≤ 1000000) : bits_Mul.f 1 n = some (0, n) := by
 have d : n / 4294967296 = 0 := by omega
 have e : Go.bits .and .u64 n 4294967295 = n := by
  have h := bits_mask .u64 63 (by decide) wraps63 32 (by decide) n h0 (by omega)
  have e2 : ((2 : Int) ^ 32) = 4294967296 := by decide
  rw [e2] at h
  rw [show (4294967295 : Int) = 4294967296 - 1 by omega, h]
  omega
 have e1 : Go.bits .and .u64 1 4294967295 = 1 := by decide
 have e0 : Go.bits .and .u64 0 4294967295 = 0 := by decide
 have w : IntKind.u64.wrap n = n := wraps63 n h0 (by omega)
 have w0 : IntKind.u64.wrap 0 = 0 := by decide
 unfold bits_Mul.f bits_Mul64.f
 rw [d, e, e1]
 simp only [show (1 : Int) / 4294967296 = 0 by decide, Int.zero_mul, Int.mul_zero, Int.one_mul, w0, w, d, Int.zero_add, Int.add_zero, Option.bind_some, show (0 : Int) / 4294967296 = 0 by decide, e0]
def rowc (x : Int) (c n : Nat) (rest : List Value) : List Value := List.replicate c (.int .u64 x) ++ (List.replicate (n - c) (.int .u64 0) ++ rest)
theorem rowc_len (x : Int) {c n : Nat} (rest : List Value) (h : c ≤ n) : (rowc x c n rest).length = n + rest.length := by simp [rowc]; omega
theorem rowc_splice (x : Int) {c n m : Nat} (rest : List Value) (h : c + m ≤ n) : splice (rowc x c n rest) c (List.replicate m (.int .u64 x)) = rowc x (c + m) n rest := by
 unfold splice rowc
 rw [List.take_append_of_le_length (by simp), List.take_of_length_le (by simp)]
 have : List.drop (c + (List.replicate m (Value.int .u64 x)).length) (List.replicate c (Value.int .u64 x) ++ (List.replicate (n - c) (Value.int .u64 0) ++ rest)) = List.replicate (n - (c + m)) (Value.int .u64 0) ++ rest := by
  rw [List.drop_append, List.drop_of_length_le (by simp), List.nil_append, List.length_replicate, List.length_replicate, Nat.add_sub_cancel_left, List.drop_append_of_le_length (by simp; omega), List.drop_replicate, Nat.sub_sub]
 rw [this, ← List.append_assoc, List.replicate_append_replicate]
theorem made_row {w : World} {base : Nat} {ok : Nat → Prop} {v : Value} {m : Nat} (h : Kd.R (Kd.int .u64) 22 w base ok v (List.replicate ((m : Int)).toNat 0)) : (v = .slice none 0 0 ∧ m = 0) ∨ ∃ g cap rest, v = .slice (some ⟨g, 0, none⟩) m cap ∧ base ≤ g ∧ w.heap[g]? = some (.cells (rowc 0 0 m rest).toArray 22 (0, 0)) ∧ m ≤ cap ∧ cap ≤ maxLen ∧ m + rest.length = cap := by
 have ho := Kd.own_of_R h
 rw [Int.toNat_natCast, List.length_replicate] at ho
 obtain ⟨_, h1 | ⟨g, cap, cur, h1, h2, h3, h4, h5, h6, h7⟩⟩ := ho
 ·exact .inl h1
 ·refine .inr ⟨g, cap, cur.toList.drop m, h1, h2, ?_, h4, h5, by simp; omega⟩
  have e : rowc 0 0 m (cur.toList.drop m) = cur.toList := by
   unfold rowc
   rw [Nat.mul_one] at h7
   have : List.take m cur.toList = List.replicate m (Value.int .u64 0) := by rw [h7]; simp [encs]
   rw [Nat.sub_zero, ← this, List.replicate_zero, List.nil_append, List.take_append_drop]
  rw [e]; exact h3
theorem row_made {w : World} {base : Nat} {m g cap : Nat} {x : Int} {rest : List Value} (h2 : base ≤ g) (h3 : w.heap[g]? = some (.cells (rowc x m m rest).toArray 22 (0, 0))) (h4 : m ≤ cap) (h5 : cap ≤ maxLen) (h6 : m + rest.length = cap) : Kd.R (Kd.int .u64) 22 w base (fun _ => True) (.slice (some ⟨g, 0, none⟩) m cap) (List.replicate m x) := by
 refine Kd.R_of_own ⟨by simp [encs], .inr ⟨g, cap, _, by rw [List.length_replicate], h2, h3, by rw [List.length_replicate]; exact h4, h5, ?_, ?_⟩⟩ (fun _ _ => trivial)
 ·simp [rowc]; omega
 ·simp [rowc, encs]
theorem made_pos {w : World} {base : Nat} {ok : Nat → Prop} {v : Value} {m : Nat} (x : Int) (hm : 0 < m) (h : Kd.R (Kd.int .u64) 22 w base ok v (List.replicate ((m : Int)).toNat 0)) : ∃ g cap rest, v = .slice (some ⟨g, 0, none⟩) m cap ∧ base ≤ g ∧ Aside0 (w.heap[g]? = some (.cells (rowc x 0 m rest).toArray 22 (0, 0))) ∧ m ≤ cap ∧ cap ≤ maxLen ∧ m + rest.length = cap := by
 rcases made_row h with h | ⟨g, cap, rest, h1, h2, h3, h4⟩
 ·omega
 ·exact ⟨g, cap, rest, h1, h2, ⟨h3⟩, h4⟩
theorem made_zero {w : World} {base : Nat} {ok : Nat → Prop} {v : Value} {m : Nat} (h : Kd.R (Kd.int .u64) 22 w base ok v (List.replicate ((m : Int)).toNat 0)) : ∃ p cap, v = .slice p m cap := by
 rcases made_row h with h | ⟨g, cap, rest, h1, _⟩
 ·exact ⟨none, 0, by rw [h.1, h.2]⟩
 ·exact ⟨_, _, h1⟩
set_option maxHeartbeats 1000000 in
set_option maxRecDepth 100000 in
theorem slices_Repeat.calls (A0 : Option Addr) (c0 : Nat) (l0 : List Int) (a1 : Int) (r : List Int) (w : World) (hr0 : Kd.C (Kd.int .u64) w A0 l0.length l0) (hc0 : l0.length ≤ c0) (h : slices_Repeat.f l0 a1 = some r) :
  Calls Tryd.prog 92 #[.slice A0 l0.length c0, .int .i64 a1] w fun e w' => ∃ v0_ : Value, e = .returned v0_ ∧ Kd.R (Kd.int .u64) 22 w' w.heap.size (fun _ => True) v0_ r ∧ Below w.heap.size w w' := by
 unfold slices_Repeat.f at h
 by_cases c : l0.length = 1 ∧ 0 ≤ a1 ∧ a1 ≤ 1000000
 ·rw [if_pos c] at h
  obtain rfl := Option.some.inj h
  obtain ⟨x, rfl⟩ := List.length_eq_one_iff.1 c.1
  obtain ⟨_, h0, h1⟩ := c
  clear h
  obtain ⟨m, rfl⟩ := Int.eq_ofNat_of_zero_le h0
  have HM := Aside0.mk (mul_one m h0 h1)
  have hneg := decide_eq_false (show ¬ (m : Int) < 0 by omega)
  have hbig := decide_eq_false (show ¬ (9223372036854775807 : Int) < (m : Int) by omega)
  by_cases hm : 0 < m
  ·obtain ⟨ad, rfl, hx⟩ := Kd.at_int hr0 0 (by omega) (by simp)
   have K1 := Aside0.mk (show (List.replicate 1 (Value.int .u64 x)).length = Nat.min 1 m by rw [List.length_replicate]; show 1 = min 1 m; omega)
   have K2 := Aside0.mk (fun (c k : Nat) (rest : List Value) (hk : c + k ≤ m) => (by rw [rowc_len _ _ (by omega), List.length_replicate]; omega : c + (List.replicate k (Value.int .u64 x)).length ≤ (rowc x c m rest).length))
   have K3 := Aside0.mk (fun (n : Nat) => (fun v hv => by rw [List.eq_of_mem_replicate hv]; rfl : ∀ v ∈ List.replicate n (Value.int .u64 x), v.oneCell' = true))
   have HR := Aside0.mk hr0
   clear hr0 hc0 hx
   go_enter Tryd.func92, Tryd.ntmps92
   go_wp2_with (first | (go_at_call 113; (with_reducible refine (bits_Mul.calls 1 m 0 m _ HM.out).mono ?_); rintro e w' ⟨rfl, ⟨nd, rfl⟩⟩) | ((with_reducible refine gate_dst (N := 30) rfl ?_); refine Kd.R_make (Kd.int .u64) (w0 := w) w.heap.size 22 rfl (N := 30) rfl 73 _ _ rfl (m : Int) rfl rfl Tryd.underlying73 (.int .u64 0) 8 info22 rfl (by decide) (by omega) 0 (ok := fun _ => True) (okp := fun _ => True) rfl (fun _ hk => hk) trivial h0 (by omega) ?hB ?hS ?_; (case hB => repeat (first | exact Below.refl _ _ | (with_reducible first | apply below_alloc | apply pw_below_drewN | apply below_drew1))); (case hS => exact Nat.le_refl _); intro v w2 ho hb hg hn; clear hg hn; obtain ⟨g, cap, rest, rfl, hbg, h3, h4, h5, h6⟩ := made_pos x hm ho; have HB := Aside0.mk hb; clear ho hb) | ((with_reducible refine gate_builtin (b := .copy) (xs := #[.tmp 31, .tmp 32]) rfl ?_); refine wpList_copy_splice rfl (.tmp 31) (.tmp 32) 73 73 rfl 22 Tryd.underlying73 (by kernel_rfl) _ _ _ _ _ _ rfl rfl g 0 (rowc x 0 m rest) 22 h3.out (List.replicate 1 (.int .u64 x)) K1.out ?hp (K2.out 0 1 rest (by omega)) (K3.out 1) w.heap.size w HB.out hbg ?_; (case hp => (intro _; refine ⟨rfl, _, rfl, ?_⟩; intro j v hj; obtain ⟨ad', e1, e2⟩ := Kd.at_int (Kd.C_below HR.out HB.out) 0 (by omega) (by simp); cases e1; cases j with | zero => (cases hj; exact e2) | succ j => simp at hj)); intro w3 hg3 hb3; have H3 := Aside0.mk hg3; have HB3 := Aside0.mk hb3; clear hg3 hb3))
   have H4 : Aside0 (w3.heap[g]? = some (.cells (rowc x 1 m rest).toArray 22 (0, 0))) := ⟨by have := H3.out.out; rwa [rowc_splice x rest (by omega), Nat.zero_add] at this⟩
   clear H3 HB h3
   go_loopw [8] (fun v8 wr => ∃ c : Nat, v8 = .int .i64 (c : Int) ∧ Aside0 (1 ≤ c ∧ c ≤ m ∧ wr.heap[g]? = some (.cells (rowc x c m rest).toArray 22 (0, 0)) ∧ Below w.heap.size w wr)) (fun v8 _ => ((m : Int) - intOf v8).toNat)
   case atStart => exact ⟨1, rfl, ⟨by omega, by omega, H4.out, HB3.out⟩⟩
   case round =>
    obtain ⟨c, rfl, HI⟩ := hrel
    have c0 := HI.out.1
    have c1 := HI.out.2.1
    by_cases hlt : c < m
    ·have hltb := decide_eq_true (show (c : Int) < (m : Int) by omega)
     have q0 : (0 : Int) ≤ (c : Int) := by omega
     have q1 : (c : Int) ≤ (m : Int) := by omega
     have q2 : (c : Int) ≤ (cap : Int) := by omega
     have q3 : c ≤ m := c1
     have q4 : c ≤ cap := by omega
     have q5 : ¬ cap = c := by omega
     have hcell : Aside0 (∀ j, j < c → wr.cell? ⟨g, j, none⟩ = some (.int .u64 x)) := ⟨fun j hj => by
      have h3 := HI.out.2.2.1
      simp only [World.cell?, h3]
      simp only [rowc]
      simp
      rw [List.getElem?_append_left (by simpa using hj), List.getElem?_replicate, if_pos hj]⟩
     go_wp2_with fail
     go_region_law (go_loud (refine step_copy_splice rfl (.tmp 41) (.tmp 44) 73 73 rfl 22 Tryd.underlying73 (by kernel_rfl) (some ⟨g, c, none⟩) (some ⟨g, 0, none⟩) (m - c) (cap - c) c cap (by simp [Act.eval, Act.put]) (by simp [Act.eval, Act.put]) g c (rowc x c m rest) 22 HI.out.2.2.1 (List.replicate (Nat.min c (m - c)) (.int .u64 x)) (by rw [List.length_replicate]) ?hp (K2.out c _ rest (by have : Nat.min c (m - c) ≤ m - c := Nat.min_le_right _ _; omega)) (K3.out _) w.heap.size w (below_step HI.out.2.2.2 (Drawn0.below ⟨⟨_, rfl⟩⟩)) hbg ?_); (case hp => go_loud (exact fun _ => ⟨rfl, _, rfl, fun j v hj => by
      obtain ⟨hj1, hj2⟩ := List.getElem?_eq_some_iff.1 hj
      rw [List.getElem_replicate] at hj2
      subst hj2
      rw [List.length_replicate] at hj1
      have hk : Nat.min c (m - c) ≤ c := Nat.min_le_left _ _
      have := hcell.out j (by omega)
      rw [Addr.add_lit, Nat.zero_add]
      exact this⟩)); intro w4 hg4 hb4; have H5 := Aside0.mk hg4; have HB5 := Aside0.mk hb4; clear hg4 hb4)
     all_goals
      have hk : Nat.min c (m - c) = min c (m - c) := rfl
      generalize Nat.min c (m - c) = k at hk H5 HB5
      have hk1 : c + k ≤ m := by omega
      have hk2 : 1 ≤ k := by omega
      have H6 : Aside0 (w4.heap[g]? = some (.cells (rowc x (c + k) m rest).toArray 22 (0, 0))) := ⟨by have := H5.out.out; rwa [rowc_splice x rest hk1] at this⟩
      clear H5
      have hwr : IntKind.i64.wrap ((c : Int) + (k : Int)) = ((c + k : Nat) : Int) := by rw [IntKind.wrap_i64]; omega
      dsimp only [Act.put, Option.elim, List.getElem_toArray, List.getElem_cons_succ, List.getElem_cons_zero]
      simp only [List.setIfInBounds_toArray, List.set_cons_zero, List.set_cons_succ, hwr]
      go_wp2
      go_roundw
      case rel => exact ⟨c + k, rfl, ⟨by omega, hk1, H6.out, HB5.out⟩⟩
      case measure => simp [intOf]; omega
    ·obtain rfl : c = m := by omega
     have hltb := decide_eq_false (show ¬ (c : Int) < (c : Int) by omega)
     go_wp2
     go_ret
     exact ⟨_, rfl, row_made hbg HI.out.2.2.1 h4 h5 h6, HI.out.2.2.2⟩
  ·have hm0 : Nat.min 1 m = 0 := by show min 1 m = 0; omega
   clear hr0 hc0
   go_enter Tryd.func92, Tryd.ntmps92
   go_wp2_with (first | (go_at_call 113; (with_reducible refine (bits_Mul.calls 1 m 0 m _ HM.out).mono ?_); rintro e w' ⟨rfl, ⟨nd, rfl⟩⟩) | ((with_reducible refine gate_dst (N := 30) rfl ?_); refine Kd.R_make (Kd.int .u64) (w0 := w) w.heap.size 22 rfl (N := 30) rfl 73 _ _ rfl (m : Int) rfl rfl Tryd.underlying73 (.int .u64 0) 8 info22 rfl (by decide) (by omega) 0 (ok := fun _ => True) (okp := fun _ => True) rfl (fun _ hk => hk) trivial h0 (by omega) ?hB ?hS ?_; (case hB => repeat (first | exact Below.refl _ _ | (with_reducible first | apply below_alloc | apply pw_below_drewN | apply below_drew1))); (case hS => exact Nat.le_refl _); intro v w2 ho hb hg hn; clear hg hn; obtain ⟨p, cap, rfl⟩ := made_zero ho; have HO := Aside0.mk ho; have HB := Aside0.mk hb; clear ho hb) | ((with_reducible refine gate_builtin (b := .copy) (xs := #[.tmp 31, .tmp 32]) rfl ?_); refine wpList_copy_nothing rfl (.tmp 31) (.tmp 32) 73 73 rfl 22 Tryd.underlying73 (by kernel_rfl) _ _ _ _ _ _ rfl rfl hm0 ?_))
   go_loopw [8] (fun v8 wr => v8 = .int .i64 0 ∧ wr = w2) (fun v8 _ => 0)
   case atStart => exact ⟨rfl, rfl⟩
   case round =>
    obtain ⟨rfl, rfl⟩ := hrel
    have hltb := decide_eq_false (show ¬ (0 : Int) < (m : Int) by omega)
    go_wp2
    go_ret
    refine ⟨_, rfl, ?_, HB.out⟩
    have := HO.out
    obtain rfl : m = 0 := by omega
    exact this
 ·rw [if_neg c] at h; cases h
end Go.Proofs.YtgeldmhgbnamcaaDoor.P
end
