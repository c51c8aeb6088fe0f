/- Walks and laws of several statements of this seat, joined into one text; no condition. -/
import Derived.Below
import Derived.Deep.Draws
import Derived.Deep.AppendLies
import Derived.Maps.AppendAt
import Derived.OwnWalk
import Derived.Laws.BytesArg
import Derived.Laws.MakeOwn
import Derived.Laws.OwnMore
import Derived.Deep.OwnRows
import Derived.Tactics
import Derived.Lib.ConvBytes
import Derived.Laws.Slices
import Derived.WalkKit
import Derived.KernelRfl
import Derived.RowKit3
import Derived.Deep.LoopGhost
import Derived.Deep.QuietTactic
import Derived.BigQuiet
import Derived.WideLaws
import Derived.Deep.DeepCutAuto
import Derived.Deep.CutBlock
import Derived.Deep.RegionHeld3
import Derived.Laws.Rows
import Derived.Lib.AppendStr
import Derived.ArgAppend
import Derived.Laws.IdiomCopy
import Derived.RowKit
import Derived.OrdersHeld
import Derived.Laws.BitsLemmas
import Derived.Laws.StructEq
import Derived.Test.YtgeldmhgbnamcaaDoorGXa0
section
namespace Go.Proofs.YtgeldmhgbnamcaaDoor.P
open Go.RowKit Go.Proofs.YtgeldmhgbnamcaaDoorW.PrintWords Go.Proofs.YtgeldmhgbnamcaaDoorW.PrintLast Go.Proofs.YtgeldmhgbnamcaaDoorW.PrintMore
variable {P : Program} {ops : Array Oper} {Q : Exit → Act → World → Prop} {md : Region.Mode} {S : World → Prop} {ds : List Nat}
def mb_ (n b : Nat) : Array Bool := ((List.range n).map b.testBit).toArray
def mk_ (k m : Nat) : Array Bool := (List.replicate k true ++ List.replicate m false).toArray
theorem pv_ {oi : Oper} {v : Value} {fuel : Nat} {l : Array Bool} {a a' : Act} {w : World} {T : Bool × List (List Nat × List Nat)} (i : Nat) (N : Tmp) (l' : Array Bool) (HT : Aside0 (rtab md ops = T))
    (h : wpAnyLast P md ops Q S ds fuel l' a' w) (hi : ops[i]? = some oi := by rfl) (hN : oi.dst = some N := by rfl) (hc : anyT T l.toList l'.toList i = true := by kernel_rfl)
    (hQ : ∀ c a w, Q (.panic c) (a.put oi.dst v) w → Q (.panic c) a w := by exact fun _ _ _ h => h) (hw : Region.wanted oi (yielded ops a.tmps) = true := by rfl)
    (hy : ∀ w', (execOp a.eval oi).run P w' = .ok (.value v) w' := by intro w'; go_simp; with_reducible rfl)
    (ha : a.put (some N) v = a' := by simp only [Act.put, List.setIfInBounds_toArray, List.set_cons_zero, List.set_cons_succ, i64_w, i32_w]; rfl) : wpAnyLast P md ops Q S ds (fuel + 1) l a w :=
  pure_ l' hi hN (any_of HT.out hc) hQ (Or.inl ⟨hw, hy⟩) ha h
theorem pu_ {oi : Oper} {fuel : Nat} {l : Array Bool} {a a' : Act} {w : World} {T : Bool × List (List Nat × List Nat)} (i : Nat) (N : Tmp) (l' : Array Bool) (HT : Aside0 (rtab md ops = T))
    (h : wpAnyLast P md ops Q S ds fuel l' a' w) (hi : ops[i]? = some oi := by rfl) (hN : oi.dst = some N := by rfl) (hc : anyT T l.toList l'.toList i = true := by kernel_rfl)
    (hQ : ∀ c a w, Q (.panic c) (a.put oi.dst undef) w → Q (.panic c) a w := by exact fun _ _ _ h => h) (hw : Region.wanted oi (yielded ops a.tmps) = false := by rfl)
    (ha : a.put (some N) undef = a' := by simp only [Act.put, List.setIfInBounds_toArray, List.set_cons_zero, List.set_cons_succ, i64_w, i32_w]; rfl) : wpAnyLast P md ops Q S ds (fuel + 1) l a w :=
  pure_ l' hi hN (any_of HT.out hc) hQ (Or.inr ⟨hw, rfl⟩) ha h
theorem tv_ {oi : Oper} {v : Value} {fuel : Nat} {l : Array Bool} {a a' : Act} {w : World} {T : Bool × List (List Nat × List Nat)} {B : List Nat} (i : Nat) (N : Tmp) (l' : Array Bool) (HT : Aside0 (rtab md ops = T)) (HW : Aside0 (waitsOk T.2 B = true)) (hS : S w)
    (hi : ops[i]? = some oi := by rfl) (hN : oi.dst = some N := by rfl) (hc : takeW T B ds l.toList l'.toList i = true := by kernel_rfl)
    (hQ : ∀ c a w, Q (.panic c) (a.put oi.dst v) w → Q (.panic c) a w := by exact fun _ _ _ h => h) (hw : Region.wanted oi (yielded ops a.tmps) = true := by rfl)
    (hy : ∀ w', S w' → (execOp a.eval oi).run P w' = .ok (.value v) w')
    (h : wpAnyLast P md ops Q S ds fuel l' a' w)
    (ha : a.put (some N) v = a' := by simp only [Act.put, List.setIfInBounds_toArray, List.set_cons_zero, List.set_cons_succ, i64_w, i32_w]; rfl) : wpAnyLast P md ops Q S ds (fuel + 1) l a w :=
  take_ l' hi hN (take_ofW HT.out HW.out hc) hQ (Or.inl ⟨hw, hy⟩) hS ha h
theorem rn {α : Type} {d : Kd α} {e base : Nat} {ok : Nat → Prop} {v : Value} {xs : List α} {w w' : World} (h : Aside0 (d.R e w base ok v xs))
    (hq : d.R e w base ok v xs → d.R e w' base ok v xs := by intro h; (with_reducible repeat (first | apply Kd.R_alloc | apply Kd.R_drewN | apply Kd.R_drew)); exact h) : d.R e w' base ok v xs := hq h.out
theorem bn {w w0 w' : World} (h : Aside0 (Below w.heap.size w w0))
    (hq : Below w.heap.size w w0 → Below w.heap.size w w' := by intro h; repeat (first | (with_reducible first | exact h | apply below_alloc | apply pw_below_drewN | apply below_drew1) | exact h)) : Below w.heap.size w w' := hq h.out
theorem cn {α : Type} {d : Kd α} {A : Option Addr} {n : Nat} {xs : List α} {w w' : World} (h : d.C w A n xs)
    (hq : d.C w A n xs → d.C w' A n xs := by intro h; repeat (first | exact h | (with_reducible refine Kd.C_alloc ?_ _) | (with_reducible refine Kd.C_drewN ?_ _) | (with_reducible refine Kd.C_drew ?_))) : d.C w' A n xs := hq h
theorem gl {rest : List Oper} {oi : Oper} {a : Act} {w : World} (N : Option Tmp) {f : FuncId} {fn : Func} {as_ : Array Operand} {ts : Array TypeId} (hf : P.funcs[f]? = some fn) (args : Array Value)
    (h : Calls P f args w fun e w' => ∃ v, e = .returned v ∧ wpList P ops Q rest (a.put N v) w')
    (hd : oi.dst = N := by rfl) (hg : oi.guard = none := by rfl) (hname : (fn.name == "runtime.NumGoroutine") = false := by kernel_rfl) (hb : fn.body.isSome = true := by rfl)
    (hop : oi.op = .call { callee := .value (.func f), args := as_, argTypes := ts } := by rfl) (hargs : as_.map a.eval = args := by ((try simp only [List.map_toArray, List.map_cons, List.map_nil]); first | done | rfl | (simp only [List.length_drop, List.length_take]; rfl))) : wpList P ops Q (oi :: rest) a w :=
  goesL_ N hd hg hf hname hb args hop hargs h
section
variable {α : Type} {d : Kd α} {e base : Nat} {ok : Nat → Prop} {xs : List α} {w w' w1 : World}
theorem rb {v : Value} (h : Aside0 (d.R e w base ok v xs)) (hb : Below w'.heap.size w' w1)
    (hq : d.R e w base ok v xs → d.R e w' base ok v xs := by intro h; (with_reducible repeat (first | apply Kd.R_alloc | apply Kd.R_drewN | apply Kd.R_drew)); exact h) : Aside0 (d.R e w1 base ok v xs) := ⟨Kd.R_below (hq h.out) hb⟩
theorem rl {v u : Value} (h : Aside0 (d.R e w base ok u xs)) (hbase : ∀ k, v.ownBlock = some k → w'.heap.size ≤ k) (hb : Below w'.heap.size w' w1)
    (hq : d.R e w base ok u xs → d.R e w' base ok u xs := by intro h; (with_reducible repeat (first | apply Kd.R_alloc | apply Kd.R_drewN | apply Kd.R_drew)); exact h) : Aside0 (d.R e w1 base (fun k => ok k ∧ some k ≠ v.ownBlock) u xs) := ⟨Kd.R_elder' (hq h.out) hbase hb⟩
theorem bb {w0 : World} (h : Aside0 (Below w.heap.size w w0)) (hb : Below w'.heap.size w' w1)
    (hq : Below w.heap.size w w0 → Below w.heap.size w w' := by intro h; repeat (first | (with_reducible first | exact h | apply below_alloc | apply pw_below_drewN | apply below_drew1) | exact h)) : Aside0 (Below w.heap.size w w1) := ⟨below_step (hq h.out) hb⟩
theorem rc {A : Option Addr} {n c : Nat} (h : Aside0 (d.R e w base ok (.slice A n c) xs))
    (hq : d.C w A xs.length xs → d.C w' A xs.length xs := by intro h; repeat (first | exact h | (with_reducible refine Kd.C_alloc ?_ _) | (with_reducible refine Kd.C_drewN ?_ _) | (with_reducible refine Kd.C_drew ?_))) : d.C w' A xs.length xs := hq (Kd.R_reads' h.out).2.2
theorem rs {A : Option Addr} {n c : Nat} (h : Aside0 (d.R e w base ok (.slice A n c) xs)) : n ≤ c := (Kd.R_reads' h.out).2.1
end
theorem bne {w : World} {a : Addr} {v : Value} {g : Nat} (hx : w.cell? a = some v) (hg : w.heap.size ≤ g) : a.block ≠ g := Nat.ne_of_lt (Nat.lt_of_lt_of_le (World.block_lt_of_cell? _ _ hx) hg)
theorem bk {w w' : World} {g : Nat} {o : Obj} (h : Aside0 (w.heap[g]? = some o)) (hq : w.heap[g]? = some o → w'.heap[g]? = some o := by intro h; (with_reducible repeat (first | refine blk_drewN ?_ _ | refine blk_drew ?_ | refine blk_alloc ?_ _)); exact h) : w'.heap[g]? = some o := hq h.out
theorem bkl {w w' : World} {g : Nat} {o : Obj} (h : Aside0 (w.heap[g]? = some o)) (hq : w.heap[g]? = some o → w'.heap[g]? = some o := by intro h; (with_reducible repeat (first | refine blk_drewN ?_ _ | refine blk_drew ?_ | refine blk_alloc ?_ _)); exact h) : g < w'.heap.size := blk_lt (hq h.out)
theorem bkb {w w' w1 : World} {g : Nat} {o : Obj} (h : Aside0 (w.heap[g]? = some o)) (hb : Below w'.heap.size w' w1) (hq : w.heap[g]? = some o → w'.heap[g]? = some o := by intro h; (with_reducible repeat (first | refine blk_drewN ?_ _ | refine blk_drew ?_ | refine blk_alloc ?_ _)); exact h) : w1.heap[g]? = some o := blk_below (hq h.out) hb
theorem bn1 {w w0 w' : World} {g1 : Nat} (h : Aside0 (Below w.heap.size w w0)) (h1 : Aside0 (w.heap.size ≤ g1))
    (hq : Below w.heap.size w w0 → w.heap.size ≤ g1 → Below w.heap.size w w' := by intro h h1; repeat (first | (with_reducible first | exact h | apply below_alloc | apply pw_below_drewN | apply below_drew1 | refine below_set ?_ h1) | exact h)) : Below w.heap.size w w' := hq h.out h1.out
theorem bn2 {w w0 w' : World} {g1 g2 : Nat} (h : Aside0 (Below w.heap.size w w0)) (h1 : Aside0 (w.heap.size ≤ g1)) (h2 : Aside0 (w.heap.size ≤ g2))
    (hq : Below w.heap.size w w0 → w.heap.size ≤ g1 → w.heap.size ≤ g2 → Below w.heap.size w w' := by intro h h1 h2; repeat (first | (with_reducible first | exact h | apply below_alloc | apply pw_below_drewN | apply below_drew1 | refine below_set ?_ h1 | refine below_set ?_ h2) | exact h)) : Below w.heap.size w w' := hq h.out h1.out h2.out
theorem bn3 {w w0 w' : World} {g1 g2 g3 : Nat} (h : Aside0 (Below w.heap.size w w0)) (h1 : Aside0 (w.heap.size ≤ g1)) (h2 : Aside0 (w.heap.size ≤ g2)) (h3 : Aside0 (w.heap.size ≤ g3))
    (hq : Below w.heap.size w w0 → w.heap.size ≤ g1 → w.heap.size ≤ g2 → w.heap.size ≤ g3 → Below w.heap.size w w' := by intro h h1 h2 h3; repeat (first | (with_reducible first | exact h | apply below_alloc | apply pw_below_drewN | apply below_drew1 | refine below_set ?_ h1 | refine below_set ?_ h2 | refine below_set ?_ h3) | exact h)) : Below w.heap.size w w' := hq h.out h1.out h2.out h3.out
theorem sn {α : Type} {d : Kd α} {e base : Nat} {ok : Nat → Prop} {v : Value} {xs : List α} {w w' : World} (h : Aside0 (d.S e w base ok v xs))
    (hq : d.S e w base ok v xs → d.S e w' base ok v xs := by intro h; (with_reducible repeat (first | apply Kd.S_alloc | apply Kd.S_drewN | apply Kd.S_drew)); exact h) : d.S e w' base ok v xs := hq h.out
theorem ct {w w' : World} {a : Addr} {v : Value} (h : Aside0 (Below w.heap.size w w')) (hx : w.cell? a = some v) : w'.cell? a = some v := (h.out.cell (World.block_lt_of_cell? w _ hx)).trans hx
theorem bnq {w : World} {a : Addr} {v : Value} {g : Nat} {P : Prop} (hx : w.cell? a = some v) (hg : Aside0 (w.heap.size ≤ g)) (hq : a.block ≠ g → P := by intro this; first | rwa [add_block] at this | exact this) : P := hq (bne hx hg.out)
theorem qr_ {α : Type} {a b : α} (h : a = b := by first | rfl | (simp; done) | (simp [*]; done)) : a = b := h
theorem am_ {α : Type} {a b : α} (h : a = b := by ((try simp only [List.map_toArray, List.map_cons, List.map_nil]); first | done | rfl | (simp only [List.length_drop, List.length_take]; rfl))) : a = b := h
theorem gsz {w w' : World} {g : Nat} (hg : g = w'.heap.size) (h : Below w.heap.size w w') : w.heap.size ≤ g := by rw [hg]; exact below_size h
theorem gnl {g g' n : Nat} (hg : g' = n) (h : g < n) : g ≠ g' := by omega
theorem gng {g g' n : Nat} (hg : g' = n) (h : g < n) : g' ≠ g := by omega
theorem nb_ {P Q : Prop} (h : P) (hq : P → Q := by intro h; first | (rw [add_block]; exact h) | (show (Addr.add _ _).block ≠ _; rw [add_block]; exact h) | exact h) : Q := hq h
end Go.Proofs.YtgeldmhgbnamcaaDoor.P
end
section
namespace Go.Proofs.YtgeldmhgbnamcaaDoorW.PrintLast
section
variable {P : Program} {ops : Array Oper} {Q : Exit → Act → World → Prop} {md : Region.Mode} {S : World → Prop} {ds : List Nat} {T : Bool × List (List Nat × List Nat)}
end
end Go.Proofs.YtgeldmhgbnamcaaDoorW.PrintLast
end
section
namespace Go.Proofs.YtgeldmhgbnamcaaDoorW.PrintWords
open Go.RowKit
namespace Kd
section
variable {α : Type} {d : Kd α} {W : World} {g n : Nat} {S ok : Nat → Prop} {A : Option Addr} {ad : Addr} {xs : List α}
end
end Kd
section
variable {w w' u : World} {m B g : Nat} {o : Obj} {row : Option Nat} {S : Nat → Prop} {a : Addr} {v : Value}
theorem below_at (hq : w.drewN m = w') (h : Below B u w) : Below B u w' := by subst hq; exact pw_below_drewN h m
theorem blk_at (hq : w.drewN m = w') (h : w.heap[g]? = some o) : w'.heap[g]? = some o := by subst hq; exact h
end
namespace Kd
section
variable {α : Type} {d : Kd α} {e base n m : Nat} {ok : Nat → Prop} {w w' : World} {v : Value} {A : Option Addr} {xs : List α}
theorem S_at (hq : w.drewN m = w') (h : Kd.S d e w base ok v xs) : Kd.S d e w' base ok v xs := by subst hq; exact S_drewN h m
end
end Kd
section
variable {P : Program} {d : Nat} {xs ys : Array Value} {f : Field} {fs : List Field} {a b : Value} {r s : Bool} {w : World}
end
theorem Reps.one {α : Type} {R : α → List Value → Prop} {ps : List α} {cs : List Value} {p : α} {v : Value} (hp : R p [v]) (h : Reps R 1 ps cs) : Reps R 1 (p :: ps) (v :: cs) := by
  refine ⟨by simp [h.1], fun j q hq => ?_⟩
  cases j with
  | zero =>
    simp only [List.getElem?_cons_zero, Option.some.injEq] at hq
    subst hq
    simpa using hp
  | succ j =>
    simp only [List.getElem?_cons_succ] at hq
    have h1 := h.2 j q hq
    simpa [Nat.mul_one] using h1
theorem Reps.front {α : Type} {R : α → List Value → Prop} {size : Nat} {ps : List α} {cs c all : List Value} {p : α} (hp : R p c) (hc : c.length = size) (h : Reps R size ps cs) (ha : c ++ cs = all) : Reps R size (p :: ps) all := by
  subst ha
  refine ⟨by rw [List.length_append, hc, h.1, List.length_cons, Nat.succ_mul, Nat.add_comm], fun j q hq => ?_⟩
  cases j with
  | zero =>
    simp only [List.getElem?_cons_zero, Option.some.injEq] at hq
    subst hq
    rw [Nat.zero_mul, List.drop_zero, List.take_append_of_le_length (by omega), List.take_of_length_le (by omega)]
    exact hp
  | succ j =>
    simp only [List.getElem?_cons_succ] at hq
    have h1 := h.2 j q hq
    rw [Nat.succ_mul, List.drop_append, List.drop_of_length_le (by rw [hc]; exact Nat.le_add_left _ _), List.nil_append, hc, Nat.add_sub_cancel]
    exact h1
theorem Reps.c2 {α : Type} {R : α → List Value → Prop} {ps : List α} {cs : List Value} {p : α} {va vb : Value} (hp : R p [va, vb]) (h : Reps R 2 ps cs) : Reps R 2 (p :: ps) (va :: vb :: cs) := Reps.front hp rfl h rfl
theorem Reps.c3 {α : Type} {R : α → List Value → Prop} {ps : List α} {cs : List Value} {p : α} {va vb vc : Value} (hp : R p [va, vb, vc]) (h : Reps R 3 ps cs) : Reps R 3 (p :: ps) (va :: vb :: vc :: cs) := Reps.front hp rfl h rfl
end Go.Proofs.YtgeldmhgbnamcaaDoorW.PrintWords
end
section
namespace Go.Proofs.YtgeldmhgbnamcaaDoorW.PrintLast
section
variable {P : Program} {ops : Array Oper} {Q : Exit → Act → World → Prop} {md : Region.Mode} {T : Bool × List (List Nat × List Nat)} {B : List Nat} {O : List Nat} {b : Nat → Bool} {i j n : Nat}
end
end Go.Proofs.YtgeldmhgbnamcaaDoorW.PrintLast
end
section
namespace Go.Proofs.YtgeldmhgbnamcaaDoorW.PrintWords
open Go.RowKit
end Go.Proofs.YtgeldmhgbnamcaaDoorW.PrintWords
namespace Go.Proofs.YtgeldmhgbnamcaaDoorW.PrintLast
section
variable {ops : Array Oper} {a : Act} {o og : Oper} {g : Nat} {t : Tmp} {u : Bool}
end
end Go.Proofs.YtgeldmhgbnamcaaDoorW.PrintLast
end
section
namespace Go.Proofs.YtgeldmhgbnamcaaDoorW.PrintWords
open Go.RowKit
section
variable {P : Program} {ops : Array Oper} {rest : List Oper} {o : Oper} {a : Act} {Q : Exit → Act → World → Prop} {W : World}
theorem gate_guard (hw : Region.wanted o (yielded ops a.tmps) = true) (h : wpList P ops Q ({ o with guard := none } :: rest) a W) : wpList P ops Q (o :: rest) a W := by
  have h1 : Region.wanted { o with guard := none } (yielded ops a.tmps) = true := rfl
  unfold wpList at h ⊢
  rw [if_pos h1] at h
  rw [if_pos hw]
  exact h
end
end Go.Proofs.YtgeldmhgbnamcaaDoorW.PrintWords
end
