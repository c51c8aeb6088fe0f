/- Walks and laws of several statements of this seat, joined into one text; no condition. -/
import Derived.Test.YtgeldmhgbnamcaaProg
import Derived.Below
import Derived.Deep.Draws
import Derived.Deep.AppendLies
import Derived.Maps.AppendAt
import Derived.OwnWalk
import Derived.Laws.BytesArg
import Derived.Laws.MakeOwn
import Derived.Laws.OwnMore
import Derived.Deep.OwnRows
import Derived.Tactics
import Derived.Lib.ConvBytes
import Derived.Laws.Slices
import Derived.WalkKit
import Derived.KernelRfl
import Derived.RowKit3
import Derived.Deep.LoopGhost
import Derived.Deep.QuietTactic
import Derived.BigQuiet
import Derived.WideLaws
import Derived.Deep.DeepCutAuto
import Derived.Deep.CutBlock
import Derived.Deep.RegionHeld3
import Derived.Laws.Rows
import Derived.Lib.AppendStr
import Derived.ArgAppend
import Derived.Laws.IdiomCopy
import Derived.OrdersHeld
import Derived.Laws.BitsLemmas
import Derived.RowKit
import Derived.Laws.StructEq
import Derived.Laws.CopyOwn
import Derived.Deep.RegionLaw
import Derived.LoopTactic
import Derived.Outline
import Derived.IntWalk
import Derived.Test.YtgeldmhgbnamcaaFWa0
import Derived.Test.YtgeldmhgbnamcaaFWa1
import Derived.Test.YtgeldmhgbnamcaaFWa2
section
-- Printed by the session's own turn of the print (wip/tools/print2.sh): some callees are proved by hand.
namespace Go.Proofs.Ytgeldmhgbnamcaa.P
open Go.RowKit Go.Proofs.YtgeldmhgbnamcaaW.PrintWords Go.Proofs.YtgeldmhgbnamcaaW.PrintLast Go.Proofs.YtgeldmhgbnamcaaW.PrintMore
attribute [local go_sem] max2_int min2_int max_two min_two max_three min_three max_four min_four   -- for this text's walks alone
set_option linter.unusedVariables false
set_option linter.unusedSimpArgs false
/-! ### stamp_Plus: function 70 -/
def stamp_Plus.f (a0 : Int) (a1 : Int) : Option (Int) := if a0 ≥ (IntKind.u64.wrap (18446744073709551615 - a1)) then (some 18446744073709551615) else (some (IntKind.u64.wrap (a0 + a1)))
set_option maxHeartbeats 8000000 in
set_option maxRecDepth 100000 in
theorem stamp_Plus.calls (a0 : Int) (a1 : Int) (r : Int) (w : World) (h : stamp_Plus.f a0 a1 = some r) :
  Calls Try.prog 70 #[.int .u64 a0, .int .u64 a1] w fun e w' => e = .returned (.int .u64 r) ∧ Drawn0 w w' := by
 have H : (if a0 ≥ (IntKind.u64.wrap (18446744073709551615 - a1)) then (some 18446744073709551615) else (some (IntKind.u64.wrap (a0 + a1)))) = some r := h
 clear h
 by_cases c3 : a0 ≥ (IntKind.u64.wrap (18446744073709551615 - a1))
 ·rw [if_pos c3] at H
  have c3b0 : decide ((IntKind.u64.wrap (18446744073709551615 - a1)) ≤ a0) = true := decide_eq_true c3
  clear c3
  obtain rfl := Option.some.inj H
  go_enter Try.func70, Try.ntmps70
  go_wp2
  go_ret
  exact ⟨by first | rfl | (simp; done) | (simp [*]; done), by repeat (first | exact Drawn0.refl _ | apply Drawn0.step)⟩
 ·rw [if_neg c3] at H
  have c3b0 : decide ((IntKind.u64.wrap (18446744073709551615 - a1)) ≤ a0) = false := decide_eq_false c3
  clear c3
  obtain rfl := Option.some.inj H
  go_enter Try.func70, Try.ntmps70
  go_wp2
  go_ret
  exact ⟨by first | rfl | (simp; done) | (simp [*]; done), by repeat (first | exact Drawn0.refl _ | apply Drawn0.step)⟩
end Go.Proofs.Ytgeldmhgbnamcaa.P
end
section
-- Printed by the session's own turn of the print (wip/tools/print2.sh): some callees are proved by hand.
namespace Go.Proofs.Ytgeldmhgbnamcaa.P
open Go.RowKit Go.Proofs.YtgeldmhgbnamcaaW.PrintWords Go.Proofs.YtgeldmhgbnamcaaW.PrintLast Go.Proofs.YtgeldmhgbnamcaaW.PrintMore
attribute [local go_sem] max2_int min2_int max_two min_two max_three min_three max_four min_four   -- for this text's walks alone
set_option linter.unusedVariables false
set_option linter.unusedSimpArgs false
/-! ### bits_Mul64: function 94 -/
def bits_Mul64.f (a0 : Int) (a1 : Int) : Option (Int × Int) := some (IntKind.u64.wrap ((IntKind.u64.wrap ((IntKind.u64.wrap ((a0 / 4294967296) * (a1 / 4294967296))) + ((IntKind.u64.wrap ((IntKind.u64.wrap ((a0 / 4294967296) * (Go.bits .and .u64 a1 4294967295))) + ((IntKind.u64.wrap ((Go.bits .and .u64 a0 4294967295) * (Go.bits .and .u64 a1 4294967295))) / 4294967296))) / 4294967296))) + ((IntKind.u64.wrap ((Go.bits .and .u64 (IntKind.u64.wrap ((IntKind.u64.wrap ((a0 / 4294967296) * (Go.bits .and .u64 a1 4294967295))) + ((IntKind.u64.wrap ((Go.bits .and .u64 a0 4294967295) * (Go.bits .and .u64 a1 4294967295))) / 4294967296))) 4294967295) + (IntKind.u64.wrap ((Go.bits .and .u64 a0 4294967295) * (a1 / 4294967296))))) / 4294967296)), IntKind.u64.wrap (a0 * a1))
set_option maxHeartbeats 8000000 in
set_option maxRecDepth 100000 in
theorem bits_Mul64.calls (a0 : Int) (a1 : Int) (r1 : Int) (r2 : Int) (w : World) (h : bits_Mul64.f a0 a1 = some (r1, r2)) :
  Calls Try.prog 94 #[.int .u64 a0, .int .u64 a1] w fun e w' => e = .returned (.tuple #[.int .u64 r1, .int .u64 r2]) ∧ Drawn0 w w' := by
 have H : (some (IntKind.u64.wrap ((IntKind.u64.wrap ((IntKind.u64.wrap ((a0 / 4294967296) * (a1 / 4294967296))) + ((IntKind.u64.wrap ((IntKind.u64.wrap ((a0 / 4294967296) * (Go.bits .and .u64 a1 4294967295))) + ((IntKind.u64.wrap ((Go.bits .and .u64 a0 4294967295) * (Go.bits .and .u64 a1 4294967295))) / 4294967296))) / 4294967296))) + ((IntKind.u64.wrap ((Go.bits .and .u64 (IntKind.u64.wrap ((IntKind.u64.wrap ((a0 / 4294967296) * (Go.bits .and .u64 a1 4294967295))) + ((IntKind.u64.wrap ((Go.bits .and .u64 a0 4294967295) * (Go.bits .and .u64 a1 4294967295))) / 4294967296))) 4294967295) + (IntKind.u64.wrap ((Go.bits .and .u64 a0 4294967295) * (a1 / 4294967296))))) / 4294967296)), IntKind.u64.wrap (a0 * a1))) = some (r1, r2) := h
 clear h
 simp only [Option.some.injEq, Prod.mk.injEq] at H
 obtain ⟨rfl, rfl⟩ := H
 go_enter Try.func94, Try.ntmps94
 go_wp2
 go_ret2
 exact ⟨by first | rfl | (simp; done) | (simp [*]; done), by repeat (first | exact Drawn0.refl _ | apply Drawn0.step)⟩
end Go.Proofs.Ytgeldmhgbnamcaa.P
end
section
-- Printed by the session's own turn of the print (wip/tools/print2.sh): some callees are proved by hand.
namespace Go.Proofs.Ytgeldmhgbnamcaa.P
open Go.RowKit Go.Proofs.YtgeldmhgbnamcaaW.PrintWords Go.Proofs.YtgeldmhgbnamcaaW.PrintLast Go.Proofs.YtgeldmhgbnamcaaW.PrintMore
attribute [local go_sem] max2_int min2_int max_two min_two max_three min_three max_four min_four   -- for this text's walks alone
set_option linter.unusedVariables false
set_option linter.unusedSimpArgs false
/-! ### bits_Mul: function 87 -/
def bits_Mul.f (a0 : Int) (a1 : Int) : Option (Int × Int) := (bits_Mul64.f a0 a1).bind fun bt667 => (some (bt667.1, bt667.2))
set_option maxHeartbeats 8000000 in
set_option maxRecDepth 100000 in
theorem bits_Mul.calls (a0 : Int) (a1 : Int) (r1 : Int) (r2 : Int) (w : World) (h : bits_Mul.f a0 a1 = some (r1, r2)) :
  Calls Try.prog 87 #[.int .u64 a0, .int .u64 a1] w fun e w' => e = .returned (.tuple #[.int .u64 r1, .int .u64 r2]) ∧ Drawn0 w w' := by
 have H : ((bits_Mul64.f a0 a1).bind fun bt667 => (some (bt667.1, bt667.2))) = some (r1, r2) := h
 clear h
 replace H := Option.bind_eq_some_iff.mp H
 obtain ⟨⟨t667, t668⟩, A30, H⟩ := H
 replace H : (some (t667, t668)) = some (r1, r2) := H
 have A3 := Aside0.mk A30
 clear A30
 simp only [Option.some.injEq, Prod.mk.injEq] at H
 obtain ⟨rfl, rfl⟩ := H
 go_enter Try.func87, Try.ntmps87
 go_wp2_with (first | ((with_reducible refine gate_callee (f := 94) rfl ?_); refine gl (some 25) Try.func94 #[.int .u64 a0, .int .u64 a1] ?_; (with_reducible refine (bits_Mul64.calls a0 a1 t667 t668 _ A3.out).mono ?_); rintro e w' ⟨rfl, ⟨nd, rfl⟩⟩; refine ⟨_, rfl, ?_⟩))
 go_ret2
 exact ⟨by first | rfl | (simp; done) | (simp [*]; done), by repeat (first | exact Drawn0.refl _ | apply Drawn0.step)⟩
end Go.Proofs.Ytgeldmhgbnamcaa.P
end
section
/- slices.Repeat of one element: so many of it. Condition: the count is from 0 to a million. -/
namespace Go.Proofs.Ytgeldmhgbnamcaa.P
open Go.RowKit Go.Proofs.YtgeldmhgbnamcaaW.PrintWords Go.Proofs.YtgeldmhgbnamcaaW.PrintLast Go.Proofs.YtgeldmhgbnamcaaW.PrintMore
set_option linter.unusedVariables false
set_option linter.unusedSimpArgs false
def slices_Repeat.f (l0 : List Int) (a1 : Int) : Option (List Int) := if l0.length = 1 ∧ 0 ≤ a1 ∧ a1 ≤ 1000000 then some (List.replicate a1.toNat (rd l0 0)) else none
theorem wraps63 (n : Int) (h₀ : 0 ≤ n) (h₁ : n < 2 ^ 63) : IntKind.u64.wrap n = n := by rw [IntKind.wrap_u64]; omega
theorem mul_one (n : Int) (h0 : 0 ≤ n) (h1 : n ≤ 1000000) : bits_Mul.f 1 n = some (0, n) := by
 have d : n / 4294967296 = 0 := by omega
 have e : Go.bits .and .u64 n 4294967295 = n := by
  have h := bits_mask .u64 63 (by decide) wraps63 32 (by decide) n h0 (by omega)
  have e2 : ((2 : Int) ^ 32) = 4294967296 := by decide
  rw [e2] at h
  rw [show (4294967295 : Int) = 4294967296 - 1 by omega, h]
  omega
 have e1 : Go.bits .and .u64 1 4294967295 = 1 := by decide
 have e0 : Go.bits .and .u64 0 4294967295 = 0 := by decide
 have w : IntKind.u64.wrap n = n := wraps63 n h0 (by omega)
 have w0 : IntKind.u64.wrap 0 = 0 := by decide
 unfold bits_Mul.f bits_Mul64.f
 rw [d, e, e1]
 simp only [show (1 : Int) / 4294967296 = 0 by decide, Int.zero_mul, Int.mul_zero, Int.one_mul, w0, w, d, Int.zero_add, Int.add_zero, Option.bind_some, show (0 : Int) / 4294967296 = 0 by decide, e0]
/-- the copying's row after c entries -/
def rowc (x : Int) (c n : Nat) (rest : List Value) : List Value := List.replicate c (.int .u64 x) ++ (List.replicate (n - c) (.int .u64 0) ++ rest)
theorem rowc_len (x : Int) {c n : Nat} (rest : List Value) (h : c ≤ n) : (rowc x c n rest).length = n + rest.length := by simp [rowc]; omega
theorem rowc_splice (x : Int) {c n m : Nat} (rest : List Value) (h : c + m ≤ n) : splice (rowc x c n rest) c (List.replicate m (.int .u64 x)) = rowc x (c + m) n rest := by
 unfold splice rowc
 rw [List.take_append_of_le_length (by simp), List.take_of_length_le (by simp)]
 have : List.drop (c + (List.replicate m (Value.int .u64 x)).length) (List.replicate c (Value.int .u64 x) ++ (List.replicate (n - c) (Value.int .u64 0) ++ rest)) = List.replicate (n - (c + m)) (Value.int .u64 0) ++ rest := by
  rw [List.drop_append, List.drop_of_length_le (by simp), List.nil_append, List.length_replicate, List.length_replicate, Nat.add_sub_cancel_left, List.drop_append_of_le_length (by simp; omega), List.drop_replicate, Nat.sub_sub]
 rw [this, ← List.append_assoc, List.replicate_append_replicate]
theorem made_row {w : World} {base : Nat} {ok : Nat → Prop} {v : Value} {m : Nat} (h : Kd.R (Kd.int .u64) 38 w base ok v (List.replicate ((m : Int)).toNat 0)) : (v = .slice none 0 0 ∧ m = 0) ∨ ∃ g cap rest, v = .slice (some ⟨g, 0, none⟩) m cap ∧ base ≤ g ∧ w.heap[g]? = some (.cells (rowc 0 0 m rest).toArray 38 (0, 0)) ∧ m ≤ cap ∧ cap ≤ maxLen ∧ m + rest.length = cap := by
 have ho := Kd.own_of_R h
 rw [Int.toNat_natCast, List.length_replicate] at ho
 obtain ⟨_, h1 | ⟨g, cap, cur, h1, h2, h3, h4, h5, h6, h7⟩⟩ := ho
 ·exact .inl h1
 ·refine .inr ⟨g, cap, cur.toList.drop m, h1, h2, ?_, h4, h5, by simp; omega⟩
  have e : rowc 0 0 m (cur.toList.drop m) = cur.toList := by
   unfold rowc
   rw [Nat.mul_one] at h7
   have : List.take m cur.toList = List.replicate m (Value.int .u64 0) := by rw [h7]; simp [encs]
   rw [Nat.sub_zero, ← this, List.replicate_zero, List.nil_append, List.take_append_drop]
  rw [e]; exact h3
theorem row_made {w : World} {base : Nat} {m g cap : Nat} {x : Int} {rest : List Value} (h2 : base ≤ g) (h3 : w.heap[g]? = some (.cells (rowc x m m rest).toArray 38 (0, 0))) (h4 : m ≤ cap) (h5 : cap ≤ maxLen) (h6 : m + rest.length = cap) : Kd.R (Kd.int .u64) 38 w base (fun _ => True) (.slice (some ⟨g, 0, none⟩) m cap) (List.replicate m x) := by
 refine Kd.R_of_own ⟨by simp [encs], .inr ⟨g, cap, _, by rw [List.length_replicate], h2, h3, by rw [List.length_replicate]; exact h4, h5, ?_, ?_⟩⟩ (fun _ _ => trivial)
 ·simp [rowc]; omega
 ·simp [rowc, encs]
theorem made_pos {w : World} {base : Nat} {ok : Nat → Prop} {v : Value} {m : Nat} (x : Int) (hm : 0 < m) (h : Kd.R (Kd.int .u64) 38 w base ok v (List.replicate ((m : Int)).toNat 0)) : ∃ g cap rest, v = .slice (some ⟨g, 0, none⟩) m cap ∧ base ≤ g ∧ Aside0 (w.heap[g]? = some (.cells (rowc x 0 m rest).toArray 38 (0, 0))) ∧ m ≤ cap ∧ cap ≤ maxLen ∧ m + rest.length = cap := by
 rcases made_row h with h | ⟨g, cap, rest, h1, h2, h3, h4⟩
 ·omega
 ·exact ⟨g, cap, rest, h1, h2, ⟨h3⟩, h4⟩
theorem made_zero {w : World} {base : Nat} {ok : Nat → Prop} {v : Value} {m : Nat} (h : Kd.R (Kd.int .u64) 38 w base ok v (List.replicate ((m : Int)).toNat 0)) : ∃ p cap, v = .slice p m cap := by
 rcases made_row h with h | ⟨g, cap, rest, h1, _⟩
 ·exact ⟨none, 0, by rw [h.1, h.2]⟩
 ·exact ⟨_, _, h1⟩
set_option maxHeartbeats 1000000 in
set_option maxRecDepth 100000 in
theorem slices_Repeat.calls (A0 : Option Addr) (c0 : Nat) (l0 : List Int) (a1 : Int) (r : List Int) (w : World) (hr0 : Kd.C (Kd.int .u64) w A0 l0.length l0) (hc0 : l0.length ≤ c0) (h : slices_Repeat.f l0 a1 = some r) :
  Calls Try.prog 69 #[.slice A0 l0.length c0, .int .i64 a1] w fun e w' => ∃ v0_ : Value, e = .returned v0_ ∧ Kd.R (Kd.int .u64) 38 w' w.heap.size (fun _ => True) v0_ r ∧ Below w.heap.size w w' := by
 unfold slices_Repeat.f at h
 by_cases c : l0.length = 1 ∧ 0 ≤ a1 ∧ a1 ≤ 1000000
 ·rw [if_pos c] at h
  obtain rfl := Option.some.inj h
  obtain ⟨x, rfl⟩ := List.length_eq_one_iff.1 c.1
  obtain ⟨_, h0, h1⟩ := c
  clear h
  obtain ⟨m, rfl⟩ := Int.eq_ofNat_of_zero_le h0
  have HM := Aside0.mk (mul_one m h0 h1)
  have hneg := decide_eq_false (show ¬ (m : Int) < 0 by omega)
  have hbig := decide_eq_false (show ¬ (9223372036854775807 : Int) < (m : Int) by omega)
  by_cases hm : 0 < m
  ·obtain ⟨ad, rfl, hx⟩ := Kd.at_int hr0 0 (by omega) (by simp)
   have K1 := Aside0.mk (show (List.replicate 1 (Value.int .u64 x)).length = Nat.min 1 m by rw [List.length_replicate]; show 1 = min 1 m; omega)
   have K2 := Aside0.mk (fun (c k : Nat) (rest : List Value) (hk : c + k ≤ m) => (by rw [rowc_len _ _ (by omega), List.length_replicate]; omega : c + (List.replicate k (Value.int .u64 x)).length ≤ (rowc x c m rest).length))
   have K3 := Aside0.mk (fun (n : Nat) => (fun v hv => by rw [List.eq_of_mem_replicate hv]; rfl : ∀ v ∈ List.replicate n (Value.int .u64 x), v.oneCell' = true))
   have HR := Aside0.mk hr0
   clear hr0 hc0 hx
   go_enter Try.func69, Try.ntmps69
   go_wp2_with (first | (go_at_call 87; (with_reducible refine (bits_Mul.calls 1 m 0 m _ HM.out).mono ?_); rintro e w' ⟨rfl, ⟨nd, rfl⟩⟩) | ((with_reducible refine gate_dst (N := 30) rfl ?_); refine Kd.R_make (Kd.int .u64) (w0 := w) w.heap.size 38 rfl (N := 30) rfl 67 _ _ rfl (m : Int) rfl rfl Try.underlying67 (.int .u64 0) 8 info38 rfl (by decide) (by omega) 0 (ok := fun _ => True) (okp := fun _ => True) rfl (fun _ hk => hk) trivial h0 (by omega) ?hB ?hS ?_; (case hB => repeat (first | exact Below.refl _ _ | (with_reducible first | apply below_alloc | apply pw_below_drewN | apply below_drew1))); (case hS => exact Nat.le_refl _); intro v w2 ho hb hg hn; clear hg hn; obtain ⟨g, cap, rest, rfl, hbg, h3, h4, h5, h6⟩ := made_pos x hm ho; have HB := Aside0.mk hb; clear ho hb) | ((with_reducible refine gate_builtin (b := .copy) (xs := #[.tmp 31, .tmp 32]) rfl ?_); refine wpList_copy_splice rfl (.tmp 31) (.tmp 32) 67 67 rfl 38 Try.underlying67 (by kernel_rfl) _ _ _ _ _ _ rfl rfl g 0 (rowc x 0 m rest) 38 h3.out (List.replicate 1 (.int .u64 x)) K1.out ?hp (K2.out 0 1 rest (by omega)) (K3.out 1) w.heap.size w HB.out hbg ?_; (case hp => (intro _; refine ⟨rfl, _, rfl, ?_⟩; intro j v hj; obtain ⟨ad', e1, e2⟩ := Kd.at_int (Kd.C_below HR.out HB.out) 0 (by omega) (by simp); cases e1; cases j with | zero => (cases hj; exact e2) | succ j => simp at hj)); intro w3 hg3 hb3; have H3 := Aside0.mk hg3; have HB3 := Aside0.mk hb3; clear hg3 hb3))
   have H4 : Aside0 (w3.heap[g]? = some (.cells (rowc x 1 m rest).toArray 38 (0, 0))) := ⟨by have := H3.out.out; rwa [rowc_splice x rest (by omega), Nat.zero_add] at this⟩
   clear H3 HB h3
   go_loopw [8] (fun v8 wr => ∃ c : Nat, v8 = .int .i64 (c : Int) ∧ Aside0 (1 ≤ c ∧ c ≤ m ∧ wr.heap[g]? = some (.cells (rowc x c m rest).toArray 38 (0, 0)) ∧ Below w.heap.size w wr)) (fun v8 _ => ((m : Int) - intOf v8).toNat)
   case atStart => exact ⟨1, rfl, ⟨by omega, by omega, H4.out, HB3.out⟩⟩
   case round =>
    obtain ⟨c, rfl, HI⟩ := hrel
    have c0 := HI.out.1
    have c1 := HI.out.2.1
    by_cases hlt : c < m
    ·have hltb := decide_eq_true (show (c : Int) < (m : Int) by omega)
     have q0 : (0 : Int) ≤ (c : Int) := by omega
     have q1 : (c : Int) ≤ (m : Int) := by omega
     have q2 : (c : Int) ≤ (cap : Int) := by omega
     have q3 : c ≤ m := c1
     have q4 : c ≤ cap := by omega
     have q5 : ¬ cap = c := by omega
     have hcell : Aside0 (∀ j, j < c → wr.cell? ⟨g, j, none⟩ = some (.int .u64 x)) := ⟨fun j hj => by
      have h3 := HI.out.2.2.1
      simp only [World.cell?, h3]
      simp only [rowc]
      simp
      rw [List.getElem?_append_left (by simpa using hj), List.getElem?_replicate, if_pos hj]⟩
     go_wp2_with fail
     go_region_law (go_loud (refine step_copy_splice rfl (.tmp 41) (.tmp 44) 67 67 rfl 38 Try.underlying67 (by kernel_rfl) (some ⟨g, c, none⟩) (some ⟨g, 0, none⟩) (m - c) (cap - c) c cap (by simp [Act.eval, Act.put]) (by simp [Act.eval, Act.put]) g c (rowc x c m rest) 38 HI.out.2.2.1 (List.replicate (Nat.min c (m - c)) (.int .u64 x)) (by rw [List.length_replicate]) ?hp (K2.out c _ rest (by have : Nat.min c (m - c) ≤ m - c := Nat.min_le_right _ _; omega)) (K3.out _) w.heap.size w (below_step HI.out.2.2.2 (Drawn0.below ⟨⟨_, rfl⟩⟩)) hbg ?_); (case hp => go_loud (exact fun _ => ⟨rfl, _, rfl, fun j v hj => by
      obtain ⟨hj1, hj2⟩ := List.getElem?_eq_some_iff.1 hj
      rw [List.getElem_replicate] at hj2
      subst hj2
      rw [List.length_replicate] at hj1
      have hk : Nat.min c (m - c) ≤ c := Nat.min_le_left _ _
      have := hcell.out j (by omega)
      rw [Addr.add_lit, Nat.zero_add]
      exact this⟩)); intro w4 hg4 hb4; have H5 := Aside0.mk hg4; have HB5 := Aside0.mk hb4; clear hg4 hb4)
     all_goals
      have hk : Nat.min c (m - c) = min c (m - c) := rfl
      generalize Nat.min c (m - c) = k at hk H5 HB5
      have hk1 : c + k ≤ m := by omega
      have hk2 : 1 ≤ k := by omega
      have H6 : Aside0 (w4.heap[g]? = some (.cells (rowc x (c + k) m rest).toArray 38 (0, 0))) := ⟨by have := H5.out.out; rwa [rowc_splice x rest hk1] at this⟩
      clear H5
      have hwr : IntKind.i64.wrap ((c : Int) + (k : Int)) = ((c + k : Nat) : Int) := by rw [IntKind.wrap_i64]; omega
      dsimp only [Act.put, Option.elim, List.getElem_toArray, List.getElem_cons_succ, List.getElem_cons_zero]
      simp only [List.setIfInBounds_toArray, List.set_cons_zero, List.set_cons_succ, hwr]
      go_wp2
      go_roundw
      case rel => exact ⟨c + k, rfl, ⟨by omega, hk1, H6.out, HB5.out⟩⟩
      case measure => simp [intOf]; omega
    ·obtain rfl : c = m := by omega
     have hltb := decide_eq_false (show ¬ (c : Int) < (c : Int) by omega)
     go_wp2
     go_ret
     exact ⟨_, rfl, row_made hbg HI.out.2.2.1 h4 h5 h6, HI.out.2.2.2⟩
  ·have hm0 : Nat.min 1 m = 0 := by show min 1 m = 0; omega
   clear hr0 hc0
   go_enter Try.func69, Try.ntmps69
   go_wp2_with (first | (go_at_call 87; (with_reducible refine (bits_Mul.calls 1 m 0 m _ HM.out).mono ?_); rintro e w' ⟨rfl, ⟨nd, rfl⟩⟩) | ((with_reducible refine gate_dst (N := 30) rfl ?_); refine Kd.R_make (Kd.int .u64) (w0 := w) w.heap.size 38 rfl (N := 30) rfl 67 _ _ rfl (m : Int) rfl rfl Try.underlying67 (.int .u64 0) 8 info38 rfl (by decide) (by omega) 0 (ok := fun _ => True) (okp := fun _ => True) rfl (fun _ hk => hk) trivial h0 (by omega) ?hB ?hS ?_; (case hB => repeat (first | exact Below.refl _ _ | (with_reducible first | apply below_alloc | apply pw_below_drewN | apply below_drew1))); (case hS => exact Nat.le_refl _); intro v w2 ho hb hg hn; clear hg hn; obtain ⟨p, cap, rfl⟩ := made_zero ho; have HO := Aside0.mk ho; have HB := Aside0.mk hb; clear ho hb) | ((with_reducible refine gate_builtin (b := .copy) (xs := #[.tmp 31, .tmp 32]) rfl ?_); refine wpList_copy_nothing rfl (.tmp 31) (.tmp 32) 67 67 rfl 38 Try.underlying67 (by kernel_rfl) _ _ _ _ _ _ rfl rfl hm0 ?_))
   go_loopw [8] (fun v8 wr => v8 = .int .i64 0 ∧ wr = w2) (fun v8 _ => 0)
   case atStart => exact ⟨rfl, rfl⟩
   case round =>
    obtain ⟨rfl, rfl⟩ := hrel
    have hltb := decide_eq_false (show ¬ (0 : Int) < (m : Int) by omega)
    go_wp2
    go_ret
    refine ⟨_, rfl, ?_, HB.out⟩
    have := HO.out
    obtain rfl : m = 0 := by omega
    exact this
 ·rw [if_neg c] at h; cases h
end Go.Proofs.Ytgeldmhgbnamcaa.P
end
section
-- Printed by the session's own turn of the print (wip/tools/print2.sh): some callees are proved by hand.
namespace Go.Proofs.Ytgeldmhgbnamcaa.P
open Go.RowKit Go.Proofs.YtgeldmhgbnamcaaW.PrintWords Go.Proofs.YtgeldmhgbnamcaaW.PrintLast Go.Proofs.YtgeldmhgbnamcaaW.PrintMore
attribute [local go_sem] max2_int min2_int max_two min_two max_three min_three max_four min_four   -- for this text's walks alone
set_option linter.unusedVariables false
set_option linter.unusedSimpArgs false
/-! ### graph_Graph_ways: function 64 -/
mutual
def graph_Graph_ways.l0 : Nat → List (List Int) → Int → Int → Int → List (S95) → List Int → Option ((List (List Int)))
 | 0, _, _, _, _, _, _ => none
 | k + 1, x3, x12, x13, x670000, x670001, x670002 => if x13 < x12 then ((slices_Repeat.f (([18446744073709551615] : List Int)) x670000).bind fun t673 => (if 0 ≤ x13 then (if x13 < (t673.length : Int) then (if x3.length < 5864062014805 then (graph_Graph_ways.l0 k (x3 ++ [(t673.set (x13 : Int).toNat 0)]) x12 (wrap64 (x13 + 1)) x670000 x670001 x670002) else (none)) else (none)) else (none))) else (graph_Graph_ways.l1 k x3 x670001 (x670001.length : Int) 0 x670000 x670001 x670002)
def graph_Graph_ways.l1 : Nat → List (List Int) → List (S95) → Int → Int → Int → List (S95) → List Int → Option ((List (List Int)))
 | 0, _, _, _, _, _, _, _ => none
 | k + 1, x3, x29, x30, x31, x670000, x670001, x670002 => if x31 < x30 then (if 0 ≤ x31 then (if x31 < (x29.length : Int) then (if ((rd_T95 x29 x31).f0) = ((rd_T95 x29 x31).f1) then (graph_Graph_ways.l1 k x3 x29 x30 (wrap64 (x31 + 1)) x670000 x670001 x670002) else (if 0 ≤ ((rd_T95 x29 x31).f0) then (if ((rd_T95 x29 x31).f0) < (x3.length : Int) then (if 0 ≤ ((rd_T95 x29 x31).f1) then (if ((rd_T95 x29 x31).f1) < ((rd_L7 x3 ((rd_T95 x29 x31).f0)).length : Int) then (graph_Graph_ways.l1 k (x3.set (((rd_T95 x29 x31).f0) : Int).toNat ((rd_L7 x3 ((rd_T95 x29 x31).f0)).set (((rd_T95 x29 x31).f1) : Int).toNat (mn (rd (rd_L7 x3 ((rd_T95 x29 x31).f0)) ((rd_T95 x29 x31).f1)) ((rd_T95 x29 x31).f2)))) x29 x30 (wrap64 (x31 + 1)) x670000 x670001 x670002) else (none)) else (none)) else (none)) else (none))) else (none)) else (none)) else (graph_Graph_ways.l2 k x3 x670000 0 x670000 x670001 x670002)
def graph_Graph_ways.l2 : Nat → List (List Int) → Int → Int → Int → List (S95) → List Int → Option ((List (List Int)))
 | 0, _, _, _, _, _, _ => none
 | k + 1, x3, x62, x63, x670000, x670001, x670002 => if x63 < x62 then (graph_Graph_ways.l3 k x3 x63 x62 x63 x670000 0 x670000 x670001 x670002) else (some x3)
def graph_Graph_ways.l3 : Nat → List (List Int) → Int → Int → Int → Int → Int → Int → List (S95) → List Int → Option ((List (List Int)))
 | 0, _, _, _, _, _, _, _, _, _ => none
 | k + 1, x3, x8, x62, x63, x67, x68, x670000, x670001, x670002 => if x68 < x67 then (graph_Graph_ways.l4 k x3 x8 x68 x62 x63 x67 x68 x670000 0 x670000 x670001 x670002) else (graph_Graph_ways.l2 k x3 x62 (wrap64 (x63 + 1)) x670000 x670001 x670002)
def graph_Graph_ways.l4 : Nat → List (List Int) → Int → Int → Int → Int → Int → Int → Int → Int → Int → List (S95) → List Int → Option ((List (List Int)))
 | 0, _, _, _, _, _, _, _, _, _, _, _, _ => none
 | k + 1, x3, x8, x9, x62, x63, x67, x68, x72, x73, x670000, x670001, x670002 => if x73 < x72 then (if 0 ≤ x9 then (if x9 < (x3.length : Int) then (if 0 ≤ x73 then (if x73 < ((rd_L7 x3 x9).length : Int) then (if 0 ≤ x8 then (if x8 < ((rd_L7 x3 x9).length : Int) then (if x8 < (x3.length : Int) then (if x73 < ((rd_L7 x3 x8).length : Int) then ((stamp_Plus.f (rd (rd_L7 x3 x9) x8) (rd (rd_L7 x3 x8) x73)).bind fun t695 => (graph_Graph_ways.l4 k (x3.set (x9 : Int).toNat ((rd_L7 x3 x9).set (x73 : Int).toNat (mn (rd (rd_L7 x3 x9) x73) t695))) x8 x9 x62 x63 x67 x68 x72 (wrap64 (x73 + 1)) x670000 x670001 x670002)) else (none)) else (none)) else (none)) else (none)) else (none)) else (none)) else (none)) else (none)) else (graph_Graph_ways.l3 k x3 x8 x62 x63 x67 (wrap64 (x68 + 1)) x670000 x670001 x670002)
end
def graph_Graph_ways.f (k : Nat) (a0_0 : Int) (l0_1 : List (S95)) (l0_2 : List Int) : Option ((List (List Int))) := graph_Graph_ways.l0 k ([] : List (List Int)) a0_0 0 a0_0 l0_1 l0_2
def graph_Graph_ways.T13 : Bool × List (List Nat × List Nat) := (true, [([], []), ([], []), ([1], [1]), ([0, 2], [0, 2]), ([3], [3]), ([], []), ([5], [5]), ([], []), ([], []), ([8], [8]), ([7, 9], [7, 9]), ([10], [10]), ([], []), ([12], [12]), ([11, 13], [11, 13]), ([14], [14]), ([], []), ([16], [16]), ([15, 17], [15, 17]), ([4, 6, 0, 1, 2, 3, 4, 5, 6, 7, 8, 9, 10, 11, 12, 13, 14, 15, 16, 17, 18], [4, 6]), ([19, 18, 0, 1, 2, 3, 4, 5, 6, 7, 8, 9, 10, 11, 12, 13, 14, 15, 16, 17, 18], [18, 19])])
def graph_Graph_ways.B13 : List Nat := [0, 0, 2, 7, 15, 0, 32, 0, 0, 256, 896, 1920, 0, 4096, 16256, 32640, 0, 65536, 262016, 524287, 1048575]
theorem graph_Graph_ways.tab13 : rtab .any (opsOf Try.f64 13) = graph_Graph_ways.T13 := by kernel_rfl
theorem graph_Graph_ways.bits13 : waitsOk graph_Graph_ways.T13.2 graph_Graph_ways.B13 = true := by kernel_rfl
def graph_Graph_ways.T24 : Bool × List (List Nat × List Nat) := (true, [([], []), ([], []), ([0, 1], [0, 1]), ([2], [2]), ([], []), ([], []), ([], []), ([5, 6], [5, 6]), ([7], [7]), ([], []), ([8, 9], [8, 9]), ([10], [10]), ([], []), ([], []), ([12, 13], [12, 13]), ([14], [14]), ([], []), ([15, 16], [15, 16]), ([17], [17]), ([], []), ([], []), ([19, 20], [19, 20]), ([21], [21]), ([], []), ([22, 23], [22, 23]), ([24], [24]), ([18, 25], [18, 25]), ([11, 26], [11, 26]), ([3, 4, 0, 1, 2, 3, 4, 5, 6, 7, 8, 9, 10, 11, 12, 13, 14, 15, 16, 17, 18, 19, 20, 21, 22, 23, 24, 25, 26, 27], [3, 4]), ([28, 27, 26, 0, 1, 2, 3, 4, 5, 6, 7, 8, 9, 10, 11, 12, 13, 14, 15, 16, 17, 18, 19, 20, 21, 22, 23, 24, 25, 26, 27], [27, 28])])
def graph_Graph_ways.B24 : List Nat := [0, 0, 3, 7, 0, 0, 0, 96, 224, 0, 992, 2016, 0, 0, 12288, 28672, 0, 126976, 258048, 0, 0, 1572864, 3670016, 0, 16252928, 33030144, 67104768, 134217696, 268435455, 536870911]
theorem graph_Graph_ways.tab24 : rtab .any (opsOf Try.f64 24) = graph_Graph_ways.T24 := by kernel_rfl
theorem graph_Graph_ways.bits24 : waitsOk graph_Graph_ways.T24.2 graph_Graph_ways.B24 = true := by kernel_rfl
set_option maxHeartbeats 8000000 in
set_option maxRecDepth 100000 in
theorem graph_Graph_ways.calls (k : Nat) (a0_0 : Int) (A0_1 : Option Addr) (c0_1 : Nat) (l0_1 : List (S95)) (A0_2 : Option Addr) (c0_2 : Nat) (l0_2 : List Int) (r : List (List Int)) (w : World) (hr0_1 : Kd.C k95 w A0_1 l0_1.length l0_1) (hc0_1 : l0_1.length ≤ c0_1) (hr0_2 : Kd.C (Kd.int .i64) w A0_2 l0_2.length l0_2) (hc0_2 : l0_2.length ≤ c0_2) (h : graph_Graph_ways.f k a0_0 l0_1 l0_2 = some r) :
  Calls Try.prog 64 #[.agg #[.int .i64 a0_0, .slice A0_1 l0_1.length c0_1, .slice A0_2 l0_2.length c0_2]] w fun e w' => ∃ v0_ : Value, e = .returned (v0_) ∧ Kd.S (Kd.slice 38 (Kd.int .u64)) 67 w' w.heap.size (fun _ => True) v0_ r ∧ Below w.heap.size w w' := by
 have hu64 := Try.underlying64
 have hu95 := Try.underlying95
 have HR0_1 := Aside0.mk hr0_1
 have HC0_1 := Aside0.mk hc0_1
 clear hr0_1 hc0_1
 have HR0_2 := Aside0.mk hr0_2
 have HC0_2 := Aside0.mk hc0_2
 clear hr0_2 hc0_2
 have HB := Aside0.mk (Below.refl w.heap.size w)
 have H : (graph_Graph_ways.l0 k ([] : List (List Int)) a0_0 0 a0_0 l0_1 l0_2) = some r := h
 clear h
 have H' := Aside0.mk H
 clear H
 go_enter Try.func64, Try.ntmps64
 go_wp2_with (first | ((with_reducible refine gate_dst (N := 1) rfl ?_); refine box_event ?hg (N := 1) ?hd (cs := #[.int .i64 a0_0, .slice A0_1 l0_1.length c0_1, .slice A0_2 l0_2.length c0_2]) (t := 64) ?hr ?_; (case hd => rfl); (case hg => rfl); (case hr => first | (go_simp; done) | (go_simp; rfl)); intro gb669 hg w2 hbox hb; have n1_ := Aside0.mk (hbox); have n2_ := Aside0.mk ((by rw [hg]; exact (below_size (bn HB)) : w.heap.size ≤ gb669)); have n3_ := Aside0.mk ((by rw [hg]; exact (below_size (bn HB)) : w.heap.size ≤ gb669)); replace HB := bb HB hb; have BK669 := n1_; have GW669 := n2_; have GE669 := n3_; clear n1_ n2_ n3_; clear hb hbox hg; have hcz3_0 : w2.cell? ⟨gb669, 0, none⟩ = some (.int .i64 a0_0) := (blk_cell BK669.out 0).trans rfl; have hcz3_1 : w2.cell? ⟨gb669, 1, none⟩ = some (.slice A0_1 l0_1.length c0_1) := (blk_cell BK669.out 1).trans rfl; have hcz3_2 : w2.cell? ⟨gb669, 2, none⟩ = some (.slice A0_2 l0_2.length c0_2) := (blk_cell BK669.out 2).trans rfl; have hfz3_0 := blk_frozen BK669.out 0; have hfz3_1 := blk_frozen BK669.out 1; have hfz3_2 := blk_frozen BK669.out 2))
 go_loopg [3, 13] k (fun kq v3 v13 w' => ∃ (x3_1 : List (List Int)) (x13_1 : Int), v13 = .int .i64 x13_1 ∧ Aside0 (graph_Graph_ways.l0 kq x3_1 a0_0 x13_1 a0_0 l0_1 l0_2 = some r) ∧ Aside0 (kq ≤ k) ∧ Aside0 (Kd.S (Kd.slice 38 (Kd.int .u64)) 67 w' w.heap.size (fun _ => True) v3 x3_1) ∧ Aside0 (w'.heap[gb669]? = some (.cells #[.int .i64 a0_0, (.slice A0_1 l0_1.length c0_1), (.slice A0_2 l0_2.length c0_2)] 64 (0, 0))) ∧ Aside0 (Below w.heap.size w w'))
 case atStart => exact ⟨(([] : List (List Int))), (0), (by first | rfl | (simp; done) | (simp [*]; done)), H', ⟨Nat.le_refl _⟩, ⟨by first | exact Kd.S_nil _ _ _ _ _ | exact Kd.N_nil _ _ _ _ _ | exact Kd.V_nil _ _ _ _ _ | exact Kd.Q_nil _ _ _ _ _ | exact Kd.R_nil _ _ _ _ _⟩, ⟨bk BK669⟩, ⟨bn1 HB GE669⟩⟩
 case round =>
  clear H'
  (try clear p2); (try clear hcz3_0); (try clear hcz3_1); (try clear hcz3_2); (try clear hfz3_0); (try clear hfz3_1); (try clear hfz3_2)
  obtain ⟨x3_1, x13_1, rfl, HA, HK1, HO_3, BK669, HB⟩ := hrel
  cases gk with
  | zero => exact absurd HA.out (by simp [graph_Graph_ways.l0])
  | succ k1 =>
   have H := HA.out
   clear HA
   simp only [graph_Graph_ways.l0] at H
   by_cases c4 : x13_1 < a0_0
   ·rw [if_pos c4] at H
    have c4b0 : decide (x13_1 < a0_0) = true := decide_eq_true c4
    clear c4
    obtain ⟨y670, hy670⟩ : ∃ y_ : List Int, y_ = (([18446744073709551615] : List Int)) := ⟨_, rfl⟩
    replace H : ((slices_Repeat.f y670 a0_0).bind fun t673 => (if 0 ≤ x13_1 then (if x13_1 < (t673.length : Int) then (if x3_1.length < 5864062014805 then (graph_Graph_ways.l0 k1 (x3_1 ++ [(t673.set (x13_1 : Int).toNat 0)]) a0_0 (wrap64 (x13_1 + 1)) a0_0 l0_1 l0_2) else (none)) else (none)) else (none))) = some r := by first | (rw [hy670]; with_reducible exact H) | (have H2_ := (Option.bind_some _ _).symm.trans H; rw [hy670]; with_reducible exact H2_) | (have H2_ := (Option.bind_some _ _).symm.trans H; with_reducible exact H2_) | with_reducible exact H | (rw [hy670]; exact H) | exact H
    have Ny670 := Aside0.mk hy670
    clear hy670
    replace H := Option.bind_eq_some_iff.mp H
    obtain ⟨t673, A50, H⟩ := H
    replace H : (if 0 ≤ x13_1 then (if x13_1 < (t673.length : Int) then (if x3_1.length < 5864062014805 then (graph_Graph_ways.l0 k1 (x3_1 ++ [(t673.set (x13_1 : Int).toNat 0)]) a0_0 (wrap64 (x13_1 + 1)) a0_0 l0_1 l0_2) else (none)) else (none)) else (none)) = some r := H
    have A5 := Aside0.mk A50
    clear A50
    by_cases c6 : 0 ≤ x13_1
    ·rw [if_pos c6] at H
     have c6b0 : decide (0 ≤ x13_1) = true := decide_eq_true c6
     clear c6
     by_cases c7 : x13_1 < (t673.length : Int)
     ·rw [if_pos c7] at H
      have c7b0 : decide (x13_1 < (t673.length : Int)) = true := decide_eq_true c7
      clear c7
      obtain ⟨y676, hy676⟩ : ∃ y_ : List Int, y_ = (t673.set (x13_1 : Int).toNat 0) := ⟨_, rfl⟩
      replace H : (if x3_1.length < 5864062014805 then (graph_Graph_ways.l0 k1 (x3_1 ++ [y676]) a0_0 (wrap64 (x13_1 + 1)) a0_0 l0_1 l0_2) else (none)) = some r := by first | (rw [hy676]; with_reducible exact H) | (have H2_ := (Option.bind_some _ _).symm.trans H; rw [hy676]; with_reducible exact H2_) | (have H2_ := (Option.bind_some _ _).symm.trans H; with_reducible exact H2_) | with_reducible exact H | (rw [hy676]; exact H) | exact H
      have Ny676 := Aside0.mk hy676
      clear hy676
      by_cases c9 : x3_1.length < 5864062014805
      ·rw [if_pos c9] at H
       have LMc9 := Aside0.mk c9
       clear c9
       obtain ⟨y677, hy677⟩ : ∃ y_ : List (List Int), y_ = (x3_1 ++ [y676]) := ⟨_, rfl⟩
       replace H : (graph_Graph_ways.l0 k1 y677 a0_0 (wrap64 (x13_1 + 1)) a0_0 l0_1 l0_2) = some r := by first | (rw [hy677]; with_reducible exact H) | (have H2_ := (Option.bind_some _ _).symm.trans H; rw [hy677]; with_reducible exact H2_) | (have H2_ := (Option.bind_some _ _).symm.trans H; with_reducible exact H2_) | with_reducible exact H | (rw [hy677]; exact H) | exact H
       have Ny677 := Aside0.mk hy677
       clear hy677
       have H' := Aside0.mk H
       clear H
       go_wp2_with (first | ((with_reducible refine gate_dst (N := 16) rfl ?_); refine Kd.R_lit (Kd.int .u64) _ 38 ?hg (N := 16) ?hd (xs := ([18446744073709551615] : List Int)) (inner := [.int .u64 18446744073709551615]) (ok := fun _ => True) (okp := fun _ => True) ?hr ?hp (fun _ hk => hk) trivial (Below.refl _ _) (Nat.le_refl _) (by simp) ?_; (case hd => rfl); (case hg => rfl); (case hr => first | (go_simp; done) | (go_simp; rfl)); (case hp => exact (Reps.one (show Kd.M (Kd.int .u64) _ _ _ 18446744073709551615 [.int .u64 18446744073709551615] from rfl) (Reps.none _ _))); intro v671 w10 ho11 hb hg_ hnew_; clear hg_ hnew_; (first | rw [← Ny670.out] at ho11 | (simp only [Int.reduceToNat] at ho11; rw [← Ny670.out] at ho11)); have n0_ := Aside0.mk (Kd.S_elder' (sn HO_3) (Kd.R_base ho11) hb); have n1_ := Aside0.mk (Kd.R_lower ho11 (below_size (bn1 HB GE669))); have n2_ := Aside0.mk (bkb BK669 hb); have n3_ := Aside0.mk (below_step (bn1 HB GE669) hb); clear HO_3; clear BK669; clear HB; have HO_3 := n0_; have HO672 := n1_; have BK669 := n2_; have HB := n3_; clear n0_ n1_ n2_ n3_; clear hb ho11; have hcz12_0 : w10.cell? ⟨gb669, 0, none⟩ = some (.int .i64 a0_0) := (blk_cell BK669.out 0).trans rfl; have hcz12_1 : w10.cell? ⟨gb669, 1, none⟩ = some (.slice A0_1 l0_1.length c0_1) := (blk_cell BK669.out 1).trans rfl; have hcz12_2 : w10.cell? ⟨gb669, 2, none⟩ = some (.slice A0_2 l0_2.length c0_2) := (blk_cell BK669.out 2).trans rfl; have hfz12_0 := blk_frozen BK669.out 0; have hfz12_1 := blk_frozen BK669.out 1; have hfz12_2 := blk_frozen BK669.out 2; obtain ⟨Ao13, co13, eo13⟩ := Kd.R_slice HO672.out; subst eo13) | ((with_reducible refine gate_callee (f := 69) rfl ?_); refine gl (some 19) Try.func69 #[.slice Ao13 y670.length co13, .int .i64 a0_0] ?_; (with_reducible refine (slices_Repeat.calls _ _ y670 a0_0 t673 _ ?side1 ?side2 A5.out).mono ?_); (case side1 => exact rc HO672); (case side2 => exact rs HO672); rintro e w14 ⟨v674, rfl, ho0, hb⟩; refine ⟨_, rfl, ?_⟩; have n0_ := Aside0.mk (Kd.S_elder' (sn HO_3) (Kd.R_base ho0) hb); have n2_ := Aside0.mk (Kd.R_lower (Kd.R_new' ho0 (Kd.R_lt (rn HO672))) (below_size (bn1 HB GE669))); have n3_ := Aside0.mk (bkb BK669 hb); have n4_ := Aside0.mk (below_step (bn1 HB GE669) hb); clear HO_3; clear BK669; clear HB; have HO_3 := n0_; replace HO672 := rl HO672 (Kd.R_base ho0) hb; have HO675 := n2_; have BK669 := n3_; have HB := n4_; clear n0_ n2_ n3_ n4_; (try clear hb); (try clear ho0); have p8 : 0 ≤ (x13_1 : Int) := of_decide_eq_true (by assumption); have q8 : (x13_1 : Int) < ((t673.length : Int) : Int) := of_decide_eq_true (by assumption); obtain ⟨go8, co8, eo8, gb8, gl8, cl8, HG8⟩ := Kd.R_form HO675.out (by omega); (first | cases eo8 | (injection eo8 with ea_ en_ ec_; (first | subst ea_ | (injection ea_ with ea_; subst ea_)); subst ec_; clear en_)); have GB8 := Aside0.mk gb8; have GG8 := Aside0.mk HG8; clear gb8 gl8 HG8; obtain ⟨hx8_0, hf8_0⟩ := Kd.R_celln 0 HO675.out (x13_1 : Int) p8 q8; replace p8 := eq_true p8; replace q8 := eq_true q8; have n_ := Aside0.mk (Kd.R_mono (ok' := (fun k_ => some k_ ≠ (.slice Ao13 y670.length co13 : Value).ownBlock)) HO675.out (fun k_ hk => hk.2)); clear HO675; have HO675 := n_; clear n_; obtain ⟨hy15_, hz15_⟩ := Kd.R_celln 0 HO675.out (x13_1 : Int) (of_decide_eq_true (by assumption)) (of_decide_eq_true (by assumption)); have HP15 := Kd.R_putg HO675.out (x13_1 : Int) 0) | ((with_reducible refine gate_store (t := 38) (p := 22) rfl ?_); refine store_event (t := 38) (p := 22) (v := ?vo_w16) (w1 := (w14.setCell ⟨go8, (x13_1 : Int).toNat, none⟩ (.int .u64 0))) ?hg ?ho ?hn ?hr ?_; (case ho => rfl); (case hg => rfl); (case hn => rfl); (case hr => first | (go_simp; done) | (go_simp; rfl)); intro w16 hw; have hg : w14.grownBy w16 (some go8) := (by rw [hw]; exact HP15.2); have hp_ : Kd.R (Kd.int .u64) 38 w16 w.heap.size (fun k_ => some k_ ≠ (.slice Ao13 y670.length co13 : Value).ownBlock) (.slice (some ⟨go8, 0, none⟩) t673.length co8) y676 := (by rw [hw, Ny676.out]; exact HP15.1); clear HP15; have n0_ := Aside0.mk (Kd.S_after (v := (.slice (some ⟨go8, 0, none⟩) t673.length co8)) (v1 := (.slice (some ⟨go8, 0, none⟩) t673.length co8)) (ok := (fun k_ => some k_ ≠ (.slice Ao13 y670.length co13 : Value).ownBlock)) (by (with_reducible repeat (first | apply Kd.S_alloc | apply Kd.S_drewN | apply Kd.S_drew)); exact Kd.S_mono HO_3.out (fun _ hk => ⟨hk.1.2, hk.2⟩)) hg (.inl rfl)); have n1_ := Aside0.mk (blk_grown (g := gb669) (o := .cells #[.int .i64 a0_0, .slice A0_1 l0_1.length c0_1, .slice A0_2 l0_2.length c0_2] 64 (0, 0)) (bk BK669) hg (Kd.R_ne HO675.out BK669.out (by decide))); have n2_ := Aside0.mk (Kd.R_after (v := (.slice (some ⟨go8, 0, none⟩) t673.length co8)) (v1 := (.slice (some ⟨go8, 0, none⟩) t673.length co8)) (ok := (fun _ => True)) (rn HO672) hg (.inl rfl)); have n3_ := Aside0.mk (hp_); have n4_ := Aside0.mk ((by rw [hw]; exact below_set (HB.out) GB8.out : Below w.heap.size w w16)); clear HO_3; clear BK669; clear HO672; clear HO675; clear HB; have HO_3 := n0_; have BK669 := n1_; have HO672 := n2_; have HO675 := n3_; have HB := n4_; clear n0_ n1_ n2_ n3_ n4_; clear hg hw hp_) | ((with_reducible refine gate_builtin (b := .append) (xs := #[.tmp 23, .tmp 25]) rfl ?_); at_builtin; refine Kd.S_append (Kd.slice 38 (Kd.int .u64)) (w0 := w) w.heap.size rfl (.tmp 23) (.tmp 25) 60 67 (.slice none 0 0) 24 rfl Try.underlying60 info67 rfl (by decide) (by omega) u3 x3_1 y676 [.slice (some ⟨go8, 0, none⟩) t673.length co8] (fun k_ => some k_ ≠ (.slice Ao13 y670.length co13 : Value).ownBlock) (fun k_ => some k_ = (.slice (some ⟨go8, 0, none⟩) t673.length co8 : Value).ownBlock) rfl rfl ?aP (fun k_ hk_ => ((Kd.R_mono (ok' := fun k_ => ((fun k_ => some k_ ≠ (.slice Ao13 y670.length co13 : Value).ownBlock)) k_ ∧ some k_ ≠ (u3 : Value).ownBlock) (Kd.R_apart' (HO675.out) (Kd.S_typed HO_3.out) (by decide)) (fun k_ hk => ⟨hk.1, hk.2⟩))).1 k_ hk_.symm) ?aF ?aO ?aB ?aS ?aL ?_; (case aP => exact Kd.M_row (Kd.R_mono (Kd.R_tight rfl (Kd.R_mono (ok' := fun k_ => ((fun k_ => some k_ ≠ (.slice Ao13 y670.length co13 : Value).ownBlock)) k_ ∧ some k_ ≠ (u3 : Value).ownBlock) (Kd.R_apart' (HO675.out) (Kd.S_typed HO_3.out) (by decide)) (fun k_ hk => ⟨hk.1, hk.2⟩))) (fun _ h_ => h_))); (case aB => exact (bn1 HB GE669)); (case aF => exact (fun k_ hk => Kd.fresh' (Kd.R_lt (rn HO672)) k_ hk)); (case aO => exact (by (with_reducible repeat (first | apply Kd.S_alloc | apply Kd.S_drewN | apply Kd.S_drew)); exact Kd.S_mono HO_3.out (fun k_ hk => ⟨hk.1, fun e_ => hk.2 e_⟩))); (case aS => exact (below_size (bn1 HB GE669))); (case aL => have := LMc9.out; omega); intro v678 w17 ho hb hg hat; rw [← Ny677.out] at ho; have n0_ := Aside0.mk (blk_grown (g := gb669) (o := .cells #[.int .i64 a0_0, .slice A0_1 l0_1.length c0_1, .slice A0_2 l0_2.length c0_2] 64 (0, 0)) (bk BK669) hg (Kd.S_ne HO_3.out BK669.out (by decide))); have n1_ := Aside0.mk (Kd.R_over' (rn HO672) (Kd.S_typed (sn HO_3)) (by decide) hg); have n2_ := Aside0.mk (hb); have n3_ := Aside0.mk (ho); clear BK669; clear HO672; clear HB; clear HO_3; clear HO675; have BK669 := n0_; have HO672 := n1_; have HB := n2_; have HO679 := n3_; clear n0_ n1_ n2_ n3_; clear ho hb hg hat))
       go_roundg k1
       case measure => have := HK1.out; omega
       case rel => exact ⟨(y677), (wrap64 (x13_1 + 1)), (by first | rfl | (simp; done) | (simp [*]; done)), H', ⟨by have := HK1.out; omega⟩, ⟨by (with_reducible repeat (first | apply Kd.S_alloc | apply Kd.S_drewN | apply Kd.S_drew)); exact Kd.S_mono HO679.out (fun _ hk => trivial)⟩, ⟨bk BK669⟩, ⟨bn1 HB GE669⟩⟩
      ·rw [if_neg c9] at H
       exact absurd H (by simp)
     ·rw [if_neg c7] at H
      exact absurd H (by simp)
    ·rw [if_neg c6] at H
     exact absurd H (by simp)
   ·rw [if_neg c4] at H
    have c4b0 : decide (x13_1 < a0_0) = false := decide_eq_false c4
    clear c4
    have H' := Aside0.mk H
    clear H
    have hcz18_0 : wr.cell? ⟨gb669, 0, none⟩ = some (.int .i64 a0_0) := (blk_cell BK669.out 0).trans rfl
    have hcz18_1 : wr.cell? ⟨gb669, 1, none⟩ = some (.slice A0_1 l0_1.length c0_1) := (blk_cell BK669.out 1).trans rfl
    have hcz18_2 : wr.cell? ⟨gb669, 2, none⟩ = some (.slice A0_2 l0_2.length c0_2) := (blk_cell BK669.out 2).trans rfl
    have hfz18_0 := blk_frozen BK669.out 0
    have hfz18_1 := blk_frozen BK669.out 1
    have hfz18_2 := blk_frozen BK669.out 2
    go_wp2
    go_loopg [31] k1 (fun kq v31 w' => ∃ (x3_2 : List (List Int)) (x31_2 : Int), v31 = .int .i64 x31_2 ∧ Aside0 (graph_Graph_ways.l1 kq x3_2 l0_1 (l0_1.length : Int) x31_2 a0_0 l0_1 l0_2 = some r) ∧ Aside0 (kq ≤ k1) ∧ Aside0 (Kd.S (Kd.slice 38 (Kd.int .u64)) 67 w' w.heap.size (fun _ => True) u3 x3_2) ∧ Aside0 (w'.heap[gb669]? = some (.cells #[.int .i64 a0_0, (.slice A0_1 l0_1.length c0_1), (.slice A0_2 l0_2.length c0_2)] 64 (0, 0))) ∧ Aside0 (Below w.heap.size w w'))
    case atStart => exact ⟨(x3_1), (0), (by first | rfl | (simp; done) | (simp [*]; done)), H', ⟨Nat.le_refl _⟩, ⟨sn HO_3⟩, ⟨bk BK669⟩, ⟨bn1 HB GE669⟩⟩
    case round =>
     clear H'
     (try clear p2); (try clear c4); (try clear c4b0); (try clear c6); (try clear c6b0); (try clear p6); (try clear c7); (try clear c7b0); (try clear p8); (try clear q8); (try clear hx8); (try clear hf8); (try clear c9); (try clear hcz12_0); (try clear hcz12_1); (try clear hcz12_2); (try clear hcz18_0)
     (try clear hcz18_1); (try clear hcz18_2); (try clear hcz3_0); (try clear hcz3_1); (try clear hcz3_2); (try clear hfz12_0); (try clear hfz12_1); (try clear hfz12_2); (try clear hfz18_0); (try clear hfz18_1); (try clear hfz18_2); (try clear hfz3_0); (try clear hfz3_1); (try clear hfz3_2); (try clear hx8_0)
     (try clear p2); (try clear p8); (try clear q8)
     obtain ⟨x3_2, x31_2, rfl, HA, HK2, HO_3, BK669, HB⟩ := hrel
     cases gk with
     | zero => exact absurd HA.out (by simp [graph_Graph_ways.l1])
     | succ k2 =>
      have H := HA.out
      clear HA
      simp only [graph_Graph_ways.l1] at H
      by_cases c19 : x31_2 < (l0_1.length : Int)
      ·rw [if_pos c19] at H
       have c19b0 : decide (x31_2 < (l0_1.length : Int)) = true := decide_eq_true c19
       clear c19
       by_cases c20 : 0 ≤ x31_2
       ·rw [if_pos c20] at H
        have c20b0 : decide (0 ≤ x31_2) = true := decide_eq_true c20
        clear c20
        by_cases c21 : x31_2 < (l0_1.length : Int)
        ·rw [if_pos c21] at H
         have c21b0 : decide (x31_2 < (l0_1.length : Int)) = true := decide_eq_true c21
         clear c21
         by_cases c22 : ((rd_T95 l0_1 x31_2).f0) = ((rd_T95 l0_1 x31_2).f1)
         ·rw [if_pos c22] at H
          have c22b0 : (((rd_T95 l0_1 x31_2).f0) == ((rd_T95 l0_1 x31_2).f1)) = true := beq_iff_eq.mpr c22
          have c22b1 : (((rd_T95 l0_1 x31_2).f0) != ((rd_T95 l0_1 x31_2).f1)) = false := bne_eq_false_iff_eq.mpr c22
          clear c22
          have H' := Aside0.mk H
          clear H
          have p680 : 0 ≤ (x31_2 : Int) := of_decide_eq_true (by assumption)
          have q680 : x31_2 < (l0_1.length : Int) := of_decide_eq_true (by assumption)
          obtain ⟨ad680, e680, hx680_0, hx680_1, hx680_2⟩ := at_T95 HR0_1.out x31_2 p680 q680
          cases e680
          replace hx680_0 := ct HB hx680_0
          replace hx680_1 := ct HB hx680_1
          replace hx680_2 := ct HB hx680_2
          replace p680 := eq_true p680
          replace q680 := eq_true q680
          go_wp2_with (first | ((with_reducible refine gate_dst (N := 7) rfl ?_); refine box_event ?hg (N := 7) ?hd (cs := #[.int .i64 0, .int .i64 0, .int .u64 0]) (t := 95) ?hr ?_; (case hd => rfl); (case hg => rfl); (case hr => first | (go_simp; done) | (go_simp; rfl)); intro gb681 hg w23 hbox hb; have n0_ := Aside0.mk (Kd.S_below (sn HO_3) hb); have n1_ := Aside0.mk (bkb BK669 hb); have n2_ := Aside0.mk (below_step (bn1 HB GE669) hb); have n3_ := Aside0.mk (hbox); have n4_ := Aside0.mk ((by rw [hg]; exact (below_size (bn1 HB GE669)) : w.heap.size ≤ gb681)); have n5_ := Aside0.mk ((by rw [hg]; exact (below_size (bn1 HB GE669)) : w.heap.size ≤ gb681)); have n6_ := Aside0.mk ((by rw [hg]; exact Nat.ne_of_lt (bkl BK669) : gb669 ≠ gb681)); have n7_ := Aside0.mk ((by rw [hg]; exact Nat.ne_of_gt (bkl BK669) : gb681 ≠ gb669)); clear HO_3; clear BK669; clear HB; have HO_3 := n0_; have BK669 := n1_; have HB := n2_; have BK681 := n3_; have GW681 := n4_; have GE681 := n5_; have NB669_681 := n6_; have NB681_669 := n7_; clear n0_ n1_ n2_ n3_ n4_ n5_ n6_ n7_; clear hb hbox hg; have hnb24 := NB681_669.out; have hnc24 := NB669_681.out; have hcz25_0 : w23.cell? ⟨gb681, 0, none⟩ = some (.int .i64 0) := (blk_cell BK681.out 0).trans rfl; have hcz25_1 : w23.cell? ⟨gb681, 1, none⟩ = some (.int .i64 0) := (blk_cell BK681.out 1).trans rfl; have hcz25_2 : w23.cell? ⟨gb681, 2, none⟩ = some (.int .u64 0) := (blk_cell BK681.out 2).trans rfl; have hfz25_0 := blk_frozen BK681.out 0; have hfz25_1 := blk_frozen BK681.out 1; have hfz25_2 := blk_frozen BK681.out 2))
          go_roundg k2
          case measure => have := HK1.out; have := HK2.out; omega
          case rel => exact ⟨(x3_2), (wrap64 (x31_2 + 1)), (by first | rfl | (simp; done) | (simp [*]; done)), H', ⟨by have := HK1.out; have := HK2.out; omega⟩, ⟨by (with_reducible repeat (first | apply Kd.S_alloc | apply Kd.S_drewN | apply Kd.S_drew)); exact Kd.S_mono (Kd.S_far (p := ⟨gb681, 2, none⟩) (Kd.S_far (p := ⟨gb681, 1, none⟩) (Kd.S_far (p := ⟨gb681, 0, none⟩) (Kd.S_types HO_3.out BK681.out (by decide)) (fun _ hk => hk.2) (.int .i64 ((rd_T95 l0_1 x31_2).f0))) (fun _ hk => hk.2) (.int .i64 ((rd_T95 l0_1 x31_2).f1))) (fun _ hk => hk.2) (.int .u64 ((rd_T95 l0_1 x31_2).f2))) (fun _ hk => trivial)⟩, ⟨by (with_reducible repeat (first | refine blk_drewN ?_ _ | refine blk_drew ?_ | refine blk_alloc ?_ _)); refine blk_far ?_ NB669_681.out _; (with_reducible repeat (first | refine blk_drewN ?_ _ | refine blk_drew ?_ | refine blk_alloc ?_ _)); refine blk_far ?_ NB669_681.out _; (with_reducible repeat (first | refine blk_drewN ?_ _ | refine blk_drew ?_ | refine blk_alloc ?_ _)); refine blk_far ?_ NB669_681.out _; (with_reducible repeat (first | refine blk_drewN ?_ _ | refine blk_drew ?_ | refine blk_alloc ?_ _)); exact BK669.out⟩, ⟨bn2 HB GE669 GE681⟩⟩
         ·rw [if_neg c22] at H
          have c22b0 : (((rd_T95 l0_1 x31_2).f0) == ((rd_T95 l0_1 x31_2).f1)) = false := beq_eq_false_iff_ne.mpr c22
          have c22b1 : (((rd_T95 l0_1 x31_2).f0) != ((rd_T95 l0_1 x31_2).f1)) = true := bne_iff_ne.mpr c22
          by_cases c26 : 0 ≤ ((rd_T95 l0_1 x31_2).f0)
          ·rw [if_pos c26] at H
           have c26b0 : decide (0 ≤ ((rd_T95 l0_1 x31_2).f0)) = true := decide_eq_true c26
           clear c26
           by_cases c27 : ((rd_T95 l0_1 x31_2).f0) < (x3_2.length : Int)
           ·rw [if_pos c27] at H
            have c27b0 : decide (((rd_T95 l0_1 x31_2).f0) < (x3_2.length : Int)) = true := decide_eq_true c27
            clear c27
            by_cases c28 : 0 ≤ ((rd_T95 l0_1 x31_2).f1)
            ·rw [if_pos c28] at H
             have c28b0 : decide (0 ≤ ((rd_T95 l0_1 x31_2).f1)) = true := decide_eq_true c28
             clear c28
             by_cases c29 : ((rd_T95 l0_1 x31_2).f1) < ((rd_L7 x3_2 ((rd_T95 l0_1 x31_2).f0)).length : Int)
             ·rw [if_pos c29] at H
              have c29b0 : decide (((rd_T95 l0_1 x31_2).f1) < ((rd_L7 x3_2 ((rd_T95 l0_1 x31_2).f0)).length : Int)) = true := decide_eq_true c29
              clear c29
              obtain ⟨ji30, hji30⟩ : ∃ j_ : Int, (mn (rd (rd_L7 x3_2 ((rd_T95 l0_1 x31_2).f0)) ((rd_T95 l0_1 x31_2).f1)) ((rd_T95 l0_1 x31_2).f2)) = j_ := ⟨_, rfl⟩
              replace H : (graph_Graph_ways.l1 k2 (x3_2.set (((rd_T95 l0_1 x31_2).f0) : Int).toNat ((rd_L7 x3_2 ((rd_T95 l0_1 x31_2).f0)).set (((rd_T95 l0_1 x31_2).f1) : Int).toNat (ji30))) l0_1 (l0_1.length : Int) (wrap64 (x31_2 + 1)) a0_0 l0_1 l0_2) = some r := by first | (rw [hji30] at H; exact H) | (simp only [hji30] at H ⊢; exact H)
              have hji30_ : (if ((rd_T95 l0_1 x31_2).f2) < (rd (rd_L7 x3_2 ((rd_T95 l0_1 x31_2).f0)) ((rd_T95 l0_1 x31_2).f1)) then ((rd_T95 l0_1 x31_2).f2) else (rd (rd_L7 x3_2 ((rd_T95 l0_1 x31_2).f0)) ((rd_T95 l0_1 x31_2).f1))) = ji30 := hji30
              obtain ⟨y685, hy685⟩ : ∃ y_ : List Int, y_ = ((rd_L7 x3_2 ((rd_T95 l0_1 x31_2).f0)).set (((rd_T95 l0_1 x31_2).f1) : Int).toNat (ji30)) := ⟨_, rfl⟩
              replace H : (graph_Graph_ways.l1 k2 (x3_2.set (((rd_T95 l0_1 x31_2).f0) : Int).toNat y685) l0_1 (l0_1.length : Int) (wrap64 (x31_2 + 1)) a0_0 l0_1 l0_2) = some r := by first | (rw [hy685]; with_reducible exact H) | (have H2_ := (Option.bind_some _ _).symm.trans H; rw [hy685]; with_reducible exact H2_) | (have H2_ := (Option.bind_some _ _).symm.trans H; with_reducible exact H2_) | with_reducible exact H | (rw [hy685]; exact H) | exact H
              have Ny685 := Aside0.mk hy685
              clear hy685
              obtain ⟨y687, hy687⟩ : ∃ y_ : List (List Int), y_ = (x3_2.set (((rd_T95 l0_1 x31_2).f0) : Int).toNat y685) := ⟨_, rfl⟩
              replace H : (graph_Graph_ways.l1 k2 y687 l0_1 (l0_1.length : Int) (wrap64 (x31_2 + 1)) a0_0 l0_1 l0_2) = some r := by first | (rw [hy687]; with_reducible exact H) | (have H2_ := (Option.bind_some _ _).symm.trans H; rw [hy687]; with_reducible exact H2_) | (have H2_ := (Option.bind_some _ _).symm.trans H; with_reducible exact H2_) | with_reducible exact H | (rw [hy687]; exact H) | exact H
              have Ny687 := Aside0.mk hy687
              clear hy687
              have H' := Aside0.mk H
              clear H
              have p680 : 0 ≤ (x31_2 : Int) := of_decide_eq_true (by assumption)
              have q680 : x31_2 < (l0_1.length : Int) := of_decide_eq_true (by assumption)
              obtain ⟨ad680, e680, hx680_0, hx680_1, hx680_2⟩ := at_T95 HR0_1.out x31_2 p680 q680
              cases e680
              replace hx680_0 := ct HB hx680_0
              replace hx680_1 := ct HB hx680_1
              replace hx680_2 := ct HB hx680_2
              replace p680 := eq_true p680
              replace q680 := eq_true q680
              try go_wp2_with (first | ((with_reducible refine gate_dst (N := 7) rfl ?_); refine box_event ?hg (N := 7) ?hd (cs := #[.int .i64 0, .int .i64 0, .int .u64 0]) (t := 95) ?hr ?_; (case hd => rfl); (case hg => rfl); (case hr => first | (go_simp; done) | (go_simp; rfl)); intro gb681 hg w32 hbox hb; have n0_ := Aside0.mk (Kd.S_below (sn HO_3) hb); have n1_ := Aside0.mk (bkb BK669 hb); have n2_ := Aside0.mk (below_step (bn1 HB GE669) hb); have n3_ := Aside0.mk (hbox); have n4_ := Aside0.mk ((by rw [hg]; exact (below_size (bn1 HB GE669)) : w.heap.size ≤ gb681)); have n5_ := Aside0.mk ((by rw [hg]; exact (below_size (bn1 HB GE669)) : w.heap.size ≤ gb681)); have n6_ := Aside0.mk ((by rw [hg]; exact Nat.ne_of_lt (bkl BK669) : gb669 ≠ gb681)); have n7_ := Aside0.mk ((by rw [hg]; exact Nat.ne_of_gt (bkl BK669) : gb681 ≠ gb669)); clear HO_3; clear BK669; clear HB; have HO_3 := n0_; have BK669 := n1_; have HB := n2_; have BK681 := n3_; have GW681 := n4_; have GE681 := n5_; have NB669_681 := n6_; have NB681_669 := n7_; clear n0_ n1_ n2_ n3_ n4_ n5_ n6_ n7_; clear hb hbox hg; have hnb33 := NB681_669.out; have hnc33 := NB669_681.out; have hcz34_0 : w32.cell? ⟨gb681, 0, none⟩ = some (.int .i64 0) := (blk_cell BK681.out 0).trans rfl; have hcz34_1 : w32.cell? ⟨gb681, 1, none⟩ = some (.int .i64 0) := (blk_cell BK681.out 1).trans rfl; have hcz34_2 : w32.cell? ⟨gb681, 2, none⟩ = some (.int .u64 0) := (blk_cell BK681.out 2).trans rfl; have hfz34_0 := blk_frozen BK681.out 0; have hfz34_1 := blk_frozen BK681.out 1; have hfz34_2 := blk_frozen BK681.out 2))
              have n0_ : Aside0 (Kd.S (Kd.slice 38 (Kd.int .u64)) 67 (((w32.setCell ⟨gb681, 0, none⟩ (.int .i64 ((rd_T95 l0_1 x31_2).f0))).setCell ⟨gb681, 1, none⟩ (.int .i64 ((rd_T95 l0_1 x31_2).f1))).setCell ⟨gb681, 2, none⟩ (.int .u64 ((rd_T95 l0_1 x31_2).f2))) w.heap.size (fun _ => True) u3 x3_2) := ⟨by (with_reducible repeat (first | apply Kd.S_alloc | apply Kd.S_drewN | apply Kd.S_drew)); exact Kd.S_mono (Kd.S_far (p := ⟨gb681, 2, none⟩) (Kd.S_far (p := ⟨gb681, 1, none⟩) (Kd.S_far (p := ⟨gb681, 0, none⟩) (Kd.S_types HO_3.out BK681.out (by decide)) (fun _ hk => hk.2) (.int .i64 ((rd_T95 l0_1 x31_2).f0))) (fun _ hk => hk.2) (.int .i64 ((rd_T95 l0_1 x31_2).f1))) (fun _ hk => hk.2) (.int .u64 ((rd_T95 l0_1 x31_2).f2))) (fun _ hk => trivial)⟩
              have n1_ : Aside0 ((((w32.setCell ⟨gb681, 0, none⟩ (.int .i64 ((rd_T95 l0_1 x31_2).f0))).setCell ⟨gb681, 1, none⟩ (.int .i64 ((rd_T95 l0_1 x31_2).f1))).setCell ⟨gb681, 2, none⟩ (.int .u64 ((rd_T95 l0_1 x31_2).f2))).heap[gb669]? = some (.cells #[.int .i64 a0_0, .slice (some ad680) l0_1.length c0_1, .slice A0_2 l0_2.length c0_2] 64 (0, 0))) := ⟨by (with_reducible repeat (first | refine blk_drewN ?_ _ | refine blk_drew ?_ | refine blk_alloc ?_ _)); refine blk_far ?_ NB669_681.out _; (with_reducible repeat (first | refine blk_drewN ?_ _ | refine blk_drew ?_ | refine blk_alloc ?_ _)); refine blk_far ?_ NB669_681.out _; (with_reducible repeat (first | refine blk_drewN ?_ _ | refine blk_drew ?_ | refine blk_alloc ?_ _)); refine blk_far ?_ NB669_681.out _; (with_reducible repeat (first | refine blk_drewN ?_ _ | refine blk_drew ?_ | refine blk_alloc ?_ _)); exact BK669.out⟩
              have n2_ : Aside0 ((((w32.setCell ⟨gb681, 0, none⟩ (.int .i64 ((rd_T95 l0_1 x31_2).f0))).setCell ⟨gb681, 1, none⟩ (.int .i64 ((rd_T95 l0_1 x31_2).f1))).setCell ⟨gb681, 2, none⟩ (.int .u64 ((rd_T95 l0_1 x31_2).f2))).heap[gb681]? = some (.cells #[.int .i64 ((rd_T95 l0_1 x31_2).f0), .int .i64 ((rd_T95 l0_1 x31_2).f1), .int .u64 ((rd_T95 l0_1 x31_2).f2)] 95 (0, 0))) := ⟨by (with_reducible repeat (first | refine blk_drewN ?_ _ | refine blk_drew ?_ | refine blk_alloc ?_ _)); refine blk_put (cs := #[.int .i64 ((rd_T95 l0_1 x31_2).f0), .int .i64 ((rd_T95 l0_1 x31_2).f1), .int .u64 0]) ?_ 2 _ rfl; (with_reducible repeat (first | refine blk_drewN ?_ _ | refine blk_drew ?_ | refine blk_alloc ?_ _)); refine blk_put (cs := #[.int .i64 ((rd_T95 l0_1 x31_2).f0), .int .i64 0, .int .u64 0]) ?_ 1 _ rfl; (with_reducible repeat (first | refine blk_drewN ?_ _ | refine blk_drew ?_ | refine blk_alloc ?_ _)); refine blk_put (cs := #[.int .i64 0, .int .i64 0, .int .u64 0]) ?_ 0 _ rfl; (with_reducible repeat (first | refine blk_drewN ?_ _ | refine blk_drew ?_ | refine blk_alloc ?_ _)); exact BK681.out⟩
              have n3_ : Aside0 (Below w.heap.size w (((w32.setCell ⟨gb681, 0, none⟩ (.int .i64 ((rd_T95 l0_1 x31_2).f0))).setCell ⟨gb681, 1, none⟩ (.int .i64 ((rd_T95 l0_1 x31_2).f1))).setCell ⟨gb681, 2, none⟩ (.int .u64 ((rd_T95 l0_1 x31_2).f2)))) := ⟨bn2 HB GE669 GE681⟩
              (try clear HO_3)
              (try clear BK669)
              (try clear BK681)
              (try clear HB)
              generalize (((w32.setCell ⟨gb681, 0, none⟩ (.int .i64 ((rd_T95 l0_1 x31_2).f0))).setCell ⟨gb681, 1, none⟩ (.int .i64 ((rd_T95 l0_1 x31_2).f1))).setCell ⟨gb681, 2, none⟩ (.int .u64 ((rd_T95 l0_1 x31_2).f2))) = w35 at n0_ n1_ n2_ n3_ ⊢
              have HO_3 := n0_
              have BK669 := n1_
              have BK681 := n2_
              have HB := n3_
              clear n0_ n1_ n2_ n3_
              have n0_ := Aside0.mk (Kd.S_drew HO_3.out)
              have n1_ := Aside0.mk (blk_drew BK669.out)
              have n2_ := Aside0.mk (blk_drew BK681.out)
              have n3_ := Aside0.mk (below_drew1 HB.out)
              clear HO_3
              clear BK669
              clear BK681
              clear HB
              have HO_3 := n0_
              have BK669 := n1_
              have BK681 := n2_
              have HB := n3_
              clear n0_ n1_ n2_ n3_
              obtain ⟨Ao37, co37, eo37⟩ := Kd.S_slice HO_3.out
              (first | subst eo37 | (injection eo37 with f1_ f2_ f3_; have f4_ := f1_.symm; have f5_ := f3_.symm; clear f1_ f2_ f3_; subst f4_; subst f5_))
              have p682 : 0 ≤ (((rd_T95 l0_1 x31_2).f0) : Int) := of_decide_eq_true (by assumption)
              have q682 : ((rd_T95 l0_1 x31_2).f0) < (x3_2.length : Int) := of_decide_eq_true (by assumption)
              obtain ⟨ad682, A682_0, c682_0, e682, hx682_0, hl682_0, hi682_0⟩ := at_L7 (Kd.S_reads' HO_3.out).2.2 ((rd_T95 l0_1 x31_2).f0) p682 q682
              cases e682
              obtain ⟨ce682, hce682, hMe682, hcc682⟩ := Kd.S_get HO_3.out [] ((rd_T95 l0_1 x31_2).f0) p682 (by first | exact q682 | exact of_decide_eq_true (by assumption) | (have e_ := (Kd.S_reads' HO_3.out).1; omega))
              obtain ⟨ve682_0, rfl, ge682_0⟩ := hMe682
              have hv682_0 := hcc682 0 _ rfl
              rw [Nat.add_zero, show ((Kd.slice 38 (Kd.int .u64))).sz = 1 from rfl, Nat.mul_one] at hv682_0
              replace hv682_0 := Option.some.inj (hv682_0.symm.trans hx682_0)
              rw [hv682_0] at ge682_0
              have HL682_0 := Aside0.mk (show Kd.R (Kd.int .u64) 38 _ _ _ _ (rd_L7 x3_2 ((rd_T95 l0_1 x31_2).f0)) from ge682_0)
              clear hv682_0 ge682_0
              have HX682_0 := Aside0.mk hx682_0
              clear hcc682 hce682
              have HR682_0 := Aside0.mk hi682_0
              have HC682_0 := Aside0.mk hl682_0
              clear hi682_0 hl682_0
              replace p682 := eq_true p682
              replace q682 := eq_true q682
              have p683 : 0 ≤ (((rd_T95 l0_1 x31_2).f0) : Int) := of_decide_eq_true (by assumption)
              have q683 : ((rd_T95 l0_1 x31_2).f0) < (x3_2.length : Int) := of_decide_eq_true (by assumption)
              obtain ⟨ad683, A683_0, c683_0, e683, hx683_0, hl683_0, hi683_0⟩ := at_L7 (Kd.S_reads' HO_3.out).2.2 ((rd_T95 l0_1 x31_2).f0) p683 q683
              obtain rfl : ad682 = ad683 := (by injection e683)
              obtain ⟨ce683, hce683, hMe683, hcc683⟩ := Kd.S_get HO_3.out [] ((rd_T95 l0_1 x31_2).f0) p683 (by first | exact q683 | exact of_decide_eq_true (by assumption) | (have e_ := (Kd.S_reads' HO_3.out).1; omega))
              obtain ⟨ve683_0, rfl, ge683_0⟩ := hMe683
              have hv683_0 := hcc683 0 _ rfl
              rw [Nat.add_zero, show ((Kd.slice 38 (Kd.int .u64))).sz = 1 from rfl, Nat.mul_one] at hv683_0
              replace hv683_0 := Option.some.inj (hv683_0.symm.trans hx683_0)
              rw [hv683_0] at ge683_0
              have HL683_0 := Aside0.mk (show Kd.R (Kd.int .u64) 38 _ _ _ _ (rd_L7 x3_2 ((rd_T95 l0_1 x31_2).f0)) from ge683_0)
              clear hv683_0 ge683_0
              have HX683_0 := Aside0.mk hx683_0
              clear hcc683 hce683
              have HR683_0 := Aside0.mk hi683_0
              have HC683_0 := Aside0.mk hl683_0
              clear hi683_0 hl683_0
              replace p683 := eq_true p683
              replace q683 := eq_true q683
              have ea_ := Option.some.inj (hx682_0.symm.trans hx683_0)
              injection ea_ with ea_ en_ ec_
              subst ea_
              subst ec_
              clear en_
              have p684 : 0 ≤ (((rd_T95 l0_1 x31_2).f1) : Int) := of_decide_eq_true (by assumption)
              have q684 : ((rd_T95 l0_1 x31_2).f1) < ((rd_L7 x3_2 ((rd_T95 l0_1 x31_2).f0)).length : Int) := of_decide_eq_true (by assumption)
              obtain ⟨ad684, e684, hx684_0⟩ := Kd.at_int (by repeat (first | (with_reducible exact HR683_0.out) | (with_reducible refine Kd.C_alloc ?_ _) | (with_reducible refine Kd.C_drewN ?_ _) | (with_reducible refine Kd.C_drew ?_) | exact HR683_0.out)) ((rd_T95 l0_1 x31_2).f1) p684 q684
              cases e684
              replace p684 := eq_true p684
              replace q684 := eq_true q684
              have p31 : 0 ≤ (((rd_T95 l0_1 x31_2).f1) : Int) := of_decide_eq_true (by assumption)
              have q31 : (((rd_T95 l0_1 x31_2).f1) : Int) < (((rd_L7 x3_2 ((rd_T95 l0_1 x31_2).f0)).length : Int) : Int) := of_decide_eq_true (by assumption)
              obtain ⟨go31, co31, eo31, gb31, gl31, cl31, HG31⟩ := Kd.R_form HL682_0.out (by omega)
              (first | cases eo31 | (injection eo31 with ea_ en_ ec_; (first | subst ea_ | (injection ea_ with ea_; subst ea_)); subst ec_; clear en_))
              have GB31 := Aside0.mk gb31
              have GG31 := Aside0.mk HG31
              clear gb31 gl31 HG31
              (first | simp only [add_plain] at hx684_0 | skip)
              obtain ⟨hx31_0, hf31_0⟩ := Kd.R_celln 0 HL682_0.out (((rd_T95 l0_1 x31_2).f1) : Int) p31 q31
              replace p31 := eq_true p31
              replace q31 := eq_true q31
              have hq38 : (((rd_T95 l0_1 x31_2).f0) : Int) < (x3_2.length : Int) := (by have h_ : (((rd_T95 l0_1 x31_2).f0) : Int) < ((x3_2.length : Int) : Int) := of_decide_eq_true (by assumption); first | exact h_ | (have e_ := (Kd.S_reads' HO_3.out).1; omega) | simpa only [List.length_set, List.length_set] using h_)
              obtain ⟨oki38, ce38, hcl38, hM38, hcc38, hok38, hbk38⟩ := Kd.S_borrow HO_3.out [] (((rd_T95 l0_1 x31_2).f0) : Int) (of_decide_eq_true (by assumption)) hq38
              obtain ⟨ve38_0, rfl, ge38_0⟩ := hM38
              have hv38 := hcc38 0 _ rfl
              rw [Nat.add_zero, show ((Kd.slice 38 (Kd.int .u64))).sz = 1 from rfl, Nat.mul_one] at hv38
              replace hv38 := Option.some.inj (hv38.symm.trans HX682_0.out)
              subst hv38
              clear hcc38 hcl38
              replace ge38_0 := (show Kd.R (Kd.int .u64) 38 _ _ _ _ (rd_L7 x3_2 ((rd_T95 l0_1 x31_2).f0)) from ge38_0)
              have HP38 := Kd.R_putg ge38_0 (((rd_T95 l0_1 x31_2).f1) : Int) ji30
              rw [← Ny685.out] at HP38
              have HS38 := hbk38 HP38.2 (fun k_ e_ => by injection e_ with e_; subst e_; exact ge38_0.1 _ rfl) (x' := y685) (Kd.M_row HP38.1)
              rw [← Ny687.out] at HS38
              have HQ38 := Aside0.mk HS38
              clear HP38 HS38 hbk38 hok38
              refine start_ (n := 21) (S := fun w' => w'.cell? ⟨gb681, 0, none⟩ = some (.int .i64 ((rd_T95 l0_1 x31_2).f0)) ∧ w'.cell? ⟨gb681, 1, none⟩ = some (.int .i64 ((rd_T95 l0_1 x31_2).f1)) ∧ w'.cell? ⟨gb681, 2, none⟩ = some (.int .u64 ((rd_T95 l0_1 x31_2).f2)) ∧ w'.cell? (ad682.add (((rd_T95 l0_1 x31_2).f0)).toNat) = some (.slice (some ⟨go31, 0, none⟩) (rd_L7 x3_2 ((rd_T95 l0_1 x31_2).f0)).length c682_0) ∧ w'.cell? (ad682.add (((rd_T95 l0_1 x31_2).f0)).toNat) = some (.slice (some ⟨go31, 0, none⟩) (rd_L7 x3_2 ((rd_T95 l0_1 x31_2).f0)).length c682_0) ∧ w'.cell? ⟨go31, (((rd_T95 l0_1 x31_2).f1)).toNat, none⟩ = some (.int .u64 (rd (rd_L7 x3_2 ((rd_T95 l0_1 x31_2).f0)) ((rd_T95 l0_1 x31_2).f1)))) (ds := [20]) (mk_ 0 21) (by kernel_rfl) rfl rfl ⟨(blk_cell BK681.out 0).trans rfl, (blk_cell BK681.out 1).trans rfl, (blk_cell BK681.out 2).trans rfl, hx682_0, hx683_0, hx684_0⟩ (fun hHeld => ?_); refine with_tabW graph_Graph_ways.tab13 graph_Graph_ways.bits13 (fun HT_ HW_ => ?_)
              generalize w35.drew = w36 at HO_3 BK669 BK681 HB GG31 HL682_0 HL683_0 HQ38 HR682_0 HR683_0 HX682_0 HX683_0 hf31_0 hx31_0 hx682_0 hx683_0 hx684_0 hHeld ⊢
              refine pv_ 0 40 (mk_ 1 20) HT_ ?_
              refine pv_ 1 41 (mk_ 2 19) HT_ ?_
              refine pv_ 5 45 #[true, true, false, false, false, true, false, false, false, false, false, false, false, false, false, false, false, false, false, false, false] HT_ ?_
              refine pv_ 7 47 #[true, true, false, false, false, true, false, true, false, false, false, false, false, false, false, false, false, false, false, false, false] HT_ ?_
              refine pv_ 8 48 #[true, true, false, false, false, true, false, true, true, false, false, false, false, false, false, false, false, false, false, false, false] HT_ ?_
              refine pv_ 12 52 #[true, true, false, false, false, true, false, true, true, false, false, false, true, false, false, false, false, false, false, false, false] HT_ ?_
              refine pv_ 16 56 #[true, true, false, false, false, true, false, true, true, false, false, false, true, false, false, false, true, false, false, false, false] HT_ ?_
              refine tv_ 2 42 #[true, true, true, false, false, true, false, true, true, false, false, false, true, false, false, false, true, false, false, false, false] HT_ HW_ hHeld (hy := by rintro w' ⟨s0, s1, s2, s3, s4, s5⟩; go_simp; with_reducible rfl) (h := ?_)
              refine pv_ 3 43 #[true, true, true, true, false, true, false, true, true, false, false, false, true, false, false, false, true, false, false, false, false] HT_ ?_
              refine tv_ 4 44 #[true, true, true, true, true, true, false, true, true, false, false, false, true, false, false, false, true, false, false, false, false] HT_ HW_ hHeld (hy := by rintro w' ⟨s0, s1, s2, s3, s4, s5⟩; go_simp; with_reducible rfl) (h := ?_)
              refine tv_ 6 46 #[true, true, true, true, true, true, true, true, true, false, false, false, true, false, false, false, true, false, false, false, false] HT_ HW_ hHeld (hy := by rintro w' ⟨s0, s1, s2, s3, s4, s5⟩; go_simp; with_reducible rfl) (h := ?_)
              refine tv_ 9 49 #[true, true, true, true, true, true, true, true, true, true, false, false, true, false, false, false, true, false, false, false, false] HT_ HW_ hHeld (hy := by rintro w' ⟨s0, s1, s2, s3, s4, s5⟩; go_simp; with_reducible rfl) (h := ?_)
              refine pv_ 10 50 #[true, true, true, true, true, true, true, true, true, true, true, false, true, false, false, false, true, false, false, false, false] HT_ ?_
              refine tv_ 11 51 #[true, true, true, true, true, true, true, true, true, true, true, true, true, false, false, false, true, false, false, false, false] HT_ HW_ hHeld (hy := by rintro w' ⟨s0, s1, s2, s3, s4, s5⟩; go_simp; with_reducible rfl) (h := ?_)
              refine tv_ 13 53 #[true, true, true, true, true, true, true, true, true, true, true, true, true, true, false, false, true, false, false, false, false] HT_ HW_ hHeld (hy := by rintro w' ⟨s0, s1, s2, s3, s4, s5⟩; go_simp; with_reducible rfl) (h := ?_)
              refine pv_ 14 54 #[true, true, true, true, true, true, true, true, true, true, true, true, true, true, true, false, true, false, false, false, false] HT_ ?_
              refine tv_ 15 55 (mk_ 17 4) HT_ HW_ hHeld (hy := by rintro w' ⟨s0, s1, s2, s3, s4, s5⟩; go_simp; with_reducible rfl) (h := ?_)
              refine tv_ 17 57 (mk_ 18 3) HT_ HW_ hHeld (hy := by rintro w' ⟨s0, s1, s2, s3, s4, s5⟩; go_simp; with_reducible rfl) (h := ?_)
              refine pv_ 18 58 (mk_ 19 2) HT_ ?_
              refine pv_ 19 59 (mk_ 20 1) HT_ ?_
              refine last_ (i := 20) (N := none) (mk_ 21 0) rfl rfl (one_of HT_.out (by kernel_rfl)) (by decide) (fun K hK => ?_)
              refine skip_ (w1 := ?_) (by rfl) rfl ?_ ?_
              rotate_left
              ·go_simp
               rfl
              refine hK.out _ _ ?_
              clear hK K
              refine done_ (done_of HT_.out (by kernel_rfl)) ?_
              try go_wp2
              go_roundg k2
              case measure => have := HK1.out; have := HK2.out; omega
              case rel => exact ⟨(y687), (wrap64 (x31_2 + 1)), (by first | rfl | (simp; done) | (simp [*]; done)), H', ⟨by have := HK1.out; have := HK2.out; omega⟩, ⟨sn HQ38⟩, ⟨by (with_reducible repeat (first | refine blk_drewN ?_ _ | refine blk_drew ?_ | refine blk_alloc ?_ _)); refine blk_far ?_ (by have h_ := Kd.R_ne HL682_0.out BK669.out (by decide); intro e_; exact h_ (by rw [e_]; rfl)) _; (with_reducible repeat (first | refine blk_drewN ?_ _ | refine blk_drew ?_ | refine blk_alloc ?_ _)); exact BK669.out⟩, ⟨bn3 HB GB31 GE669 GE681⟩⟩
             ·rw [if_neg c29] at H
              exact absurd H (by simp)
            ·rw [if_neg c28] at H
             exact absurd H (by simp)
           ·rw [if_neg c27] at H
            exact absurd H (by simp)
          ·rw [if_neg c26] at H
           exact absurd H (by simp)
        ·rw [if_neg c21] at H
         exact absurd H (by simp)
       ·rw [if_neg c20] at H
        exact absurd H (by simp)
      ·rw [if_neg c19] at H
       have c19b0 : decide (x31_2 < (l0_1.length : Int)) = false := decide_eq_false c19
       clear c19
       have H' := Aside0.mk H
       clear H
       have hcz40_0 : wr.cell? ⟨gb669, 0, none⟩ = some (.int .i64 a0_0) := (blk_cell BK669.out 0).trans rfl
       have hcz40_1 : wr.cell? ⟨gb669, 1, none⟩ = some (.slice A0_1 l0_1.length c0_1) := (blk_cell BK669.out 1).trans rfl
       have hcz40_2 : wr.cell? ⟨gb669, 2, none⟩ = some (.slice A0_2 l0_2.length c0_2) := (blk_cell BK669.out 2).trans rfl
       have hfz40_0 := blk_frozen BK669.out 0
       have hfz40_1 := blk_frozen BK669.out 1
       have hfz40_2 := blk_frozen BK669.out 2
       go_wp2
       go_loopg [63] k2 (fun kq v63 w' => ∃ (x3_3 : List (List Int)) (x63_3 : Int), v63 = .int .i64 x63_3 ∧ Aside0 (graph_Graph_ways.l2 kq x3_3 a0_0 x63_3 a0_0 l0_1 l0_2 = some r) ∧ Aside0 (kq ≤ k2) ∧ Aside0 (Kd.S (Kd.slice 38 (Kd.int .u64)) 67 w' w.heap.size (fun _ => True) u3 x3_3) ∧ Aside0 (w'.heap[gb669]? = some (.cells #[.int .i64 a0_0, (.slice A0_1 l0_1.length c0_1), (.slice A0_2 l0_2.length c0_2)] 64 (0, 0))) ∧ Aside0 (Below w.heap.size w w'))
       case atStart => exact ⟨(x3_2), (0), (by first | rfl | (simp; done) | (simp [*]; done)), H', ⟨Nat.le_refl _⟩, ⟨sn HO_3⟩, ⟨bk BK669⟩, ⟨bn1 HB GE669⟩⟩
       case round =>
        clear H'
        (try clear c1); (try clear c2); (try clear p2); (try clear c3); (try clear p3); (try clear q3); (try clear hx3); (try clear hf3); (try clear c4); (try clear c4b0); (try clear c6); (try clear c6b0); (try clear p6); (try clear q6); (try clear hx6); (try clear c7); (try clear c7b0); (try clear p8)
        (try clear q8); (try clear hx8); (try clear hf8); (try clear c9); (try clear c19); (try clear c19b0); (try clear c20); (try clear c20b0); (try clear c21); (try clear c21b0); (try clear c22); (try clear c22b0); (try clear c22b1); (try clear c24); (try clear c26); (try clear c26b0); (try clear c27)
        (try clear c27b0); (try clear c28); (try clear c28b0); (try clear c29); (try clear c29b0); (try clear p31); (try clear q31); (try clear hx31); (try clear hf31); (try clear c33); (try clear c38); (try clear q38); (try clear hcz12_0); (try clear hcz12_1); (try clear hcz12_2); (try clear hcz18_0)
        (try clear hcz18_1); (try clear hcz18_2); (try clear hcz25_0); (try clear hcz25_1); (try clear hcz25_2); (try clear hcz34_0); (try clear hcz34_1); (try clear hcz34_2); (try clear hcz3_0); (try clear hcz3_1); (try clear hcz3_2); (try clear hcz40_0); (try clear hcz40_1); (try clear hcz40_2); (try clear hfz12_0)
        (try clear hfz12_1); (try clear hfz12_2); (try clear hfz18_0); (try clear hfz18_1); (try clear hfz18_2); (try clear hfz25_0); (try clear hfz25_1); (try clear hfz25_2); (try clear hfz34_0); (try clear hfz34_1); (try clear hfz34_2); (try clear hfz3_0); (try clear hfz3_1); (try clear hfz3_2); (try clear hfz40_0)
        (try clear hfz40_1); (try clear hfz40_2); (try clear hx31_0); (try clear hx680_0); (try clear hx680_1); (try clear hx680_2); (try clear hx682_0); (try clear hx683_0); (try clear hx684_0); (try clear hx8_0); (try clear p2); (try clear p31); (try clear p6); (try clear p680); (try clear p682); (try clear p683)
        (try clear p684); (try clear p8); (try clear q31); (try clear q680); (try clear q682); (try clear q683); (try clear q684); (try clear q8)
        obtain ⟨x3_3, x63_3, rfl, HA, HK3, HO_3, BK669, HB⟩ := hrel
        cases gk with
        | zero => exact absurd HA.out (by simp [graph_Graph_ways.l2])
        | succ k3 =>
         have H := HA.out
         clear HA
         simp only [graph_Graph_ways.l2] at H
         by_cases c41 : x63_3 < a0_0
         ·rw [if_pos c41] at H
          have c41b0 : decide (x63_3 < a0_0) = true := decide_eq_true c41
          clear c41
          have H' := Aside0.mk H
          clear H
          have hcz42_0 : wr.cell? ⟨gb669, 0, none⟩ = some (.int .i64 a0_0) := (blk_cell BK669.out 0).trans rfl
          have hcz42_1 : wr.cell? ⟨gb669, 1, none⟩ = some (.slice A0_1 l0_1.length c0_1) := (blk_cell BK669.out 1).trans rfl
          have hcz42_2 : wr.cell? ⟨gb669, 2, none⟩ = some (.slice A0_2 l0_2.length c0_2) := (blk_cell BK669.out 2).trans rfl
          have hfz42_0 := blk_frozen BK669.out 0
          have hfz42_1 := blk_frozen BK669.out 1
          have hfz42_2 := blk_frozen BK669.out 2
          go_wp2
          go_loopg [68] k3 (fun kq v68 w' => ∃ (x3_4 : List (List Int)) (x68_4 : Int), v68 = .int .i64 x68_4 ∧ Aside0 (graph_Graph_ways.l3 kq x3_4 x63_3 a0_0 x63_3 a0_0 x68_4 a0_0 l0_1 l0_2 = some r) ∧ Aside0 (kq ≤ k3) ∧ Aside0 (Kd.S (Kd.slice 38 (Kd.int .u64)) 67 w' w.heap.size (fun _ => True) u3 x3_4) ∧ Aside0 (w'.heap[gb669]? = some (.cells #[.int .i64 a0_0, (.slice A0_1 l0_1.length c0_1), (.slice A0_2 l0_2.length c0_2)] 64 (0, 0))) ∧ Aside0 (Below w.heap.size w w'))
          case atStart => exact ⟨(x3_3), (0), (by first | rfl | (simp; done) | (simp [*]; done)), H', ⟨Nat.le_refl _⟩, ⟨sn HO_3⟩, ⟨bk BK669⟩, ⟨bn1 HB GE669⟩⟩
          case round =>
           clear H'
           (try clear c1); (try clear c2); (try clear p2); (try clear c3); (try clear p3); (try clear q3); (try clear hx3); (try clear hf3); (try clear c4); (try clear c4b0); (try clear c6); (try clear c6b0); (try clear p6); (try clear q6); (try clear hx6); (try clear c7); (try clear c7b0); (try clear p8)
           (try clear q8); (try clear hx8); (try clear hf8); (try clear c9); (try clear c19); (try clear c19b0); (try clear c20); (try clear c20b0); (try clear c21); (try clear c21b0); (try clear c22); (try clear c22b0); (try clear c22b1); (try clear c24); (try clear c26); (try clear c26b0); (try clear c27)
           (try clear c27b0); (try clear c28); (try clear c28b0); (try clear c29); (try clear c29b0); (try clear p31); (try clear q31); (try clear hx31); (try clear hf31); (try clear c33); (try clear c38); (try clear q38); (try clear c41); (try clear c41b0); (try clear hcz12_0); (try clear hcz12_1); (try clear hcz12_2)
           (try clear hcz18_0); (try clear hcz18_1); (try clear hcz18_2); (try clear hcz25_0); (try clear hcz25_1); (try clear hcz25_2); (try clear hcz34_0); (try clear hcz34_1); (try clear hcz34_2); (try clear hcz3_0); (try clear hcz3_1); (try clear hcz3_2); (try clear hcz40_0); (try clear hcz40_1)
           (try clear hcz40_2); (try clear hcz42_0); (try clear hcz42_1); (try clear hcz42_2); (try clear hfz12_0); (try clear hfz12_1); (try clear hfz12_2); (try clear hfz18_0); (try clear hfz18_1); (try clear hfz18_2); (try clear hfz25_0); (try clear hfz25_1); (try clear hfz25_2); (try clear hfz34_0)
           (try clear hfz34_1); (try clear hfz34_2); (try clear hfz3_0); (try clear hfz3_1); (try clear hfz3_2); (try clear hfz40_0); (try clear hfz40_1); (try clear hfz40_2); (try clear hfz42_0); (try clear hfz42_1); (try clear hfz42_2); (try clear hx31_0); (try clear hx680_0); (try clear hx680_1); (try clear hx680_2)
           (try clear hx682_0); (try clear hx683_0); (try clear hx684_0); (try clear hx8_0); (try clear p2); (try clear p3); (try clear p31); (try clear p6); (try clear p680); (try clear p682); (try clear p683); (try clear p684); (try clear p8); (try clear q3); (try clear q31); (try clear q38); (try clear q6)
           (try clear q680); (try clear q682); (try clear q683); (try clear q684); (try clear q8)
           obtain ⟨x3_4, x68_4, rfl, HA, HK4, HO_3, BK669, HB⟩ := hrel
           cases gk with
           | zero => exact absurd HA.out (by simp [graph_Graph_ways.l3])
           | succ k4 =>
            have H := HA.out
            clear HA
            simp only [graph_Graph_ways.l3] at H
            by_cases c43 : x68_4 < a0_0
            ·rw [if_pos c43] at H
             have c43b0 : decide (x68_4 < a0_0) = true := decide_eq_true c43
             clear c43
             have H' := Aside0.mk H
             clear H
             have hcz44_0 : wr.cell? ⟨gb669, 0, none⟩ = some (.int .i64 a0_0) := (blk_cell BK669.out 0).trans rfl
             have hcz44_1 : wr.cell? ⟨gb669, 1, none⟩ = some (.slice A0_1 l0_1.length c0_1) := (blk_cell BK669.out 1).trans rfl
             have hcz44_2 : wr.cell? ⟨gb669, 2, none⟩ = some (.slice A0_2 l0_2.length c0_2) := (blk_cell BK669.out 2).trans rfl
             have hfz44_0 := blk_frozen BK669.out 0
             have hfz44_1 := blk_frozen BK669.out 1
             have hfz44_2 := blk_frozen BK669.out 2
             go_wp2
             go_loopg [73] k4 (fun kq v73 w' => ∃ (x3_5 : List (List Int)) (x73_5 : Int), v73 = .int .i64 x73_5 ∧ Aside0 (graph_Graph_ways.l4 kq x3_5 x63_3 x68_4 a0_0 x63_3 a0_0 x68_4 a0_0 x73_5 a0_0 l0_1 l0_2 = some r) ∧ Aside0 (kq ≤ k4) ∧ Aside0 (Kd.S (Kd.slice 38 (Kd.int .u64)) 67 w' w.heap.size (fun _ => True) u3 x3_5) ∧ Aside0 (w'.heap[gb669]? = some (.cells #[.int .i64 a0_0, (.slice A0_1 l0_1.length c0_1), (.slice A0_2 l0_2.length c0_2)] 64 (0, 0))) ∧ Aside0 (Below w.heap.size w w'))
             case atStart => exact ⟨(x3_4), (0), (by first | rfl | (simp; done) | (simp [*]; done)), H', ⟨Nat.le_refl _⟩, ⟨sn HO_3⟩, ⟨bk BK669⟩, ⟨bn1 HB GE669⟩⟩
             case round =>
              clear H'
              (try clear c1); (try clear c2); (try clear p2); (try clear c3); (try clear p3); (try clear q3); (try clear hx3); (try clear hf3); (try clear c4); (try clear c4b0); (try clear c6); (try clear c6b0); (try clear p6); (try clear q6); (try clear hx6); (try clear c7); (try clear c7b0); (try clear p8)
              (try clear q8); (try clear hx8); (try clear hf8); (try clear c9); (try clear c19); (try clear c19b0); (try clear c20); (try clear c20b0); (try clear c21); (try clear c21b0); (try clear c22); (try clear c22b0); (try clear c22b1); (try clear c24); (try clear c26); (try clear c26b0); (try clear c27)
              (try clear c27b0); (try clear c28); (try clear c28b0); (try clear c29); (try clear c29b0); (try clear p31); (try clear q31); (try clear hx31); (try clear hf31); (try clear c33); (try clear c38); (try clear q38); (try clear c41); (try clear c41b0); (try clear c43); (try clear c43b0); (try clear hcz12_0)
              (try clear hcz12_1); (try clear hcz12_2); (try clear hcz18_0); (try clear hcz18_1); (try clear hcz18_2); (try clear hcz25_0); (try clear hcz25_1); (try clear hcz25_2); (try clear hcz34_0); (try clear hcz34_1); (try clear hcz34_2); (try clear hcz3_0); (try clear hcz3_1); (try clear hcz3_2)
              (try clear hcz40_0); (try clear hcz40_1); (try clear hcz40_2); (try clear hcz42_0); (try clear hcz42_1); (try clear hcz42_2); (try clear hcz44_0); (try clear hcz44_1); (try clear hcz44_2); (try clear hfz12_0); (try clear hfz12_1); (try clear hfz12_2); (try clear hfz18_0); (try clear hfz18_1)
              (try clear hfz18_2); (try clear hfz25_0); (try clear hfz25_1); (try clear hfz25_2); (try clear hfz34_0); (try clear hfz34_1); (try clear hfz34_2); (try clear hfz3_0); (try clear hfz3_1); (try clear hfz3_2); (try clear hfz40_0); (try clear hfz40_1); (try clear hfz40_2); (try clear hfz42_0)
              (try clear hfz42_1); (try clear hfz42_2); (try clear hfz44_0); (try clear hfz44_1); (try clear hfz44_2); (try clear hx31_0); (try clear hx680_0); (try clear hx680_1); (try clear hx680_2); (try clear hx682_0); (try clear hx683_0); (try clear hx684_0); (try clear hx8_0); (try clear p2); (try clear p3)
              (try clear p31); (try clear p6); (try clear p680); (try clear p682); (try clear p683); (try clear p684); (try clear p8); (try clear q3); (try clear q31); (try clear q38); (try clear q6); (try clear q680); (try clear q682); (try clear q683); (try clear q684); (try clear q8)
              obtain ⟨x3_5, x73_5, rfl, HA, HK5, HO_3, BK669, HB⟩ := hrel
              cases gk with
              | zero => exact absurd HA.out (by simp [graph_Graph_ways.l4])
              | succ k5 =>
               have H := HA.out
               clear HA
               simp only [graph_Graph_ways.l4] at H
               by_cases c45 : x73_5 < a0_0
               ·rw [if_pos c45] at H
                have c45b0 : decide (x73_5 < a0_0) = true := decide_eq_true c45
                clear c45
                by_cases c46 : 0 ≤ x68_4
                ·rw [if_pos c46] at H
                 have c46b0 : decide (0 ≤ x68_4) = true := decide_eq_true c46
                 clear c46
                 by_cases c47 : x68_4 < (x3_5.length : Int)
                 ·rw [if_pos c47] at H
                  have c47b0 : decide (x68_4 < (x3_5.length : Int)) = true := decide_eq_true c47
                  clear c47
                  by_cases c48 : 0 ≤ x73_5
                  ·rw [if_pos c48] at H
                   have c48b0 : decide (0 ≤ x73_5) = true := decide_eq_true c48
                   clear c48
                   by_cases c49 : x73_5 < ((rd_L7 x3_5 x68_4).length : Int)
                   ·rw [if_pos c49] at H
                    have c49b0 : decide (x73_5 < ((rd_L7 x3_5 x68_4).length : Int)) = true := decide_eq_true c49
                    clear c49
                    by_cases c50 : 0 ≤ x63_3
                    ·rw [if_pos c50] at H
                     have c50b0 : decide (0 ≤ x63_3) = true := decide_eq_true c50
                     clear c50
                     by_cases c51 : x63_3 < ((rd_L7 x3_5 x68_4).length : Int)
                     ·rw [if_pos c51] at H
                      have c51b0 : decide (x63_3 < ((rd_L7 x3_5 x68_4).length : Int)) = true := decide_eq_true c51
                      clear c51
                      by_cases c52 : x63_3 < (x3_5.length : Int)
                      ·rw [if_pos c52] at H
                       have c52b0 : decide (x63_3 < (x3_5.length : Int)) = true := decide_eq_true c52
                       clear c52
                       by_cases c53 : x73_5 < ((rd_L7 x3_5 x63_3).length : Int)
                       ·rw [if_pos c53] at H
                        have c53b0 : decide (x73_5 < ((rd_L7 x3_5 x63_3).length : Int)) = true := decide_eq_true c53
                        clear c53
                        replace H := Option.bind_eq_some_iff.mp H
                        obtain ⟨t695, A540, H⟩ := H
                        replace H : (graph_Graph_ways.l4 k5 (x3_5.set (x68_4 : Int).toNat ((rd_L7 x3_5 x68_4).set (x73_5 : Int).toNat (mn (rd (rd_L7 x3_5 x68_4) x73_5) t695))) x63_3 x68_4 a0_0 x63_3 a0_0 x68_4 a0_0 (wrap64 (x73_5 + 1)) a0_0 l0_1 l0_2) = some r := H
                        have A54 := Aside0.mk A540
                        clear A540
                        obtain ⟨ji55, hji55⟩ : ∃ j_ : Int, (mn (rd (rd_L7 x3_5 x68_4) x73_5) t695) = j_ := ⟨_, rfl⟩
                        replace H : (graph_Graph_ways.l4 k5 (x3_5.set (x68_4 : Int).toNat ((rd_L7 x3_5 x68_4).set (x73_5 : Int).toNat (ji55))) x63_3 x68_4 a0_0 x63_3 a0_0 x68_4 a0_0 (wrap64 (x73_5 + 1)) a0_0 l0_1 l0_2) = some r := by first | (rw [hji55] at H; exact H) | (simp only [hji55] at H ⊢; exact H)
                        (try rw [hji55] at A54)
                        have hji55_ : (if t695 < (rd (rd_L7 x3_5 x68_4) x73_5) then t695 else (rd (rd_L7 x3_5 x68_4) x73_5)) = ji55 := hji55
                        obtain ⟨y696, hy696⟩ : ∃ y_ : List Int, y_ = ((rd_L7 x3_5 x68_4).set (x73_5 : Int).toNat (ji55)) := ⟨_, rfl⟩
                        replace H : (graph_Graph_ways.l4 k5 (x3_5.set (x68_4 : Int).toNat y696) x63_3 x68_4 a0_0 x63_3 a0_0 x68_4 a0_0 (wrap64 (x73_5 + 1)) a0_0 l0_1 l0_2) = some r := by first | (rw [hy696]; with_reducible exact H) | (have H2_ := (Option.bind_some _ _).symm.trans H; rw [hy696]; with_reducible exact H2_) | (have H2_ := (Option.bind_some _ _).symm.trans H; with_reducible exact H2_) | with_reducible exact H | (rw [hy696]; exact H) | exact H
                        have Ny696 := Aside0.mk hy696
                        clear hy696
                        obtain ⟨y698, hy698⟩ : ∃ y_ : List (List Int), y_ = (x3_5.set (x68_4 : Int).toNat y696) := ⟨_, rfl⟩
                        replace H : (graph_Graph_ways.l4 k5 y698 x63_3 x68_4 a0_0 x63_3 a0_0 x68_4 a0_0 (wrap64 (x73_5 + 1)) a0_0 l0_1 l0_2) = some r := by first | (rw [hy698]; with_reducible exact H) | (have H2_ := (Option.bind_some _ _).symm.trans H; rw [hy698]; with_reducible exact H2_) | (have H2_ := (Option.bind_some _ _).symm.trans H; with_reducible exact H2_) | with_reducible exact H | (rw [hy698]; exact H) | exact H
                        have Ny698 := Aside0.mk hy698
                        clear hy698
                        have H' := Aside0.mk H
                        clear H
                        try go_wp2
                        have n0_ := Aside0.mk (Kd.S_drew HO_3.out)
                        have n1_ := Aside0.mk (blk_drew BK669.out)
                        have n2_ := Aside0.mk (below_drew1 HB.out)
                        clear HO_3
                        clear BK669
                        clear HB
                        have HO_3 := n0_
                        have BK669 := n1_
                        have HB := n2_
                        clear n0_ n1_ n2_
                        obtain ⟨Ao58, co58, eo58⟩ := Kd.S_slice HO_3.out
                        (first | subst eo58 | (injection eo58 with f1_ f2_ f3_; have f4_ := f1_.symm; have f5_ := f3_.symm; clear f1_ f2_ f3_; subst f4_; subst f5_))
                        have p688 : 0 ≤ (x68_4 : Int) := of_decide_eq_true (by assumption)
                        have q688 : x68_4 < (x3_5.length : Int) := of_decide_eq_true (by assumption)
                        obtain ⟨ad688, A688_0, c688_0, e688, hx688_0, hl688_0, hi688_0⟩ := at_L7 (Kd.S_reads' HO_3.out).2.2 x68_4 p688 q688
                        cases e688
                        obtain ⟨ce688, hce688, hMe688, hcc688⟩ := Kd.S_get HO_3.out [] x68_4 p688 (by first | exact q688 | exact of_decide_eq_true (by assumption) | (have e_ := (Kd.S_reads' HO_3.out).1; omega))
                        obtain ⟨ve688_0, rfl, ge688_0⟩ := hMe688
                        have hv688_0 := hcc688 0 _ rfl
                        rw [Nat.add_zero, show ((Kd.slice 38 (Kd.int .u64))).sz = 1 from rfl, Nat.mul_one] at hv688_0
                        replace hv688_0 := Option.some.inj (hv688_0.symm.trans hx688_0)
                        rw [hv688_0] at ge688_0
                        have HL688_0 := Aside0.mk (show Kd.R (Kd.int .u64) 38 _ _ _ _ (rd_L7 x3_5 x68_4) from ge688_0)
                        clear hv688_0 ge688_0
                        have HX688_0 := Aside0.mk hx688_0
                        clear hcc688 hce688
                        have HR688_0 := Aside0.mk hi688_0
                        have HC688_0 := Aside0.mk hl688_0
                        clear hi688_0 hl688_0
                        replace p688 := eq_true p688
                        replace q688 := eq_true q688
                        have p689 : 0 ≤ (x68_4 : Int) := of_decide_eq_true (by assumption)
                        have q689 : x68_4 < (x3_5.length : Int) := of_decide_eq_true (by assumption)
                        obtain ⟨ad689, A689_0, c689_0, e689, hx689_0, hl689_0, hi689_0⟩ := at_L7 (Kd.S_reads' HO_3.out).2.2 x68_4 p689 q689
                        obtain rfl : ad688 = ad689 := (by injection e689)
                        obtain ⟨ce689, hce689, hMe689, hcc689⟩ := Kd.S_get HO_3.out [] x68_4 p689 (by first | exact q689 | exact of_decide_eq_true (by assumption) | (have e_ := (Kd.S_reads' HO_3.out).1; omega))
                        obtain ⟨ve689_0, rfl, ge689_0⟩ := hMe689
                        have hv689_0 := hcc689 0 _ rfl
                        rw [Nat.add_zero, show ((Kd.slice 38 (Kd.int .u64))).sz = 1 from rfl, Nat.mul_one] at hv689_0
                        replace hv689_0 := Option.some.inj (hv689_0.symm.trans hx689_0)
                        rw [hv689_0] at ge689_0
                        have HL689_0 := Aside0.mk (show Kd.R (Kd.int .u64) 38 _ _ _ _ (rd_L7 x3_5 x68_4) from ge689_0)
                        clear hv689_0 ge689_0
                        have HX689_0 := Aside0.mk hx689_0
                        clear hcc689 hce689
                        have HR689_0 := Aside0.mk hi689_0
                        have HC689_0 := Aside0.mk hl689_0
                        clear hi689_0 hl689_0
                        replace p689 := eq_true p689
                        replace q689 := eq_true q689
                        have ea_ := Option.some.inj (hx688_0.symm.trans hx689_0)
                        injection ea_ with ea_ en_ ec_
                        subst ea_
                        subst ec_
                        clear en_
                        have p690 : 0 ≤ (x73_5 : Int) := of_decide_eq_true (by assumption)
                        have q690 : x73_5 < ((rd_L7 x3_5 x68_4).length : Int) := of_decide_eq_true (by assumption)
                        obtain ⟨ad690, e690, hx690_0⟩ := Kd.at_int (by repeat (first | (with_reducible exact HR689_0.out) | (with_reducible refine Kd.C_alloc ?_ _) | (with_reducible refine Kd.C_drewN ?_ _) | (with_reducible refine Kd.C_drew ?_) | exact HR689_0.out)) x73_5 p690 q690
                        cases e690
                        replace p690 := eq_true p690
                        replace q690 := eq_true q690
                        have p691 : 0 ≤ (x68_4 : Int) := of_decide_eq_true (by assumption)
                        have q691 : x68_4 < (x3_5.length : Int) := of_decide_eq_true (by assumption)
                        obtain ⟨ad691, A691_0, c691_0, e691, hx691_0, hl691_0, hi691_0⟩ := at_L7 (Kd.S_reads' HO_3.out).2.2 x68_4 p691 q691
                        obtain rfl : ad688 = ad691 := (by injection e691)
                        obtain ⟨ce691, hce691, hMe691, hcc691⟩ := Kd.S_get HO_3.out [] x68_4 p691 (by first | exact q691 | exact of_decide_eq_true (by assumption) | (have e_ := (Kd.S_reads' HO_3.out).1; omega))
                        obtain ⟨ve691_0, rfl, ge691_0⟩ := hMe691
                        have hv691_0 := hcc691 0 _ rfl
                        rw [Nat.add_zero, show ((Kd.slice 38 (Kd.int .u64))).sz = 1 from rfl, Nat.mul_one] at hv691_0
                        replace hv691_0 := Option.some.inj (hv691_0.symm.trans hx691_0)
                        rw [hv691_0] at ge691_0
                        have HL691_0 := Aside0.mk (show Kd.R (Kd.int .u64) 38 _ _ _ _ (rd_L7 x3_5 x68_4) from ge691_0)
                        clear hv691_0 ge691_0
                        have HX691_0 := Aside0.mk hx691_0
                        clear hcc691 hce691
                        have HR691_0 := Aside0.mk hi691_0
                        have HC691_0 := Aside0.mk hl691_0
                        clear hi691_0 hl691_0
                        replace p691 := eq_true p691
                        replace q691 := eq_true q691
                        have ea_ := Option.some.inj (hx688_0.symm.trans hx691_0)
                        injection ea_ with ea_ en_ ec_
                        subst ea_
                        subst ec_
                        clear en_
                        have p692 : 0 ≤ (x63_3 : Int) := of_decide_eq_true (by assumption)
                        have q692 : x63_3 < ((rd_L7 x3_5 x68_4).length : Int) := of_decide_eq_true (by assumption)
                        obtain ⟨ad692, e692, hx692_0⟩ := Kd.at_int (by repeat (first | (with_reducible exact HR691_0.out) | (with_reducible refine Kd.C_alloc ?_ _) | (with_reducible refine Kd.C_drewN ?_ _) | (with_reducible refine Kd.C_drew ?_) | exact HR691_0.out)) x63_3 p692 q692
                        cases e692
                        replace p692 := eq_true p692
                        replace q692 := eq_true q692
                        have p693 : 0 ≤ (x63_3 : Int) := of_decide_eq_true (by assumption)
                        have q693 : x63_3 < (x3_5.length : Int) := of_decide_eq_true (by assumption)
                        obtain ⟨ad693, A693_0, c693_0, e693, hx693_0, hl693_0, hi693_0⟩ := at_L7 (Kd.S_reads' HO_3.out).2.2 x63_3 p693 q693
                        obtain rfl : ad688 = ad693 := (by injection e693)
                        obtain ⟨ce693, hce693, hMe693, hcc693⟩ := Kd.S_get HO_3.out [] x63_3 p693 (by first | exact q693 | exact of_decide_eq_true (by assumption) | (have e_ := (Kd.S_reads' HO_3.out).1; omega))
                        obtain ⟨ve693_0, rfl, ge693_0⟩ := hMe693
                        have hv693_0 := hcc693 0 _ rfl
                        rw [Nat.add_zero, show ((Kd.slice 38 (Kd.int .u64))).sz = 1 from rfl, Nat.mul_one] at hv693_0
                        replace hv693_0 := Option.some.inj (hv693_0.symm.trans hx693_0)
                        rw [hv693_0] at ge693_0
                        have HL693_0 := Aside0.mk (show Kd.R (Kd.int .u64) 38 _ _ _ _ (rd_L7 x3_5 x63_3) from ge693_0)
                        clear hv693_0 ge693_0
                        have HX693_0 := Aside0.mk hx693_0
                        clear hcc693 hce693
                        have HR693_0 := Aside0.mk hi693_0
                        have HC693_0 := Aside0.mk hl693_0
                        clear hi693_0 hl693_0
                        replace p693 := eq_true p693
                        replace q693 := eq_true q693
                        have p694 : 0 ≤ (x73_5 : Int) := of_decide_eq_true (by assumption)
                        have q694 : x73_5 < ((rd_L7 x3_5 x63_3).length : Int) := of_decide_eq_true (by assumption)
                        obtain ⟨ad694, e694, hx694_0⟩ := Kd.at_int (by repeat (first | (with_reducible exact HR693_0.out) | (with_reducible refine Kd.C_alloc ?_ _) | (with_reducible refine Kd.C_drewN ?_ _) | (with_reducible refine Kd.C_drew ?_) | exact HR693_0.out)) x73_5 p694 q694
                        cases e694
                        replace p694 := eq_true p694
                        replace q694 := eq_true q694
                        refine start_ (n := 30) (S := fun w' => w'.cell? (ad688.add (x68_4).toNat) = some (.slice (some ad690) (rd_L7 x3_5 x68_4).length c688_0) ∧ w'.cell? (ad688.add (x68_4).toNat) = some (.slice (some ad690) (rd_L7 x3_5 x68_4).length c688_0) ∧ w'.cell? (ad690.add (x73_5).toNat) = some (.int .u64 (rd (rd_L7 x3_5 x68_4) x73_5)) ∧ w'.cell? (ad688.add (x68_4).toNat) = some (.slice (some ad690) (rd_L7 x3_5 x68_4).length c688_0) ∧ w'.cell? (ad690.add (x63_3).toNat) = some (.int .u64 (rd (rd_L7 x3_5 x68_4) x63_3)) ∧ w'.cell? (ad688.add (x63_3).toNat) = some (.slice (some ad694) (rd_L7 x3_5 x63_3).length c693_0) ∧ w'.cell? (ad694.add (x73_5).toNat) = some (.int .u64 (rd (rd_L7 x3_5 x63_3) x73_5))) (ds := [29]) (mk_ 0 30) (by kernel_rfl) rfl rfl ⟨hx688_0, hx689_0, hx690_0, hx691_0, hx692_0, hx693_0, hx694_0⟩ (fun hHeld => ?_); refine with_tabW graph_Graph_ways.tab24 graph_Graph_ways.bits24 (fun HT_ HW_ => ?_)
                        generalize wr.drew = w57 at HO_3 BK669 HB HL688_0 HL689_0 HL691_0 HL693_0 HR688_0 HR689_0 HR691_0 HR693_0 HX688_0 HX689_0 HX691_0 HX693_0 hx688_0 hx689_0 hx690_0 hx691_0 hx692_0 hx693_0 hx694_0 hHeld ⊢
                        refine pv_ 0 76 (mk_ 1 29) HT_ ?_
                        refine pv_ 1 77 (mk_ 2 28) HT_ ?_
                        refine pv_ 2 78 (mk_ 3 27) HT_ ?_
                        refine pv_ 4 80 #[true, true, true, false, true, false, false, false, false, false, false, false, false, false, false, false, false, false, false, false, false, false, false, false, false, false, false, false, false, false] HT_ ?_
                        refine pv_ 5 81 #[true, true, true, false, true, true, false, false, false, false, false, false, false, false, false, false, false, false, false, false, false, false, false, false, false, false, false, false, false, false] HT_ ?_
                        refine pv_ 6 82 #[true, true, true, false, true, true, true, false, false, false, false, false, false, false, false, false, false, false, false, false, false, false, false, false, false, false, false, false, false, false] HT_ ?_
                        refine pv_ 7 83 #[true, true, true, false, true, true, true, true, false, false, false, false, false, false, false, false, false, false, false, false, false, false, false, false, false, false, false, false, false, false] HT_ ?_
                        refine pv_ 9 85 #[true, true, true, false, true, true, true, true, false, true, false, false, false, false, false, false, false, false, false, false, false, false, false, false, false, false, false, false, false, false] HT_ ?_
                        refine pv_ 12 88 #[true, true, true, false, true, true, true, true, false, true, false, false, true, false, false, false, false, false, false, false, false, false, false, false, false, false, false, false, false, false] HT_ ?_
                        refine pv_ 13 89 #[true, true, true, false, true, true, true, true, false, true, false, false, true, true, false, false, false, false, false, false, false, false, false, false, false, false, false, false, false, false] HT_ ?_
                        refine pv_ 14 90 #[true, true, true, false, true, true, true, true, false, true, false, false, true, true, true, false, false, false, false, false, false, false, false, false, false, false, false, false, false, false] HT_ ?_
                        refine pv_ 16 92 #[true, true, true, false, true, true, true, true, false, true, false, false, true, true, true, false, true, false, false, false, false, false, false, false, false, false, false, false, false, false] HT_ ?_
                        refine pv_ 19 95 #[true, true, true, false, true, true, true, true, false, true, false, false, true, true, true, false, true, false, false, true, false, false, false, false, false, false, false, false, false, false] HT_ ?_
                        refine pv_ 20 96 #[true, true, true, false, true, true, true, true, false, true, false, false, true, true, true, false, true, false, false, true, true, false, false, false, false, false, false, false, false, false] HT_ ?_
                        refine pv_ 21 97 #[true, true, true, false, true, true, true, true, false, true, false, false, true, true, true, false, true, false, false, true, true, true, false, false, false, false, false, false, false, false] HT_ ?_
                        refine pv_ 23 99 #[true, true, true, false, true, true, true, true, false, true, false, false, true, true, true, false, true, false, false, true, true, true, false, true, false, false, false, false, false, false] HT_ ?_
                        refine tv_ 3 79 #[true, true, true, true, true, true, true, true, false, true, false, false, true, true, true, false, true, false, false, true, true, true, false, true, false, false, false, false, false, false] HT_ HW_ hHeld (hy := by rintro w' ⟨s0, s1, s2, s3, s4, s5, s6⟩; go_simp; with_reducible rfl) (h := ?_)
                        refine tv_ 8 84 #[true, true, true, true, true, true, true, true, true, true, false, false, true, true, true, false, true, false, false, true, true, true, false, true, false, false, false, false, false, false] HT_ HW_ hHeld (hy := by rintro w' ⟨s0, s1, s2, s3, s4, s5, s6⟩; go_simp; with_reducible rfl) (h := ?_)
                        refine pv_ 10 86 #[true, true, true, true, true, true, true, true, true, true, true, false, true, true, true, false, true, false, false, true, true, true, false, true, false, false, false, false, false, false] HT_ ?_
                        refine tv_ 11 87 #[true, true, true, true, true, true, true, true, true, true, true, true, true, true, true, false, true, false, false, true, true, true, false, true, false, false, false, false, false, false] HT_ HW_ hHeld (hy := by rintro w' ⟨s0, s1, s2, s3, s4, s5, s6⟩; go_simp; with_reducible rfl) (h := ?_)
                        refine tv_ 15 91 #[true, true, true, true, true, true, true, true, true, true, true, true, true, true, true, true, true, false, false, true, true, true, false, true, false, false, false, false, false, false] HT_ HW_ hHeld (hy := by rintro w' ⟨s0, s1, s2, s3, s4, s5, s6⟩; go_simp; with_reducible rfl) (h := ?_)
                        refine pv_ 17 93 #[true, true, true, true, true, true, true, true, true, true, true, true, true, true, true, true, true, true, false, true, true, true, false, true, false, false, false, false, false, false] HT_ ?_
                        refine tv_ 18 94 #[true, true, true, true, true, true, true, true, true, true, true, true, true, true, true, true, true, true, true, true, true, true, false, true, false, false, false, false, false, false] HT_ HW_ hHeld (hy := by rintro w' ⟨s0, s1, s2, s3, s4, s5, s6⟩; go_simp; with_reducible rfl) (h := ?_)
                        refine tv_ 22 98 (mk_ 24 6) HT_ HW_ hHeld (hy := by rintro w' ⟨s0, s1, s2, s3, s4, s5, s6⟩; go_simp; with_reducible rfl) (h := ?_)
                        refine pv_ 24 100 (mk_ 25 5) HT_ ?_
                        refine tv_ 25 101 (mk_ 26 4) HT_ HW_ hHeld (hy := by rintro w' ⟨s0, s1, s2, s3, s4, s5, s6⟩; go_simp; with_reducible rfl) (h := ?_)
                        refine one_ (i := 26) (N := some 102) (mk_ 27 3) rfl rfl (one_of HT_.out (by kernel_rfl)) (by decide) (fun K hK => ?_)
                        refine goes_ Try.func70 (by kernel_rfl) rfl #[.int .u64 (rd (rd_L7 x3_5 x68_4) x63_3), .int .u64 (rd (rd_L7 x3_5 x63_3) x73_5)] (by rfl) rfl rfl (by (try simp only [List.map_toArray, List.map_cons, List.map_nil]); first | done | rfl | (simp only [List.length_drop, List.length_take]; rfl)) ?_
                        with_reducible refine (stamp_Plus.calls (rd (rd_L7 x3_5 x68_4) x63_3) (rd (rd_L7 x3_5 x63_3) x73_5) t695 _ A54.out).mono ?_
                        rintro e w' ⟨rfl, ⟨nd, rfl⟩⟩
                        refine ⟨_, rfl, ?_⟩
                        have p56 : 0 ≤ (x73_5 : Int) := of_decide_eq_true (by assumption)
                        have q56 : (x73_5 : Int) < (((rd_L7 x3_5 x68_4).length : Int) : Int) := of_decide_eq_true (by assumption)
                        obtain ⟨go56, co56, eo56, gb56, gl56, cl56, HG56⟩ := Kd.R_form HL688_0.out (by omega)
                        (first | cases eo56 | (injection eo56 with ea_ en_ ec_; (first | subst ea_ | (injection ea_ with ea_; subst ea_)); subst ec_; clear en_))
                        have GB56 := Aside0.mk gb56
                        have GG56 := Aside0.mk HG56
                        clear gb56 gl56 HG56
                        (first | simp only [add_plain] at hx692_0 | skip)
                        obtain ⟨hx56_0, hf56_0⟩ := Kd.R_celln 0 HL688_0.out (x73_5 : Int) p56 q56
                        replace p56 := eq_true p56
                        replace q56 := eq_true q56
                        have hq59 : (x68_4 : Int) < (x3_5.length : Int) := (by have h_ : (x68_4 : Int) < ((x3_5.length : Int) : Int) := of_decide_eq_true (by assumption); first | exact h_ | (have e_ := (Kd.S_reads' HO_3.out).1; omega) | simpa only [List.length_set, List.length_set] using h_)
                        obtain ⟨oki59, ce59, hcl59, hM59, hcc59, hok59, hbk59⟩ := Kd.S_borrow HO_3.out [] (x68_4 : Int) (of_decide_eq_true (by assumption)) hq59
                        obtain ⟨ve59_0, rfl, ge59_0⟩ := hM59
                        have hv59 := hcc59 0 _ rfl
                        rw [Nat.add_zero, show ((Kd.slice 38 (Kd.int .u64))).sz = 1 from rfl, Nat.mul_one] at hv59
                        replace hv59 := Option.some.inj (hv59.symm.trans HX688_0.out)
                        subst hv59
                        clear hcc59 hcl59
                        replace ge59_0 := (show Kd.R (Kd.int .u64) 38 _ _ _ _ (rd_L7 x3_5 x68_4) from ge59_0)
                        have HP59 := Kd.R_putg ge59_0 (x73_5 : Int) ji55
                        rw [← Ny696.out] at HP59
                        have HS59 := hbk59 HP59.2 (fun k_ e_ => by injection e_ with e_; subst e_; exact ge59_0.1 _ rfl) (x' := y696) (Kd.M_row HP59.1)
                        rw [← Ny698.out] at HS59
                        have HQ59 := Aside0.mk HS59
                        clear HP59 HS59 hbk59 hok59
                        refine hK.out _ _ ⟨hHeld.1, hHeld.2.1, hHeld.2.2.1, hHeld.2.2.2.1, hHeld.2.2.2.2.1, hHeld.2.2.2.2.2.1, hHeld.2.2.2.2.2.2⟩ (fun hHeld => ?_)
                        clear hK K
                        refine norm_ (a' := ?_) ?_ ?_
                        rotate_left
                        ·show Act.put _ (some 102) _ = _
                         simp only [Act.put, List.setIfInBounds_toArray, List.set_cons_zero, List.set_cons_succ, i64_w, i32_w]
                         rfl
                        refine pv_ 27 103 (mk_ 28 2) HT_ ?_
                        refine pv_ 28 104 (mk_ 29 1) HT_ ?_
                        refine last_ (i := 29) (N := none) (mk_ 30 0) rfl rfl (one_of HT_.out (by kernel_rfl)) (by decide) (fun K hK => ?_)
                        refine skip_ (w1 := ?_) (by rfl) rfl ?_ ?_
                        rotate_left
                        ·go_simp
                         rfl
                        refine hK.out _ _ ?_
                        clear hK K
                        refine done_ (done_of HT_.out (by kernel_rfl)) ?_
                        try go_wp2
                        go_roundg k5
                        case measure => have := HK1.out; have := HK2.out; have := HK3.out; have := HK4.out; have := HK5.out; omega
                        case rel => exact ⟨(y698), (wrap64 (x73_5 + 1)), (by first | rfl | (simp; done) | (simp [*]; done)), H', ⟨by have := HK1.out; have := HK2.out; have := HK3.out; have := HK4.out; have := HK5.out; omega⟩, ⟨sn HQ59⟩, ⟨by (with_reducible repeat (first | refine blk_drewN ?_ _ | refine blk_drew ?_ | refine blk_alloc ?_ _)); refine blk_far ?_ (by have h_ := Kd.R_ne HL688_0.out BK669.out (by decide); intro e_; exact h_ (by rw [e_]; rfl)) _; (with_reducible repeat (first | refine blk_drewN ?_ _ | refine blk_drew ?_ | refine blk_alloc ?_ _)); exact BK669.out⟩, ⟨bn2 HB GB56 GE669⟩⟩
                       ·rw [if_neg c53] at H
                        exact absurd H (by simp)
                      ·rw [if_neg c52] at H
                       exact absurd H (by simp)
                     ·rw [if_neg c51] at H
                      exact absurd H (by simp)
                    ·rw [if_neg c50] at H
                     exact absurd H (by simp)
                   ·rw [if_neg c49] at H
                    exact absurd H (by simp)
                  ·rw [if_neg c48] at H
                   exact absurd H (by simp)
                 ·rw [if_neg c47] at H
                  exact absurd H (by simp)
                ·rw [if_neg c46] at H
                 exact absurd H (by simp)
               ·rw [if_neg c45] at H
                have c45b0 : decide (x73_5 < a0_0) = false := decide_eq_false c45
                clear c45
                have H' := Aside0.mk H
                clear H
                go_wp2
                go_roundg k5
                case measure => have := HK1.out; have := HK2.out; have := HK3.out; have := HK4.out; have := HK5.out; omega
                case rel => exact ⟨(x3_5), (wrap64 (x68_4 + 1)), (by first | rfl | (simp; done) | (simp [*]; done)), H', ⟨by have := HK1.out; have := HK2.out; have := HK3.out; have := HK4.out; have := HK5.out; omega⟩, ⟨sn HO_3⟩, ⟨bk BK669⟩, ⟨bn1 HB GE669⟩⟩
            ·rw [if_neg c43] at H
             have c43b0 : decide (x68_4 < a0_0) = false := decide_eq_false c43
             clear c43
             have H' := Aside0.mk H
             clear H
             go_wp2
             go_roundg k4
             case measure => have := HK1.out; have := HK2.out; have := HK3.out; have := HK4.out; omega
             case rel => exact ⟨(x3_4), (wrap64 (x63_3 + 1)), (by first | rfl | (simp; done) | (simp [*]; done)), H', ⟨by have := HK1.out; have := HK2.out; have := HK3.out; have := HK4.out; omega⟩, ⟨sn HO_3⟩, ⟨bk BK669⟩, ⟨bn1 HB GE669⟩⟩
         ·rw [if_neg c41] at H
          have c41b0 : decide (x63_3 < a0_0) = false := decide_eq_false c41
          clear c41
          obtain rfl := Option.some.inj H
          go_wp2
          go_ret
          exact ⟨_, by first | rfl | (simp [errW_none, errW_some] <;> rfl) | (simp [*, errW_none, errW_some] <;> rfl), sn HO_3, bn1 HB GE669⟩
end Go.Proofs.Ytgeldmhgbnamcaa.P
end
section
-- Printed by the session's own turn of the print (wip/tools/print2.sh): some callees are proved by hand.
namespace Go.Proofs.Ytgeldmhgbnamcaa.P
open Go.RowKit Go.Proofs.YtgeldmhgbnamcaaW.PrintWords Go.Proofs.YtgeldmhgbnamcaaW.PrintLast Go.Proofs.YtgeldmhgbnamcaaW.PrintMore
attribute [local go_sem] max2_int min2_int max_two min_two max_three min_three max_four min_four   -- for this text's walks alone
set_option linter.unusedVariables false
set_option linter.unusedSimpArgs false
/-! ### graph_Graph_has: function 91 -/
def graph_Graph_has.f (a0_0 : Int) (l0_1 : List (S95)) (l0_2 : List Int) (a1 : Int) : Option (Bool) := if a1 ≥ 0 then (some (decide (a1 < a0_0))) else (some false)
set_option maxHeartbeats 8000000 in
set_option maxRecDepth 100000 in
theorem graph_Graph_has.calls (a0_0 : Int) (A0_1 : Option Addr) (c0_1 : Nat) (l0_1 : List (S95)) (A0_2 : Option Addr) (c0_2 : Nat) (l0_2 : List Int) (a1 : Int) (r : Bool) (w : World) (hr0_1 : Kd.C k95 w A0_1 l0_1.length l0_1) (hc0_1 : l0_1.length ≤ c0_1) (hr0_2 : Kd.C (Kd.int .i64) w A0_2 l0_2.length l0_2) (hc0_2 : l0_2.length ≤ c0_2) (h : graph_Graph_has.f a0_0 l0_1 l0_2 a1 = some r) :
  Calls Try.prog 91 #[.agg #[.int .i64 a0_0, .slice A0_1 l0_1.length c0_1, .slice A0_2 l0_2.length c0_2], .int .i64 a1] w fun e w' => e = .returned (.bool r) ∧ Below w.heap.size w w' := by
 have hu64 := Try.underlying64
 have HR0_1 := Aside0.mk hr0_1
 have HC0_1 := Aside0.mk hc0_1
 clear hr0_1 hc0_1
 have HR0_2 := Aside0.mk hr0_2
 have HC0_2 := Aside0.mk hc0_2
 clear hr0_2 hc0_2
 have HB := Aside0.mk (Below.refl w.heap.size w)
 have H : (if a1 ≥ 0 then (some (decide (a1 < a0_0))) else (some false)) = some r := h
 clear h
 by_cases c3 : a1 ≥ 0
 ·rw [if_pos c3] at H
  have c3b0 : decide (0 ≤ a1) = true := decide_eq_true c3
  clear c3
  obtain rfl := Option.some.inj H
  go_enter Try.func91, Try.ntmps91
  go_wp2_with (first | ((with_reducible refine gate_dst (N := 2) rfl ?_); refine box_event ?hg (N := 2) ?hd (cs := #[.int .i64 a0_0, .slice A0_1 l0_1.length c0_1, .slice A0_2 l0_2.length c0_2]) (t := 64) ?hr ?_; (case hd => rfl); (case hg => rfl); (case hr => first | (go_simp; done) | (go_simp; rfl)); intro gb700 hg w4 hbox hb; have n1_ := Aside0.mk (hbox); have n2_ := Aside0.mk ((by rw [hg]; exact (below_size (bn HB)) : w.heap.size ≤ gb700)); have n3_ := Aside0.mk ((by rw [hg]; exact (below_size (bn HB)) : w.heap.size ≤ gb700)); replace HB := bb HB hb; have BK700 := n1_; have GW700 := n2_; have GE700 := n3_; clear n1_ n2_ n3_; clear hb hbox hg; have hcz5_0 : w4.cell? ⟨gb700, 0, none⟩ = some (.int .i64 a0_0) := (blk_cell BK700.out 0).trans rfl; have hcz5_1 : w4.cell? ⟨gb700, 1, none⟩ = some (.slice A0_1 l0_1.length c0_1) := (blk_cell BK700.out 1).trans rfl; have hcz5_2 : w4.cell? ⟨gb700, 2, none⟩ = some (.slice A0_2 l0_2.length c0_2) := (blk_cell BK700.out 2).trans rfl; have hfz5_0 := blk_frozen BK700.out 0; have hfz5_1 := blk_frozen BK700.out 1; have hfz5_2 := blk_frozen BK700.out 2))
  go_ret
  exact ⟨by first | rfl | (simp [errW_none, errW_some] <;> rfl) | (simp [*, errW_none, errW_some] <;> rfl), bn1 HB GE700⟩
 ·rw [if_neg c3] at H
  have c3b0 : decide (0 ≤ a1) = false := decide_eq_false c3
  clear c3
  obtain rfl := Option.some.inj H
  go_enter Try.func91, Try.ntmps91
  go_wp2_with (first | ((with_reducible refine gate_dst (N := 2) rfl ?_); refine box_event ?hg (N := 2) ?hd (cs := #[.int .i64 a0_0, .slice A0_1 l0_1.length c0_1, .slice A0_2 l0_2.length c0_2]) (t := 64) ?hr ?_; (case hd => rfl); (case hg => rfl); (case hr => first | (go_simp; done) | (go_simp; rfl)); intro gb700 hg w6 hbox hb; have n1_ := Aside0.mk (hbox); have n2_ := Aside0.mk ((by rw [hg]; exact (below_size (bn HB)) : w.heap.size ≤ gb700)); have n3_ := Aside0.mk ((by rw [hg]; exact (below_size (bn HB)) : w.heap.size ≤ gb700)); replace HB := bb HB hb; have BK700 := n1_; have GW700 := n2_; have GE700 := n3_; clear n1_ n2_ n3_; clear hb hbox hg))
  go_ret
  exact ⟨by first | rfl | (simp [errW_none, errW_some] <;> rfl) | (simp [*, errW_none, errW_some] <;> rfl), bn1 HB GE700⟩
end Go.Proofs.Ytgeldmhgbnamcaa.P
end
section
-- Printed by the session's own turn of the print (wip/tools/print2.sh): some callees are proved by hand.
namespace Go.Proofs.Ytgeldmhgbnamcaa.P
open Go.RowKit Go.Proofs.YtgeldmhgbnamcaaW.PrintWords Go.Proofs.YtgeldmhgbnamcaaW.PrintLast Go.Proofs.YtgeldmhgbnamcaaW.PrintMore
attribute [local go_sem] max2_int min2_int max_two min_two max_three min_three max_four min_four   -- for this text's walks alone
set_option linter.unusedVariables false
set_option linter.unusedSimpArgs false
/-! ### graph_Graph_edges: function 80 -/
def graph_Graph_edges.l0 : Nat → List (S95) → Int → Int → Int → List (S95) → List Int → Option (Option Int)
 | 0, _, _, _, _, _, _ => none
 | k + 1, x6, x7, x8, x702000, x702001, x702002 => if x8 < x7 then (if 0 ≤ x8 then (if x8 < (x6.length : Int) then ((graph_Graph_has.f x702000 x702001 x702002 ((rd_T95 x6 x8).f0)).bind fun t704 => (if t704 = true then ((graph_Graph_has.f x702000 x702001 x702002 ((rd_T95 x6 x8).f1)).bind fun t705 => (if t705 = true then (graph_Graph_edges.l0 k x6 x7 (wrap64 (x8 + 1)) x702000 x702001 x702002) else (none))) else (none))) else (none)) else (none)) else (some none)
def graph_Graph_edges.f (k : Nat) (a0_0 : Int) (l0_1 : List (S95)) (l0_2 : List Int) : Option (Option Int) := graph_Graph_edges.l0 k l0_1 (l0_1.length : Int) 0 a0_0 l0_1 l0_2
set_option maxHeartbeats 8000000 in
set_option maxRecDepth 100000 in
theorem graph_Graph_edges.calls (k : Nat) (a0_0 : Int) (A0_1 : Option Addr) (c0_1 : Nat) (l0_1 : List (S95)) (A0_2 : Option Addr) (c0_2 : Nat) (l0_2 : List Int) (r : Option Int) (w : World) (hr0_1 : Kd.C k95 w A0_1 l0_1.length l0_1) (hc0_1 : l0_1.length ≤ c0_1) (hr0_2 : Kd.C (Kd.int .i64) w A0_2 l0_2.length l0_2) (hc0_2 : l0_2.length ≤ c0_2) (h : graph_Graph_edges.f k a0_0 l0_1 l0_2 = some r) :
  Calls Try.prog 80 #[.agg #[.int .i64 a0_0, .slice A0_1 l0_1.length c0_1, .slice A0_2 l0_2.length c0_2]] w fun e w' => e = .returned (errW r) ∧ Below w.heap.size w w' := by
 have hu64 := Try.underlying64
 have hu95 := Try.underlying95
 have hu92 := Try.underlying92
 have HR0_1 := Aside0.mk hr0_1
 have HC0_1 := Aside0.mk hc0_1
 clear hr0_1 hc0_1
 have HR0_2 := Aside0.mk hr0_2
 have HC0_2 := Aside0.mk hc0_2
 clear hr0_2 hc0_2
 have HB := Aside0.mk (Below.refl w.heap.size w)
 have H : (graph_Graph_edges.l0 k l0_1 (l0_1.length : Int) 0 a0_0 l0_1 l0_2) = some r := h
 clear h
 have H' := Aside0.mk H
 clear H
 go_enter Try.func80, Try.ntmps80
 go_wp2_with (first | ((with_reducible refine gate_dst (N := 1) rfl ?_); refine box_event ?hg (N := 1) ?hd (cs := #[.int .i64 a0_0, .slice A0_1 l0_1.length c0_1, .slice A0_2 l0_2.length c0_2]) (t := 64) ?hr ?_; (case hd => rfl); (case hg => rfl); (case hr => first | (go_simp; done) | (go_simp; rfl)); intro gb701 hg w2 hbox hb; have n1_ := Aside0.mk (hbox); have n2_ := Aside0.mk ((by rw [hg]; exact (below_size (bn HB)) : w.heap.size ≤ gb701)); have n3_ := Aside0.mk ((by rw [hg]; exact (below_size (bn HB)) : w.heap.size ≤ gb701)); replace HB := bb HB hb; have BK701 := n1_; have GW701 := n2_; have GE701 := n3_; clear n1_ n2_ n3_; clear hb hbox hg; have hcz3_0 : w2.cell? ⟨gb701, 0, none⟩ = some (.int .i64 a0_0) := (blk_cell BK701.out 0).trans rfl; have hcz3_1 : w2.cell? ⟨gb701, 1, none⟩ = some (.slice A0_1 l0_1.length c0_1) := (blk_cell BK701.out 1).trans rfl; have hcz3_2 : w2.cell? ⟨gb701, 2, none⟩ = some (.slice A0_2 l0_2.length c0_2) := (blk_cell BK701.out 2).trans rfl; have hfz3_0 := blk_frozen BK701.out 0; have hfz3_1 := blk_frozen BK701.out 1; have hfz3_2 := blk_frozen BK701.out 2))
 go_loopg [8] k (fun kq v8 w' => ∃ (x8_1 : Int), v8 = .int .i64 x8_1 ∧ Aside0 (graph_Graph_edges.l0 kq l0_1 (l0_1.length : Int) x8_1 a0_0 l0_1 l0_2 = some r) ∧ Aside0 (kq ≤ k) ∧ Aside0 (w'.heap[gb701]? = some (.cells #[.int .i64 a0_0, (.slice A0_1 l0_1.length c0_1), (.slice A0_2 l0_2.length c0_2)] 64 (0, 0))) ∧ Aside0 (Below w.heap.size w w'))
 case atStart => exact ⟨(0), (by first | rfl | (simp; done) | (simp [*]; done)), H', ⟨Nat.le_refl _⟩, ⟨bk BK701⟩, ⟨bn1 HB GE701⟩⟩
 case round =>
  clear H'
  (try clear p2); (try clear hcz3_0); (try clear hcz3_1); (try clear hcz3_2); (try clear hfz3_0); (try clear hfz3_1); (try clear hfz3_2)
  obtain ⟨x8_1, rfl, HA, HK1, BK701, HB⟩ := hrel
  cases gk with
  | zero => exact absurd HA.out (by simp [graph_Graph_edges.l0])
  | succ k1 =>
   have H := HA.out
   clear HA
   simp only [graph_Graph_edges.l0] at H
   by_cases c4 : x8_1 < (l0_1.length : Int)
   ·rw [if_pos c4] at H
    have c4b0 : decide (x8_1 < (l0_1.length : Int)) = true := decide_eq_true c4
    clear c4
    by_cases c5 : 0 ≤ x8_1
    ·rw [if_pos c5] at H
     have c5b0 : decide (0 ≤ x8_1) = true := decide_eq_true c5
     clear c5
     by_cases c6 : x8_1 < (l0_1.length : Int)
     ·rw [if_pos c6] at H
      have c6b0 : decide (x8_1 < (l0_1.length : Int)) = true := decide_eq_true c6
      clear c6
      replace H := Option.bind_eq_some_iff.mp H
      obtain ⟨t704, A70, H⟩ := H
      replace H : (if t704 = true then ((graph_Graph_has.f a0_0 l0_1 l0_2 ((rd_T95 l0_1 x8_1).f1)).bind fun t705 => (if t705 = true then (graph_Graph_edges.l0 k1 l0_1 (l0_1.length : Int) (wrap64 (x8_1 + 1)) a0_0 l0_1 l0_2) else (none))) else (none)) = some r := H
      have A7 := Aside0.mk A70
      clear A70
      by_cases c8 : t704 = true
      ·subst c8
       have H1 : ((graph_Graph_has.f a0_0 l0_1 l0_2 ((rd_T95 l0_1 x8_1).f1)).bind fun t705 => (if t705 = true then (graph_Graph_edges.l0 k1 l0_1 (l0_1.length : Int) (wrap64 (x8_1 + 1)) a0_0 l0_1 l0_2) else (none))) = some r := by rw [if_pos rfl] at H; exact H
       clear H
       have H := H1
       clear H1
       replace H := Option.bind_eq_some_iff.mp H
       obtain ⟨t705, A90, H⟩ := H
       replace H : (if t705 = true then (graph_Graph_edges.l0 k1 l0_1 (l0_1.length : Int) (wrap64 (x8_1 + 1)) a0_0 l0_1 l0_2) else (none)) = some r := H
       have A9 := Aside0.mk A90
       clear A90
       by_cases c10 : t705 = true
       ·subst c10
        have H1 : (graph_Graph_edges.l0 k1 l0_1 (l0_1.length : Int) (wrap64 (x8_1 + 1)) a0_0 l0_1 l0_2) = some r := by rw [if_pos rfl] at H; exact H
        clear H
        have H := H1
        clear H1
        have H' := Aside0.mk H
        clear H
        have p702 : 0 ≤ (x8_1 : Int) := of_decide_eq_true (by assumption)
        have q702 : x8_1 < (l0_1.length : Int) := of_decide_eq_true (by assumption)
        obtain ⟨ad702, e702, hx702_0, hx702_1, hx702_2⟩ := at_T95 HR0_1.out x8_1 p702 q702
        cases e702
        replace hx702_0 := ct HB hx702_0
        replace hx702_1 := ct HB hx702_1
        replace hx702_2 := ct HB hx702_2
        replace p702 := eq_true p702
        replace q702 := eq_true q702
        go_wp2_with (first | ((with_reducible refine gate_dst (N := 4) rfl ?_); refine box_event ?hg (N := 4) ?hd (cs := #[.int .i64 0, .int .i64 0, .int .u64 0]) (t := 95) ?hr ?_; (case hd => rfl); (case hg => rfl); (case hr => first | (go_simp; done) | (go_simp; rfl)); intro gb703 hg w11 hbox hb; have n0_ := Aside0.mk (bkb BK701 hb); have n1_ := Aside0.mk (below_step (bn1 HB GE701) hb); have n2_ := Aside0.mk (hbox); have n3_ := Aside0.mk ((by rw [hg]; exact (below_size (bn1 HB GE701)) : w.heap.size ≤ gb703)); have n4_ := Aside0.mk ((by rw [hg]; exact (below_size (bn1 HB GE701)) : w.heap.size ≤ gb703)); have n5_ := Aside0.mk ((by rw [hg]; exact Nat.ne_of_lt (bkl BK701) : gb701 ≠ gb703)); have n6_ := Aside0.mk ((by rw [hg]; exact Nat.ne_of_gt (bkl BK701) : gb703 ≠ gb701)); clear BK701; clear HB; have BK701 := n0_; have HB := n1_; have BK703 := n2_; have GW703 := n3_; have GE703 := n4_; have NB701_703 := n5_; have NB703_701 := n6_; clear n0_ n1_ n2_ n3_ n4_ n5_ n6_; clear hb hbox hg; have hnb12 := NB703_701.out; have hnc12 := NB701_703.out; have hcz13_0 : w11.cell? ⟨gb703, 0, none⟩ = some (.int .i64 0) := (blk_cell BK703.out 0).trans rfl; have hcz13_1 : w11.cell? ⟨gb703, 1, none⟩ = some (.int .i64 0) := (blk_cell BK703.out 1).trans rfl; have hcz13_2 : w11.cell? ⟨gb703, 2, none⟩ = some (.int .u64 0) := (blk_cell BK703.out 2).trans rfl; have hfz13_0 := blk_frozen BK703.out 0; have hfz13_1 := blk_frozen BK703.out 1; have hfz13_2 := blk_frozen BK703.out 2; have hcz14_0 : w11.cell? ⟨gb701, 0, none⟩ = some (.int .i64 a0_0) := (blk_cell BK701.out 0).trans rfl; have hcz14_1 : w11.cell? ⟨gb701, 1, none⟩ = some (.slice (some ad702) l0_1.length c0_1) := (blk_cell BK701.out 1).trans rfl; have hcz14_2 : w11.cell? ⟨gb701, 2, none⟩ = some (.slice A0_2 l0_2.length c0_2) := (blk_cell BK701.out 2).trans rfl; have hfz14_0 := blk_frozen BK701.out 0; have hfz14_1 := blk_frozen BK701.out 1; have hfz14_2 := blk_frozen BK701.out 2) | ((with_reducible refine gate_callee (f := 91) rfl ?_); refine gl (some 17) Try.func91 #[.agg #[.int .i64 a0_0, .slice (some ad702) l0_1.length c0_1, .slice A0_2 l0_2.length c0_2], .int .i64 ((rd_T95 l0_1 x8_1).f0)] ?_; (with_reducible refine (graph_Graph_has.calls a0_0 _ _ l0_1 _ _ l0_2 ((rd_T95 l0_1 x8_1).f0) true _ ?side1 ?side2 ?side3 ?side4 A7.out).mono ?_); (case side1 => exact Kd.C_below HR0_1.out (bn2 HB GE701 GE703)); (case side2 => exact HC0_1.out); (case side3 => exact Kd.C_below HR0_2.out (bn2 HB GE701 GE703)); (case side4 => exact HC0_2.out); rintro e w15 ⟨rfl, hb⟩; refine ⟨_, rfl, ?_⟩; have n0_ := Aside0.mk (blk_below (g := gb701) (o := .cells #[.int .i64 a0_0, .slice (some ad702) l0_1.length c0_1, .slice A0_2 l0_2.length c0_2] 64 (0, 0)) (by (with_reducible repeat (first | refine blk_drewN ?_ _ | refine blk_drew ?_ | refine blk_alloc ?_ _)); refine blk_far ?_ NB701_703.out _; (with_reducible repeat (first | refine blk_drewN ?_ _ | refine blk_drew ?_ | refine blk_alloc ?_ _)); refine blk_far ?_ NB701_703.out _; (with_reducible repeat (first | refine blk_drewN ?_ _ | refine blk_drew ?_ | refine blk_alloc ?_ _)); refine blk_far ?_ NB701_703.out _; (with_reducible repeat (first | refine blk_drewN ?_ _ | refine blk_drew ?_ | refine blk_alloc ?_ _)); exact BK701.out) hb); have n1_ := Aside0.mk (blk_below (g := gb703) (o := .cells #[.int .i64 ((rd_T95 l0_1 x8_1).f0), .int .i64 ((rd_T95 l0_1 x8_1).f1), .int .u64 ((rd_T95 l0_1 x8_1).f2)] 95 (0, 0)) (by (with_reducible repeat (first | refine blk_drewN ?_ _ | refine blk_drew ?_ | refine blk_alloc ?_ _)); refine blk_put (cs := #[.int .i64 ((rd_T95 l0_1 x8_1).f0), .int .i64 ((rd_T95 l0_1 x8_1).f1), .int .u64 0]) ?_ 2 _ rfl; (with_reducible repeat (first | refine blk_drewN ?_ _ | refine blk_drew ?_ | refine blk_alloc ?_ _)); refine blk_put (cs := #[.int .i64 ((rd_T95 l0_1 x8_1).f0), .int .i64 0, .int .u64 0]) ?_ 1 _ rfl; (with_reducible repeat (first | refine blk_drewN ?_ _ | refine blk_drew ?_ | refine blk_alloc ?_ _)); refine blk_put (cs := #[.int .i64 0, .int .i64 0, .int .u64 0]) ?_ 0 _ rfl; (with_reducible repeat (first | refine blk_drewN ?_ _ | refine blk_drew ?_ | refine blk_alloc ?_ _)); exact BK703.out) hb); have n2_ := Aside0.mk (below_step (bn2 HB GE701 GE703) hb); clear BK701; clear BK703; clear HB; have BK701 := n0_; have BK703 := n1_; have HB := n2_; clear n0_ n1_ n2_; (try clear hb); have hcz16_0 : w15.cell? ⟨gb701, 0, none⟩ = some (.int .i64 a0_0) := (blk_cell BK701.out 0).trans rfl; have hcz16_1 : w15.cell? ⟨gb701, 1, none⟩ = some (.slice (some ad702) l0_1.length c0_1) := (blk_cell BK701.out 1).trans rfl; have hcz16_2 : w15.cell? ⟨gb701, 2, none⟩ = some (.slice A0_2 l0_2.length c0_2) := (blk_cell BK701.out 2).trans rfl; have hfz16_0 := blk_frozen BK701.out 0; have hfz16_1 := blk_frozen BK701.out 1; have hfz16_2 := blk_frozen BK701.out 2; have hcz17_0 : w15.cell? ⟨gb703, 0, none⟩ = some (.int .i64 ((rd_T95 l0_1 x8_1).f0)) := (blk_cell BK703.out 0).trans rfl; have hcz17_1 : w15.cell? ⟨gb703, 1, none⟩ = some (.int .i64 ((rd_T95 l0_1 x8_1).f1)) := (blk_cell BK703.out 1).trans rfl; have hcz17_2 : w15.cell? ⟨gb703, 2, none⟩ = some (.int .u64 ((rd_T95 l0_1 x8_1).f2)) := (blk_cell BK703.out 2).trans rfl; have hfz17_0 := blk_frozen BK703.out 0; have hfz17_1 := blk_frozen BK703.out 1; have hfz17_2 := blk_frozen BK703.out 2) | ((with_reducible refine gate_callee (f := 91) rfl ?_); refine gl (some 29) Try.func91 #[.agg #[.int .i64 a0_0, .slice (some ad702) l0_1.length c0_1, .slice A0_2 l0_2.length c0_2], .int .i64 ((rd_T95 l0_1 x8_1).f1)] ?_; (with_reducible refine (graph_Graph_has.calls a0_0 _ _ l0_1 _ _ l0_2 ((rd_T95 l0_1 x8_1).f1) true _ ?side1 ?side2 ?side3 ?side4 A9.out).mono ?_); (case side1 => repeat (first | exact (Kd.C_below HR0_1.out HB.out) | (with_reducible refine Kd.C_alloc ?_ _) | (with_reducible refine Kd.C_drewN ?_ _) | (with_reducible refine Kd.C_drew ?_))); (case side2 => exact HC0_1.out); (case side3 => repeat (first | exact (Kd.C_below HR0_2.out HB.out) | (with_reducible refine Kd.C_alloc ?_ _) | (with_reducible refine Kd.C_drewN ?_ _) | (with_reducible refine Kd.C_drew ?_))); (case side4 => exact HC0_2.out); rintro e w18 ⟨rfl, hb⟩; refine ⟨_, rfl, ?_⟩; have n0_ := Aside0.mk (bkb BK701 hb); have n1_ := Aside0.mk (bkb BK703 hb); have n2_ := Aside0.mk (below_step (bn2 HB GE701 GE703) hb); clear BK701; clear BK703; clear HB; have BK701 := n0_; have BK703 := n1_; have HB := n2_; clear n0_ n1_ n2_; (try clear hb)))
        go_roundg k1
        case measure => have := HK1.out; omega
        case rel => exact ⟨(wrap64 (x8_1 + 1)), (by first | rfl | (simp; done) | (simp [*]; done)), H', ⟨by have := HK1.out; omega⟩, ⟨bk BK701⟩, ⟨bn2 HB GE701 GE703⟩⟩
       ·replace c10 := Bool.eq_false_iff.mpr c10
        subst c10
        have H1 : (none) = some r := by rw [if_neg (show ¬ (false = true) by decide)] at H; exact H
        clear H
        have H := H1
        clear H1
        exact absurd H (by simp)
      ·replace c8 := Bool.eq_false_iff.mpr c8
       subst c8
       have H1 : (none) = some r := by rw [if_neg (show ¬ (false = true) by decide)] at H; exact H
       clear H
       have H := H1
       clear H1
       exact absurd H (by simp)
     ·rw [if_neg c6] at H
      exact absurd H (by simp)
    ·rw [if_neg c5] at H
     exact absurd H (by simp)
   ·rw [if_neg c4] at H
    have c4b0 : decide (x8_1 < (l0_1.length : Int)) = false := decide_eq_false c4
    clear c4
    obtain rfl := Option.some.inj H
    go_wp2
    go_ret
    exact ⟨by first | rfl | (simp [errW_none, errW_some] <;> rfl) | (simp [*, errW_none, errW_some] <;> rfl), bn1 HB GE701⟩
end Go.Proofs.Ytgeldmhgbnamcaa.P
end
section
-- Printed by the session's own turn of the print (wip/tools/print2.sh): some callees are proved by hand.
namespace Go.Proofs.Ytgeldmhgbnamcaa.P
open Go.RowKit Go.Proofs.YtgeldmhgbnamcaaW.PrintWords Go.Proofs.YtgeldmhgbnamcaaW.PrintLast Go.Proofs.YtgeldmhgbnamcaaW.PrintMore
attribute [local go_sem] max2_int min2_int max_two min_two max_three min_three max_four min_four   -- for this text's walks alone
set_option linter.unusedVariables false
set_option linter.unusedSimpArgs false
/-! ### slices_Index_int_int: function 97 -/
def slices_Index_int_int.l0 : Nat → List Int → Int → Int → Int → Option (Int)
 | 0, _, _, _, _ => none
 | k + 1, x0, x1, x7, x8 => if x8 < x7 then (if 0 ≤ x8 then (if x8 < (x0.length : Int) then (if x1 = (rd x0 x8) then (some x8) else (slices_Index_int_int.l0 k x0 x1 x7 (wrap64 (x8 + 1)))) else (none)) else (none)) else (some (-1))
def slices_Index_int_int.f (k : Nat) (l0 : List Int) (a1 : Int) : Option (Int) := slices_Index_int_int.l0 k l0 a1 (l0.length : Int) 0
set_option maxHeartbeats 8000000 in
set_option maxRecDepth 100000 in
theorem slices_Index_int_int.calls (k : Nat) (A0 : Option Addr) (c0 : Nat) (l0 : List Int) (a1 : Int) (r : Int) (w : World) (hr0 : Kd.C (Kd.int .i64) w A0 l0.length l0) (hc0 : l0.length ≤ c0) (h : slices_Index_int_int.f k l0 a1 = some r) :
  Calls Try.prog 97 #[.slice A0 l0.length c0, .int .i64 a1] w fun e w' => e = .returned (.int .i64 r) ∧ Drawn0 w w' := by
 have HR0 := Aside0.mk hr0
 have HC0 := Aside0.mk hc0
 clear hr0 hc0
 have H : (slices_Index_int_int.l0 k l0 a1 (l0.length : Int) 0) = some r := h
 clear h
 have H' := Aside0.mk H
 clear H
 go_enter Try.func97, Try.ntmps97
 go_wp2
 go_loopg [8] k (fun kq v8 w' => ∃ (x8_1 : Int), v8 = .int .i64 x8_1 ∧ Aside0 (slices_Index_int_int.l0 kq l0 a1 (l0.length : Int) x8_1 = some r) ∧ Aside0 (kq ≤ k) ∧ Drawn0 w w')
 case atStart => exact ⟨(0), (by first | rfl | (simp; done) | (simp [*]; done)), H', ⟨Nat.le_refl _⟩, by repeat (first | exact Drawn0.refl _ | apply Drawn0.step)⟩
 case round =>
  clear H'
  (try clear p2)
  obtain ⟨x8_1, rfl, HA, HK1, ⟨m1, rfl⟩⟩ := hrel
  cases gk with
  | zero => exact absurd HA.out (by simp [slices_Index_int_int.l0])
  | succ k1 =>
   have H := HA.out
   clear HA
   simp only [slices_Index_int_int.l0] at H
   by_cases c3 : x8_1 < (l0.length : Int)
   ·rw [if_pos c3] at H
    have c3b0 : decide (x8_1 < (l0.length : Int)) = true := decide_eq_true c3
    clear c3
    by_cases c4 : 0 ≤ x8_1
    ·rw [if_pos c4] at H
     have c4b0 : decide (0 ≤ x8_1) = true := decide_eq_true c4
     clear c4
     by_cases c5 : x8_1 < (l0.length : Int)
     ·rw [if_pos c5] at H
      have c5b0 : decide (x8_1 < (l0.length : Int)) = true := decide_eq_true c5
      clear c5
      by_cases c6 : a1 = (rd l0 x8_1)
      ·rw [if_pos c6] at H
       have c6b0 : (a1 == (rd l0 x8_1)) = true := beq_iff_eq.mpr c6
       have c6b1 : (a1 != (rd l0 x8_1)) = false := bne_eq_false_iff_eq.mpr c6
       clear c6
       obtain rfl := Option.some.inj H
       have p706 : 0 ≤ (x8_1 : Int) := of_decide_eq_true (by assumption)
       have q706 : x8_1 < (l0.length : Int) := of_decide_eq_true (by assumption)
       obtain ⟨ad706, e706, hx706_0⟩ := Kd.at_int HR0.out x8_1 p706 q706
       cases e706
       replace p706 := eq_true p706
       replace q706 := eq_true q706
       go_wp2
       go_ret
       exact ⟨by first | rfl | (simp; done) | (simp [*]; done), by repeat (first | exact Drawn0.refl _ | apply Drawn0.step)⟩
      ·rw [if_neg c6] at H
       have c6b0 : (a1 == (rd l0 x8_1)) = false := beq_eq_false_iff_ne.mpr c6
       have c6b1 : (a1 != (rd l0 x8_1)) = true := bne_iff_ne.mpr c6
       have H' := Aside0.mk H
       clear H
       have p706 : 0 ≤ (x8_1 : Int) := of_decide_eq_true (by assumption)
       have q706 : x8_1 < (l0.length : Int) := of_decide_eq_true (by assumption)
       obtain ⟨ad706, e706, hx706_0⟩ := Kd.at_int HR0.out x8_1 p706 q706
       cases e706
       replace p706 := eq_true p706
       replace q706 := eq_true q706
       go_wp2
       go_roundg k1
       case measure => have := HK1.out; omega
       case rel => exact ⟨(wrap64 (x8_1 + 1)), (by first | rfl | (simp; done) | (simp [*]; done)), H', ⟨by have := HK1.out; omega⟩, by repeat (first | exact Drawn0.refl _ | apply Drawn0.step)⟩
     ·rw [if_neg c5] at H
      exact absurd H (by simp)
    ·rw [if_neg c4] at H
     exact absurd H (by simp)
   ·rw [if_neg c3] at H
    have c3b0 : decide (x8_1 < (l0.length : Int)) = false := decide_eq_false c3
    clear c3
    obtain rfl := Option.some.inj H
    go_wp2
    go_ret
    exact ⟨by first | rfl | (simp; done) | (simp [*]; done), by repeat (first | exact Drawn0.refl _ | apply Drawn0.step)⟩
end Go.Proofs.Ytgeldmhgbnamcaa.P
end
section
-- Printed by the session's own turn of the print (wip/tools/print2.sh): some callees are proved by hand.
namespace Go.Proofs.Ytgeldmhgbnamcaa.P
open Go.RowKit Go.Proofs.YtgeldmhgbnamcaaW.PrintWords Go.Proofs.YtgeldmhgbnamcaaW.PrintLast Go.Proofs.YtgeldmhgbnamcaaW.PrintMore
attribute [local go_sem] max2_int min2_int max_two min_two max_three min_three max_four min_four   -- for this text's walks alone
set_option linter.unusedVariables false
set_option linter.unusedSimpArgs false
/-! ### slices_Contains_int_int: function 92 -/
def slices_Contains_int_int.f (k : Nat) (l0 : List Int) (a1 : Int) : Option (Bool) := (slices_Index_int_int.f k l0 a1).bind fun t707 => (some (decide (t707 ≥ 0)))
set_option maxHeartbeats 8000000 in
set_option maxRecDepth 100000 in
theorem slices_Contains_int_int.calls (k : Nat) (A0 : Option Addr) (c0 : Nat) (l0 : List Int) (a1 : Int) (r : Bool) (w : World) (hr0 : Kd.C (Kd.int .i64) w A0 l0.length l0) (hc0 : l0.length ≤ c0) (h : slices_Contains_int_int.f k l0 a1 = some r) :
  Calls Try.prog 92 #[.slice A0 l0.length c0, .int .i64 a1] w fun e w' => e = .returned (.bool r) ∧ Drawn0 w w' := by
 have HR0 := Aside0.mk hr0
 have HC0 := Aside0.mk hc0
 clear hr0 hc0
 have H : ((slices_Index_int_int.f k l0 a1).bind fun t707 => (some (decide (t707 ≥ 0)))) = some r := h
 clear h
 replace H := Option.bind_eq_some_iff.mp H
 obtain ⟨t707, A30, H⟩ := H
 replace H : (some (decide (t707 ≥ 0))) = some r := H
 have A3 := Aside0.mk A30
 clear A30
 obtain rfl := Option.some.inj H
 go_enter Try.func92, Try.ntmps92
 go_wp2_with (first | ((with_reducible refine gate_callee (f := 97) rfl ?_); refine gl (some 7) Try.func97 #[.slice A0 l0.length c0, .int .i64 a1] ?_; (with_reducible refine (slices_Index_int_int.calls k _ _ l0 a1 t707 _ ?side1 ?side2 A3.out).mono ?_); (case side1 => exact cn HR0.out); (case side2 => exact HC0.out); rintro e w' ⟨rfl, ⟨nd, rfl⟩⟩; refine ⟨_, rfl, ?_⟩))
 go_ret
 exact ⟨by first | rfl | (simp; done) | (simp [*]; done), by repeat (first | exact Drawn0.refl _ | apply Drawn0.step)⟩
end Go.Proofs.Ytgeldmhgbnamcaa.P
end
section
-- Printed by the session's own turn of the print (wip/tools/print2.sh): some callees are proved by hand.
namespace Go.Proofs.Ytgeldmhgbnamcaa.P
open Go.RowKit Go.Proofs.YtgeldmhgbnamcaaW.PrintWords Go.Proofs.YtgeldmhgbnamcaaW.PrintLast Go.Proofs.YtgeldmhgbnamcaaW.PrintMore
attribute [local go_sem] max2_int min2_int max_two min_two max_three min_three max_four min_four   -- for this text's walks alone
set_option linter.unusedVariables false
set_option linter.unusedSimpArgs false
/-! ### graph_Graph_inputs: function 81 -/
mutual
def graph_Graph_inputs.j0 : Nat → Bool → Int → List (S95) → List Int → Option (Option Int)
 | 0, _, _, _, _ => none
 | k + 1, x14, x709000, x709001, x709002 => if x14 = true then (some (some 4)) else (graph_Graph_inputs.l0 k x709002 (x709002.length : Int) 0 x709000 x709001 x709002)
def graph_Graph_inputs.l0 : Nat → List Int → Int → Int → Int → List (S95) → List Int → Option (Option Int)
 | 0, _, _, _, _, _, _ => none
 | k + 1, x17, x18, x19, x709000, x709001, x709002 => if x19 < x18 then (if 0 ≤ x19 then (if x19 < (x17.length : Int) then ((graph_Graph_has.f x709000 x709001 x709002 (rd x17 x19)).bind fun t710 => (if t710 = true then (if x19 ≤ (x709002.length : Int) then ((slices_Contains_int_int.f k (x709002.take (x19 : Int).toNat) (rd x17 x19)).bind fun t712 => (if t712 = true then (none) else (graph_Graph_inputs.l0 k x17 x18 (wrap64 (x19 + 1)) x709000 x709001 x709002))) else (none)) else (none))) else (none)) else (none)) else (some none)
end
def graph_Graph_inputs.f (k : Nat) (a0_0 : Int) (l0_1 : List (S95)) (l0_2 : List Int) : Option (Option Int) := if (l0_2.length : Int) > 8 then (graph_Graph_inputs.j0 k true a0_0 l0_1 l0_2) else (graph_Graph_inputs.j0 k ((l0_2.length : Int) == 0) a0_0 l0_1 l0_2)
set_option maxHeartbeats 8000000 in
set_option maxRecDepth 100000 in
theorem graph_Graph_inputs.calls (k : Nat) (a0_0 : Int) (A0_1 : Option Addr) (c0_1 : Nat) (l0_1 : List (S95)) (A0_2 : Option Addr) (c0_2 : Nat) (l0_2 : List Int) (r : Option Int) (w : World) (hr0_1 : Kd.C k95 w A0_1 l0_1.length l0_1) (hc0_1 : l0_1.length ≤ c0_1) (hr0_2 : Kd.C (Kd.int .i64) w A0_2 l0_2.length l0_2) (hc0_2 : l0_2.length ≤ c0_2) (h : graph_Graph_inputs.f k a0_0 l0_1 l0_2 = some r) :
  Calls Try.prog 81 #[.agg #[.int .i64 a0_0, .slice A0_1 l0_1.length c0_1, .slice A0_2 l0_2.length c0_2]] w fun e w' => e = .returned (errW r) ∧ Below w.heap.size w w' := by
 have hu64 := Try.underlying64
 have hu92 := Try.underlying92
 have hu26 := Try.underlying26
 have HR0_1 := Aside0.mk hr0_1
 have HC0_1 := Aside0.mk hc0_1
 clear hr0_1 hc0_1
 have HR0_2 := Aside0.mk hr0_2
 have HC0_2 := Aside0.mk hc0_2
 clear hr0_2 hc0_2
 have HB := Aside0.mk (Below.refl w.heap.size w)
 have H : (if (l0_2.length : Int) > 8 then (graph_Graph_inputs.j0 k true a0_0 l0_1 l0_2) else (graph_Graph_inputs.j0 k ((l0_2.length : Int) == 0) a0_0 l0_1 l0_2)) = some r := h
 clear h
 have HC2 := Aside0.mk H
 clear H
 go_enter Try.func81, Try.ntmps81
 go_upto_region 1 with (first | ((with_reducible refine gate_dst (N := 1) rfl ?_); (try (refine gate_guard (by rfl) ?_; dsimp only)); refine box_event ?hg (N := 1) ?hd (cs := #[.int .i64 a0_0, .slice A0_1 l0_1.length c0_1, .slice A0_2 l0_2.length c0_2]) (t := 64) ?hr ?_; (case hd => rfl); (case hg => rfl); (case hr => first | (go_simp; done) | (go_simp; rfl)); intro gb708 hg w3 hbox hb; have n1_ := Aside0.mk (hbox); have n2_ := Aside0.mk ((by rw [hg]; exact (below_size (bn HB)) : w.heap.size ≤ gb708)); have n3_ := Aside0.mk ((by rw [hg]; exact (below_size (bn HB)) : w.heap.size ≤ gb708)); replace HB := bb HB hb; have BK708 := n1_; have GW708 := n2_; have GE708 := n3_; clear n1_ n2_ n3_; clear hb hbox hg))
 (try simp only [Act.put, List.setIfInBounds_toArray, List.set_cons_zero, List.set_cons_succ])
 go_cut [14] (fun v14 wc => ∃ (kq : Nat) (x14_1 : Bool), v14 = .bool x14_1 ∧ Aside0 (graph_Graph_inputs.j0 kq x14_1 a0_0 l0_1 l0_2 = some r) ∧ Aside0 (kq ≤ k) ∧ Aside0 (wc.heap[gb708]? = some (.cells #[.int .i64 a0_0, (.slice A0_1 l0_1.length c0_1), (.slice A0_2 l0_2.length c0_2)] 64 (0, 0))) ∧ Aside0 (Below w.heap.size w wc))
 case first =>
  have H := HC2.out
  clear HC2
  by_cases c4 : (l0_2.length : Int) > 8
  ·rw [if_pos c4] at H
   have c4b0 : decide (8 < (l0_2.length : Int)) = true := decide_eq_true c4
   have c4b1 : decide (8 < l0_2.length) = true := decide_eq_true (by omega)
   clear c4
   (first | rw [c4b0] | (simp only [i64_w, i32_w]; rw [c4b0]) | skip)
   have H' := Aside0.mk H
   clear H
   have hcz5_0 : w3.cell? ⟨gb708, 0, none⟩ = some (.int .i64 a0_0) := (blk_cell BK708.out 0).trans rfl
   have hcz5_1 : w3.cell? ⟨gb708, 1, none⟩ = some (.slice A0_1 l0_1.length c0_1) := (blk_cell BK708.out 1).trans rfl
   have hcz5_2 : w3.cell? ⟨gb708, 2, none⟩ = some (.slice A0_2 l0_2.length c0_2) := (blk_cell BK708.out 2).trans rfl
   have hfz5_0 := blk_frozen BK708.out 0
   have hfz5_1 := blk_frozen BK708.out 1
   have hfz5_2 := blk_frozen BK708.out 2
   go_wp2
   go_meet
   case rel => exact ⟨_, (true), (by first | rfl | (simp; done) | (simp [*]; done)), H', ⟨by first | omega | exact Nat.le_refl _⟩, ⟨bk BK708⟩, ⟨bn1 HB GE708⟩⟩
  ·rw [if_neg c4] at H
   have c4b0 : decide (8 < (l0_2.length : Int)) = false := decide_eq_false c4
   have c4b1 : decide (8 < l0_2.length) = false := decide_eq_false (by omega)
   clear c4
   (first | rw [c4b0] | (simp only [i64_w, i32_w]; rw [c4b0]) | skip)
   have H' := Aside0.mk H
   clear H
   have hcz6_0 : w3.cell? ⟨gb708, 0, none⟩ = some (.int .i64 a0_0) := (blk_cell BK708.out 0).trans rfl
   have hcz6_1 : w3.cell? ⟨gb708, 1, none⟩ = some (.slice A0_1 l0_1.length c0_1) := (blk_cell BK708.out 1).trans rfl
   have hcz6_2 : w3.cell? ⟨gb708, 2, none⟩ = some (.slice A0_2 l0_2.length c0_2) := (blk_cell BK708.out 2).trans rfl
   have hfz6_0 := blk_frozen BK708.out 0
   have hfz6_1 := blk_frozen BK708.out 1
   have hfz6_2 := blk_frozen BK708.out 2
   go_wp2
   go_meet
   case rel => exact ⟨_, (((l0_2.length : Int) == 0)), (by first | rfl | (simp; done) | (simp [*]; done)), H', ⟨by first | omega | exact Nat.le_refl _⟩, ⟨bk BK708⟩, ⟨bn1 HB GE708⟩⟩
 case rest =>
  clear HC2
  (try clear p2); (try clear c4); (try clear c4b0); (try clear c4b1); (try clear hcz5_0); (try clear hcz5_1); (try clear hcz5_2); (try clear hcz6_0); (try clear hcz6_1); (try clear hcz6_2); (try clear hfz5_0); (try clear hfz5_1); (try clear hfz5_2); (try clear hfz6_0); (try clear hfz6_1); (try clear hfz6_2)
  obtain ⟨kq, x14_1, rfl, HA, HJ1, BK708, HB⟩ := hcut
  cases kq with
  | zero => exact absurd HA.out (by simp [graph_Graph_inputs.j0])
  | succ kj1 =>
   have H := HA.out
   clear HA
   simp only [graph_Graph_inputs.j0] at H
   by_cases c7 : x14_1 = true
   ·subst c7
    have H1 : (some (some 4)) = some r := by rw [if_pos rfl] at H; exact H
    clear H
    have H := H1
    clear H1
    obtain rfl := Option.some.inj H
    go_wp2
    go_ret
    exact ⟨by first | rfl | (simp [errW_none, errW_some] <;> rfl) | (simp [*, errW_none, errW_some] <;> rfl), bn1 HB GE708⟩
   ·replace c7 := Bool.eq_false_iff.mpr c7
    subst c7
    have H1 : (graph_Graph_inputs.l0 kj1 l0_2 (l0_2.length : Int) 0 a0_0 l0_1 l0_2) = some r := by rw [if_neg (show ¬ (false = true) by decide)] at H; exact H
    clear H
    have H := H1
    clear H1
    have H' := Aside0.mk H
    clear H
    have hcz8_0 : wc.cell? ⟨gb708, 0, none⟩ = some (.int .i64 a0_0) := (blk_cell BK708.out 0).trans rfl
    have hcz8_1 : wc.cell? ⟨gb708, 1, none⟩ = some (.slice A0_1 l0_1.length c0_1) := (blk_cell BK708.out 1).trans rfl
    have hcz8_2 : wc.cell? ⟨gb708, 2, none⟩ = some (.slice A0_2 l0_2.length c0_2) := (blk_cell BK708.out 2).trans rfl
    have hfz8_0 := blk_frozen BK708.out 0
    have hfz8_1 := blk_frozen BK708.out 1
    have hfz8_2 := blk_frozen BK708.out 2
    go_wp2
    go_loopg [19] kj1 (fun kq v19 w' => ∃ (x19_2 : Int), v19 = .int .i64 x19_2 ∧ Aside0 (graph_Graph_inputs.l0 kq l0_2 (l0_2.length : Int) x19_2 a0_0 l0_1 l0_2 = some r) ∧ Aside0 (kq ≤ kj1) ∧ Aside0 (w'.heap[gb708]? = some (.cells #[.int .i64 a0_0, (.slice A0_1 l0_1.length c0_1), (.slice A0_2 l0_2.length c0_2)] 64 (0, 0))) ∧ Aside0 (Below w.heap.size w w'))
    case atStart => exact ⟨(0), (by first | rfl | (simp; done) | (simp [*]; done)), H', ⟨Nat.le_refl _⟩, ⟨bk BK708⟩, ⟨bn1 HB GE708⟩⟩
    case round =>
     clear H'
     (try clear p2); (try clear c4); (try clear c4b0); (try clear c4b1); (try clear c7); (try clear c8); (try clear hcz5_0); (try clear hcz5_1); (try clear hcz5_2); (try clear hcz6_0); (try clear hcz6_1); (try clear hcz6_2); (try clear hcz8_0); (try clear hcz8_1); (try clear hcz8_2); (try clear hfz5_0)
     (try clear hfz5_1); (try clear hfz5_2); (try clear hfz6_0); (try clear hfz6_1); (try clear hfz6_2); (try clear hfz8_0); (try clear hfz8_1); (try clear hfz8_2); (try clear p2)
     obtain ⟨x19_2, rfl, HA, HK2, BK708, HB⟩ := hrel
     cases gk with
     | zero => exact absurd HA.out (by simp [graph_Graph_inputs.l0])
     | succ k2 =>
      have H := HA.out
      clear HA
      simp only [graph_Graph_inputs.l0] at H
      by_cases c9 : x19_2 < (l0_2.length : Int)
      ·rw [if_pos c9] at H
       have c9b0 : decide (x19_2 < (l0_2.length : Int)) = true := decide_eq_true c9
       clear c9
       by_cases c10 : 0 ≤ x19_2
       ·rw [if_pos c10] at H
        have c10b0 : decide (0 ≤ x19_2) = true := decide_eq_true c10
        clear c10
        by_cases c11 : x19_2 < (l0_2.length : Int)
        ·rw [if_pos c11] at H
         have c11b0 : decide (x19_2 < (l0_2.length : Int)) = true := decide_eq_true c11
         clear c11
         replace H := Option.bind_eq_some_iff.mp H
         obtain ⟨t710, A120, H⟩ := H
         replace H : (if t710 = true then (if x19_2 ≤ (l0_2.length : Int) then ((slices_Contains_int_int.f k2 (l0_2.take (x19_2 : Int).toNat) (rd l0_2 x19_2)).bind fun t712 => (if t712 = true then (none) else (graph_Graph_inputs.l0 k2 l0_2 (l0_2.length : Int) (wrap64 (x19_2 + 1)) a0_0 l0_1 l0_2))) else (none)) else (none)) = some r := H
         have A12 := Aside0.mk A120
         clear A120
         by_cases c13 : t710 = true
         ·subst c13
          have H1 : (if x19_2 ≤ (l0_2.length : Int) then ((slices_Contains_int_int.f k2 (l0_2.take (x19_2 : Int).toNat) (rd l0_2 x19_2)).bind fun t712 => (if t712 = true then (none) else (graph_Graph_inputs.l0 k2 l0_2 (l0_2.length : Int) (wrap64 (x19_2 + 1)) a0_0 l0_1 l0_2))) else (none)) = some r := by rw [if_pos rfl] at H; exact H
          clear H
          have H := H1
          clear H1
          have c14b0 := eq_true (of_decide_eq_true (by assumption) : 0 ≤ x19_2)
          by_cases c15 : x19_2 ≤ (l0_2.length : Int)
          ·rw [if_pos c15] at H
           have c15b0 := eq_true c15
           have c15b1 : decide (x19_2 ≤ (l0_2.length : Int)) = true := decide_eq_true c15
           clear c15
           replace H := Option.bind_eq_some_iff.mp H
           obtain ⟨t712, A160, H⟩ := H
           replace H : (if t712 = true then (none) else (graph_Graph_inputs.l0 k2 l0_2 (l0_2.length : Int) (wrap64 (x19_2 + 1)) a0_0 l0_1 l0_2)) = some r := H
           have A16 := Aside0.mk A160
           clear A160
           by_cases c17 : t712 = true
           ·subst c17
            have H1 : (none) = some r := by rw [if_pos rfl] at H; exact H
            clear H
            have H := H1
            clear H1
            exact absurd H (by simp)
           ·replace c17 := Bool.eq_false_iff.mpr c17
            subst c17
            have H1 : (graph_Graph_inputs.l0 k2 l0_2 (l0_2.length : Int) (wrap64 (x19_2 + 1)) a0_0 l0_1 l0_2) = some r := by rw [if_neg (show ¬ (false = true) by decide)] at H; exact H
            clear H
            have H := H1
            clear H1
            have H' := Aside0.mk H
            clear H
            have p709 : 0 ≤ (x19_2 : Int) := of_decide_eq_true (by assumption)
            have q709 : x19_2 < (l0_2.length : Int) := of_decide_eq_true (by assumption)
            obtain ⟨ad709, e709, hx709_0⟩ := Kd.at_int HR0_2.out x19_2 p709 q709
            cases e709
            replace hx709_0 := ct HB hx709_0
            replace p709 := eq_true p709
            replace q709 := eq_true q709
            have hcz18_0 : wr.cell? ⟨gb708, 0, none⟩ = some (.int .i64 a0_0) := (blk_cell BK708.out 0).trans rfl
            have hcz18_1 : wr.cell? ⟨gb708, 1, none⟩ = some (.slice A0_1 l0_1.length c0_1) := (blk_cell BK708.out 1).trans rfl
            have hcz18_2 : wr.cell? ⟨gb708, 2, none⟩ = some (.slice (some ad709) l0_2.length c0_2) := (blk_cell BK708.out 2).trans rfl
            have hfz18_0 := blk_frozen BK708.out 0
            have hfz18_1 := blk_frozen BK708.out 1
            have hfz18_2 := blk_frozen BK708.out 2
            go_wp2_with (first | ((with_reducible refine gate_callee (f := 91) rfl ?_); refine gl (some 27) Try.func91 #[.agg #[.int .i64 a0_0, .slice A0_1 l0_1.length c0_1, .slice (some ad709) l0_2.length c0_2], .int .i64 (rd l0_2 x19_2)] ?_; (with_reducible refine (graph_Graph_has.calls a0_0 _ _ l0_1 _ _ l0_2 (rd l0_2 x19_2) true _ ?side1 ?side2 ?side3 ?side4 A12.out).mono ?_); (case side1 => repeat (first | exact (Kd.C_below HR0_1.out HB.out) | (with_reducible refine Kd.C_alloc ?_ _) | (with_reducible refine Kd.C_drewN ?_ _) | (with_reducible refine Kd.C_drew ?_))); (case side2 => exact HC0_1.out); (case side3 => repeat (first | exact (Kd.C_below HR0_2.out HB.out) | (with_reducible refine Kd.C_alloc ?_ _) | (with_reducible refine Kd.C_drewN ?_ _) | (with_reducible refine Kd.C_drew ?_))); (case side4 => exact HC0_2.out); rintro e w19 ⟨rfl, hb⟩; refine ⟨_, rfl, ?_⟩; have n0_ := Aside0.mk (bkb BK708 hb); have n1_ := Aside0.mk (below_step (bn1 HB GE708) hb); clear BK708; clear HB; have BK708 := n0_; have HB := n1_; clear n0_ n1_; (try clear hb); have hcz20_0 : w19.cell? ⟨gb708, 0, none⟩ = some (.int .i64 a0_0) := (blk_cell BK708.out 0).trans rfl; have hcz20_1 : w19.cell? ⟨gb708, 1, none⟩ = some (.slice A0_1 l0_1.length c0_1) := (blk_cell BK708.out 1).trans rfl; have hcz20_2 : w19.cell? ⟨gb708, 2, none⟩ = some (.slice (some ad709) l0_2.length c0_2) := (blk_cell BK708.out 2).trans rfl; have hfz20_0 := blk_frozen BK708.out 0; have hfz20_1 := blk_frozen BK708.out 1; have hfz20_2 := blk_frozen BK708.out 2; obtain ⟨i021, hi021, _, hsz21, _⟩ := info_parts info3; obtain ⟨hcut21, hA21, hC21⟩ := print_take_of (P := Try.prog) (Value.int .i64) 0 56 3 .i64 Try.underlying56 hi021 hsz21 (some ad709) c0_2 l0_2 x19_2 (of_decide_eq_true (by assumption)) (of_decide_eq_true (by assumption)) HC0_2.out; have HR711 := Aside0.mk (Kd.C_of_reads (h1 := fun _ => rfl) (hA21 _ (Kd.reads_of_C HR0_2.out))); have HC711 := Aside0.mk hC21; clear hA21 hC21 hi021 hsz21) | ((with_reducible refine gate_callee (f := 92) rfl ?_); refine goesL_ (some 38) rfl rfl Try.func92 (by kernel_rfl) rfl #[.slice (some ad709) (l0_2.take (x19_2 : Int).toNat).length c0_2, .int .i64 (rd l0_2 x19_2)] rfl (by (try simp only [List.map_toArray, List.map_cons, List.map_nil]); first | done | (rw [show (l0_2.take (x19_2 : Int).toNat).length = x19_2.toNat from (by rw [List.length_take]; have h_ : (x19_2 : Int) ≤ (l0_2.length : Int) := of_decide_eq_true (by assumption); omega)] <;> rfl) | rfl | (simp only [List.length_drop, List.length_take]; rfl)) ?_; (with_reducible refine (slices_Contains_int_int.calls k2 _ _ (l0_2.take (x19_2 : Int).toNat) (rd l0_2 x19_2) false _ ?side1 ?side2 A16.out).mono ?_); (case side1 => repeat (first | exact (Kd.C_below HR711.out HB.out) | (with_reducible refine Kd.C_alloc ?_ _) | (with_reducible refine Kd.C_drewN ?_ _) | (with_reducible refine Kd.C_drew ?_))); (case side2 => exact HC711.out); rintro e w' ⟨rfl, ⟨nd, rfl⟩⟩; refine ⟨_, rfl, ?_⟩))
            go_roundg k2
            case measure => have := HJ1.out; have := HK2.out; omega
            case rel => exact ⟨(wrap64 (x19_2 + 1)), (by first | rfl | (simp; done) | (simp [*]; done)), H', ⟨by have := HJ1.out; have := HK2.out; omega⟩, ⟨bk BK708⟩, ⟨bn1 HB GE708⟩⟩
          ·rw [if_neg c15] at H
           exact absurd H (by simp)
         ·replace c13 := Bool.eq_false_iff.mpr c13
          subst c13
          have H1 : (none) = some r := by rw [if_neg (show ¬ (false = true) by decide)] at H; exact H
          clear H
          have H := H1
          clear H1
          exact absurd H (by simp)
        ·rw [if_neg c11] at H
         exact absurd H (by simp)
       ·rw [if_neg c10] at H
        exact absurd H (by simp)
      ·rw [if_neg c9] at H
       have c9b0 : decide (x19_2 < (l0_2.length : Int)) = false := decide_eq_false c9
       clear c9
       obtain rfl := Option.some.inj H
       go_wp2
       go_ret
       exact ⟨by first | rfl | (simp [errW_none, errW_some] <;> rfl) | (simp [*, errW_none, errW_some] <;> rfl), bn1 HB GE708⟩
end Go.Proofs.Ytgeldmhgbnamcaa.P
end
