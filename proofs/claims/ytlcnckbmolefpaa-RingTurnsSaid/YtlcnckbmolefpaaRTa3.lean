/- Walks and laws of several statements of this seat, joined into one text; no condition. -/
import Derived.Test.YtlcnckbmolefpaaProg
import Derived.Below
import Derived.Deep.Draws
import Derived.Deep.AppendLies
import Derived.Maps.AppendAt
import Derived.OwnWalk
import Derived.Laws.BytesArg
import Derived.Laws.MakeOwn
import Derived.Laws.OwnMore
import Derived.Deep.OwnRows
import Derived.Tactics
import Derived.Lib.ConvBytes
import Derived.Laws.Slices
import Derived.WalkKit
import Derived.KernelRfl
import Derived.RowKit3
import Derived.Deep.LoopGhost
import Derived.Deep.QuietTactic
import Derived.BigQuiet
import Derived.WideLaws
import Derived.Deep.DeepCutAuto
import Derived.Deep.CutBlock
import Derived.Deep.RegionHeld3
import Derived.Laws.Rows
import Derived.Lib.AppendStr
import Derived.ArgAppend
import Derived.Laws.IdiomCopy
import Derived.OrdersHeld
import Derived.Laws.BitsLemmas
import Derived.RowKit
import Derived.Laws.StructEq
import Derived.Laws.CopyOwn
import Derived.Deep.RegionLaw
import Derived.LoopTactic
import Derived.Outline
import Derived.IntWalk
import Derived.Lib.BufferMore
import Derived.Maps.RangeWalk
import Derived.Maps.OwnRows
import Derived.Maps.Views
import Derived.Maps.OwnSet
import Derived.Shelf.SlMaps.Clone
import Derived.Deep.CutRange
import Derived.Lib.Zigzag
import Derived.Laws.EntriesVeiled
import Derived.Lib.Builder
import Derived.LaidEqlPtr
import Derived.Test.YtlcnckbmolefpaaRTa0
import Derived.Test.YtlcnckbmolefpaaRTa1
import Derived.Test.YtlcnckbmolefpaaRTa2
section
namespace Go.Proofs.Ytlcnckbmolefpaa.P
open Go.RowKit Go.Proofs.YtlcnckbmolefpaaW.PrintWords Go.Proofs.YtlcnckbmolefpaaW.PrintLast Go.Proofs.YtlcnckbmolefpaaW.PrintMore
set_option linter.unusedVariables false
set_option linter.unusedSimpArgs false
def slices_Repeat.f (l0 : List Int) (a1 : Int) : Option (List Int) := if l0.length = 1 ∧ 0 ≤ a1 ∧ a1 ≤ 1000000 then some (List.replicate a1.toNat (rd l0 0)) else none
theorem wraps63 (n : Int) (h₀ : 0 ≤ n) (h₁ : n < 2 ^ 63) : IntKind.u64.wrap n = n := by rw [IntKind.wrap_u64]; omega
theorem mul_one (n : Int) (h0 : 0 ≤ n) (h1 : n ≤ 1000000) : bits_Mul.f 1 n = some (0, n) := by
  have d : n / 4294967296 = 0 := by omega
  have e : Go.bits .and .u64 n 4294967295 = n := by
    have h := bits_mask .u64 63 (by decide) wraps63 32 (by decide) n h0 (by omega)
    have e2 : ((2 : Int) ^ 32) = 4294967296 := by decide
    rw [e2] at h
    rw [show (4294967295 : Int) = 4294967296 - 1 by omega, h]
    omega
  have e1 : Go.bits .and .u64 1 4294967295 = 1 := by decide
  have e0 : Go.bits .and .u64 0 4294967295 = 0 := by decide
  have w : IntKind.u64.wrap n = n := wraps63 n h0 (by omega)
  have w0 : IntKind.u64.wrap 0 = 0 := by decide
  unfold bits_Mul.f bits_Mul64.f
  rw [d, e, e1]
  simp only [show (1 : Int) / 4294967296 = 0 by decide, Int.zero_mul, Int.mul_zero, Int.one_mul, w0, w, d, Int.zero_add, Int.add_zero, Option.bind_some, show (0 : Int) / 4294967296 = 0 by decide, e0]
def rowc (x : Int) (c n : Nat) (rest : List Value) : List Value := List.replicate c (.int .i64 x) ++ (List.replicate (n - c) (.int .i64 0) ++ rest)
theorem rowc_len (x : Int) {c n : Nat} (rest : List Value) (h : c ≤ n) : (rowc x c n rest).length = n + rest.length := by simp [rowc]; omega
theorem rowc_splice (x : Int) {c n m : Nat} (rest : List Value) (h : c + m ≤ n) : splice (rowc x c n rest) c (List.replicate m (.int .i64 x)) = rowc x (c + m) n rest := by
  unfold splice rowc
  rw [List.take_append_of_le_length (by simp), List.take_of_length_le (by simp)]
  have : List.drop (c + (List.replicate m (Value.int .i64 x)).length) (List.replicate c (Value.int .i64 x) ++ (List.replicate (n - c) (Value.int .i64 0) ++ rest)) = List.replicate (n - (c + m)) (Value.int .i64 0) ++ rest := by
    rw [List.drop_append, List.drop_of_length_le (by simp), List.nil_append, List.length_replicate, List.length_replicate, Nat.add_sub_cancel_left, List.drop_append_of_le_length (by simp; omega), List.drop_replicate, Nat.sub_sub]
  rw [this, ← List.append_assoc, List.replicate_append_replicate]
theorem made_row {w : World} {base : Nat} {ok : Nat → Prop} {v : Value} {m : Nat} (h : Kd.R (Kd.int .i64) 3 w base ok v (List.replicate ((m : Int)).toNat 0)) : (v = .slice none 0 0 ∧ m = 0) ∨ ∃ g cap rest, v = .slice (some ⟨g, 0, none⟩) m cap ∧ base ≤ g ∧ w.heap[g]? = some (.cells (rowc 0 0 m rest).toArray 3 (0, 0)) ∧ m ≤ cap ∧ cap ≤ maxLen ∧ m + rest.length = cap := by
  have ho := Kd.own_of_R h
  rw [Int.toNat_natCast, List.length_replicate] at ho
  obtain ⟨_, h1 | ⟨g, cap, cur, h1, h2, h3, h4, h5, h6, h7⟩⟩ := ho
  · exact .inl h1
  · refine .inr ⟨g, cap, cur.toList.drop m, h1, h2, ?_, h4, h5, by simp; omega⟩
    have e : rowc 0 0 m (cur.toList.drop m) = cur.toList := by
      unfold rowc
      rw [Nat.mul_one] at h7
      have : List.take m cur.toList = List.replicate m (Value.int .i64 0) := by rw [h7]; simp [encs]
      rw [Nat.sub_zero, ← this, List.replicate_zero, List.nil_append, List.take_append_drop]
    rw [e]; exact h3
theorem row_made {w : World} {base : Nat} {m g cap : Nat} {x : Int} {rest : List Value} (h2 : base ≤ g) (h3 : w.heap[g]? = some (.cells (rowc x m m rest).toArray 3 (0, 0))) (h4 : m ≤ cap) (h5 : cap ≤ maxLen) (h6 : m + rest.length = cap) : Kd.R (Kd.int .i64) 3 w base (fun _ => True) (.slice (some ⟨g, 0, none⟩) m cap) (List.replicate m x) := by
  refine Kd.R_of_own ⟨by simp [encs], .inr ⟨g, cap, _, by rw [List.length_replicate], h2, h3, by rw [List.length_replicate]; exact h4, h5, ?_, ?_⟩⟩ (fun _ _ => trivial)
  · simp [rowc]; omega
  · simp [rowc, encs]
theorem made_pos {w : World} {base : Nat} {ok : Nat → Prop} {v : Value} {m : Nat} (x : Int) (hm : 0 < m) (h : Kd.R (Kd.int .i64) 3 w base ok v (List.replicate ((m : Int)).toNat 0)) : ∃ g cap rest, v = .slice (some ⟨g, 0, none⟩) m cap ∧ base ≤ g ∧ Aside0 (w.heap[g]? = some (.cells (rowc x 0 m rest).toArray 3 (0, 0))) ∧ m ≤ cap ∧ cap ≤ maxLen ∧ m + rest.length = cap := by
  rcases made_row h with h | ⟨g, cap, rest, h1, h2, h3, h4⟩
  · omega
  · exact ⟨g, cap, rest, h1, h2, ⟨h3⟩, h4⟩
theorem made_zero {w : World} {base : Nat} {ok : Nat → Prop} {v : Value} {m : Nat} (h : Kd.R (Kd.int .i64) 3 w base ok v (List.replicate ((m : Int)).toNat 0)) : ∃ p cap, v = .slice p m cap := by
  rcases made_row h with h | ⟨g, cap, rest, h1, _⟩
  · exact ⟨none, 0, by rw [h.1, h.2]⟩
  · exact ⟨_, _, h1⟩
set_option maxHeartbeats 1000000 in
set_option maxRecDepth 100000 in
theorem slices_Repeat.calls (A0 : Option Addr) (c0 : Nat) (l0 : List Int) (a1 : Int) (r : List Int) (w : World) (hr0 : Kd.C (Kd.int .i64) w A0 l0.length l0) (hc0 : l0.length ≤ c0) (h : slices_Repeat.f l0 a1 = some r) :
    Calls Try.prog 85 #[.slice A0 l0.length c0, .int .i64 a1] w fun e w' => ∃ v0_ : Value, e = .returned v0_ ∧ Kd.R (Kd.int .i64) 3 w' w.heap.size (fun _ => True) v0_ r ∧ Below w.heap.size w w' := by
  unfold slices_Repeat.f at h
  by_cases c : l0.length = 1 ∧ 0 ≤ a1 ∧ a1 ≤ 1000000
  · rw [if_pos c] at h
    obtain rfl := Option.some.inj h
    obtain ⟨x, rfl⟩ := List.length_eq_one_iff.1 c.1
    obtain ⟨_, h0, h1⟩ := c
    clear h
    obtain ⟨m, rfl⟩ := Int.eq_ofNat_of_zero_le h0
    have HM := Aside0.mk (mul_one m h0 h1)
    have hneg := decide_eq_false (show ¬ (m : Int) < 0 by omega)
    have hbig := decide_eq_false (show ¬ (9223372036854775807 : Int) < (m : Int) by omega)
    by_cases hm : 0 < m
    · obtain ⟨ad, rfl, hx⟩ := Kd.at_int hr0 0 (by omega) (by simp)
      have K1 := Aside0.mk (show (List.replicate 1 (Value.int .i64 x)).length = Nat.min 1 m by rw [List.length_replicate]; show 1 = min 1 m; omega)
      have K2 := Aside0.mk (fun (c k : Nat) (rest : List Value) (hk : c + k ≤ m) => (by rw [rowc_len _ _ (by omega), List.length_replicate]; omega : c + (List.replicate k (Value.int .i64 x)).length ≤ (rowc x c m rest).length))
      have K3 := Aside0.mk (fun (n : Nat) => (fun v hv => by rw [List.eq_of_mem_replicate hv]; rfl : ∀ v ∈ List.replicate n (Value.int .i64 x), v.oneCell' = true))
      have HR := Aside0.mk hr0
      clear hr0 hc0 hx
      go_enter Try.func85, Try.ntmps85
      go_wp2_with (first | (go_at_call 108; (with_reducible refine (bits_Mul.calls 1 m 0 m _ HM.out).mono ?_); rintro e w' ⟨rfl, ⟨nd, rfl⟩⟩) | ((with_reducible refine gate_dst (N := 30) rfl ?_); refine Kd.R_make (Kd.int .i64) (w0 := w) w.heap.size 3 rfl (N := 30) rfl 25 _ _ rfl (m : Int) rfl rfl Try.underlying25 (.int .i64 0) 8 info3 rfl (by decide) (by omega) 0 (ok := fun _ => True) (okp := fun _ => True) rfl (fun _ hk => hk) trivial h0 (by omega) ?hB ?hS ?_; (case hB => repeat (first | exact Below.refl _ _ | (with_reducible first | apply below_alloc | apply pw_below_drewN | apply below_drew1))); (case hS => exact Nat.le_refl _); intro v w2 ho hb hg hn; clear hg hn; obtain ⟨g, cap, rest, rfl, hbg, h3, h4, h5, h6⟩ := made_pos x hm ho; have HB := Aside0.mk hb; clear ho hb) | ((with_reducible refine gate_builtin (b := .copy) (xs := #[.tmp 31, .tmp 32]) rfl ?_); refine wpList_copy_splice rfl (.tmp 31) (.tmp 32) 25 25 rfl 3 Try.underlying25 (by kernel_rfl) _ _ _ _ _ _ rfl rfl g 0 (rowc x 0 m rest) 3 h3.out (List.replicate 1 (.int .i64 x)) K1.out ?hp (K2.out 0 1 rest (by omega)) (K3.out 1) w.heap.size w HB.out hbg ?_; (case hp => (intro _; refine ⟨rfl, _, rfl, ?_⟩; intro j v hj; obtain ⟨ad', e1, e2⟩ := Kd.at_int (Kd.C_below HR.out HB.out) 0 (by omega) (by simp); cases e1; cases j with | zero => (cases hj; exact e2) | succ j => simp at hj)); intro w3 hg3 hb3; have H3 := Aside0.mk hg3; have HB3 := Aside0.mk hb3; clear hg3 hb3))
      have H4 : Aside0 (w3.heap[g]? = some (.cells (rowc x 1 m rest).toArray 3 (0, 0))) := ⟨by have := H3.out.out; rwa [rowc_splice x rest (by omega), Nat.zero_add] at this⟩
      clear H3 HB h3
      go_loopw [8] (fun v8 wr => ∃ c : Nat, v8 = .int .i64 (c : Int) ∧ Aside0 (1 ≤ c ∧ c ≤ m ∧ wr.heap[g]? = some (.cells (rowc x c m rest).toArray 3 (0, 0)) ∧ Below w.heap.size w wr)) (fun v8 _ => ((m : Int) - intOf v8).toNat)
      case atStart => exact ⟨1, rfl, ⟨by omega, by omega, H4.out, HB3.out⟩⟩
      case round =>
        obtain ⟨c, rfl, HI⟩ := hrel
        have c0 := HI.out.1
        have c1 := HI.out.2.1
        by_cases hlt : c < m
        · have hltb := decide_eq_true (show (c : Int) < (m : Int) by omega)
          have q0 : (0 : Int) ≤ (c : Int) := by omega
          have q1 : (c : Int) ≤ (m : Int) := by omega
          have q2 : (c : Int) ≤ (cap : Int) := by omega
          have q3 : c ≤ m := c1
          have q4 : c ≤ cap := by omega
          have q5 : ¬ cap = c := by omega
          have hcell : Aside0 (∀ j, j < c → wr.cell? ⟨g, j, none⟩ = some (.int .i64 x)) := ⟨fun j hj => by
            have h3 := HI.out.2.2.1
            simp only [World.cell?, h3]
            simp only [rowc]
            simp
            rw [List.getElem?_append_left (by simpa using hj), List.getElem?_replicate, if_pos hj]⟩
          go_wp2_with fail
          go_region_law (go_loud (refine step_copy_splice rfl (.tmp 41) (.tmp 44) 25 25 rfl 3 Try.underlying25 (by kernel_rfl) (some ⟨g, c, none⟩) (some ⟨g, 0, none⟩) (m - c) (cap - c) c cap (by simp [Act.eval, Act.put]) (by simp [Act.eval, Act.put]) g c (rowc x c m rest) 3 HI.out.2.2.1 (List.replicate (Nat.min c (m - c)) (.int .i64 x)) (by rw [List.length_replicate]) ?hp (K2.out c _ rest (by have : Nat.min c (m - c) ≤ m - c := Nat.min_le_right _ _; omega)) (K3.out _) w.heap.size w (below_step HI.out.2.2.2 (Drawn0.below ⟨⟨_, rfl⟩⟩)) hbg ?_); (case hp => go_loud (exact fun _ => ⟨rfl, _, rfl, fun j v hj => by
            obtain ⟨hj1, hj2⟩ := List.getElem?_eq_some_iff.1 hj
            rw [List.getElem_replicate] at hj2
            subst hj2
            rw [List.length_replicate] at hj1
            have hk : Nat.min c (m - c) ≤ c := Nat.min_le_left _ _
            have := hcell.out j (by omega)
            rw [Addr.add_lit, Nat.zero_add]
            exact this⟩)); intro w4 hg4 hb4; have H5 := Aside0.mk hg4; have HB5 := Aside0.mk hb4; clear hg4 hb4)
          all_goals
            have hk : Nat.min c (m - c) = min c (m - c) := rfl
            generalize Nat.min c (m - c) = k at hk H5 HB5
            have hk1 : c + k ≤ m := by omega
            have hk2 : 1 ≤ k := by omega
            have H6 : Aside0 (w4.heap[g]? = some (.cells (rowc x (c + k) m rest).toArray 3 (0, 0))) := ⟨by have := H5.out.out; rwa [rowc_splice x rest hk1] at this⟩
            clear H5
            have hwr : IntKind.i64.wrap ((c : Int) + (k : Int)) = ((c + k : Nat) : Int) := by rw [IntKind.wrap_i64]; omega
            dsimp only [Act.put, Option.elim, List.getElem_toArray, List.getElem_cons_succ, List.getElem_cons_zero]
            simp only [List.setIfInBounds_toArray, List.set_cons_zero, List.set_cons_succ, hwr]
            go_wp2
            go_roundw
            case rel => exact ⟨c + k, rfl, ⟨by omega, hk1, H6.out, HB5.out⟩⟩
            case measure => simp [intOf]; omega
        · obtain rfl : c = m := by omega
          have hltb := decide_eq_false (show ¬ (c : Int) < (c : Int) by omega)
          go_wp2
          go_ret
          exact ⟨_, rfl, row_made hbg HI.out.2.2.1 h4 h5 h6, HI.out.2.2.2⟩
    · have hm0 : Nat.min 1 m = 0 := by show min 1 m = 0; omega
      clear hr0 hc0
      go_enter Try.func85, Try.ntmps85
      go_wp2_with (first | (go_at_call 108; (with_reducible refine (bits_Mul.calls 1 m 0 m _ HM.out).mono ?_); rintro e w' ⟨rfl, ⟨nd, rfl⟩⟩) | ((with_reducible refine gate_dst (N := 30) rfl ?_); refine Kd.R_make (Kd.int .i64) (w0 := w) w.heap.size 3 rfl (N := 30) rfl 25 _ _ rfl (m : Int) rfl rfl Try.underlying25 (.int .i64 0) 8 info3 rfl (by decide) (by omega) 0 (ok := fun _ => True) (okp := fun _ => True) rfl (fun _ hk => hk) trivial h0 (by omega) ?hB ?hS ?_; (case hB => repeat (first | exact Below.refl _ _ | (with_reducible first | apply below_alloc | apply pw_below_drewN | apply below_drew1))); (case hS => exact Nat.le_refl _); intro v w2 ho hb hg hn; clear hg hn; obtain ⟨p, cap, rfl⟩ := made_zero ho; have HO := Aside0.mk ho; have HB := Aside0.mk hb; clear ho hb) | ((with_reducible refine gate_builtin (b := .copy) (xs := #[.tmp 31, .tmp 32]) rfl ?_); refine wpList_copy_nothing rfl (.tmp 31) (.tmp 32) 25 25 rfl 3 Try.underlying25 (by kernel_rfl) _ _ _ _ _ _ rfl rfl hm0 ?_))
      go_loopw [8] (fun v8 wr => v8 = .int .i64 0 ∧ wr = w2) (fun v8 _ => 0)
      case atStart => exact ⟨rfl, rfl⟩
      case round =>
        obtain ⟨rfl, rfl⟩ := hrel
        have hltb := decide_eq_false (show ¬ (0 : Int) < (m : Int) by omega)
        go_wp2
        go_ret
        refine ⟨_, rfl, ?_, HB.out⟩
        have := HO.out
        obtain rfl : m = 0 := by omega
        exact this
  · rw [if_neg c] at h; cases h
def slices_CloneB.f (l0 : List S143) : Option (List S143) := if l0.length < 5864062014805 then some l0 else none
set_option maxHeartbeats 400000 in
theorem slices_CloneB.calls (A0 : Option Addr) (c0 : Nat) (l0 : List S143) (r : List S143) (w : World) (hr0 : Kd.C k143 w A0 l0.length l0) (hc0 : l0.length ≤ c0) (h : slices_CloneB.f l0 = some r) :
    Calls Try.prog 89 #[.slice A0 l0.length c0] w fun e w' => ∃ v0_ : Value, e = .returned v0_ ∧ Kd.R k143 143 w' w.heap.size (fun _ => True) v0_ r ∧ Below w.heap.size w w' := by
  unfold slices_CloneB.f at h
  by_cases hlim : l0.length < 5864062014805
  · rw [if_pos hlim] at h
    obtain rfl := Option.some.inj h
    have LM := Aside0.mk hlim
    clear hlim h
    have HR := Aside0.mk hr0
    clear hr0 hc0
    cases A0 with
    | none =>
      obtain rfl : l0 = [] := by
        have h1 := HR.out.2.2
        cases l0 with
        | nil => rfl
        | cons x xs =>
          obtain ⟨ad, h2, _⟩ := h1 (by simp)
          cases h2
      have hq := fun W : World => Go.Lib.run_eql_slice_nil_nil (P := Try.prog) W (t := 57) 0 c0 Try.underlying57
      go_enter Try.func89, Try.ntmps89
      go_wp2
      go_ret
      exact ⟨_, rfl, Kd.R_nil _ _ _ _ _, Below.refl _ _⟩
    | some ad =>
      have hq := fun W : World => Go.Lib.run_eql_slice_some_nil (P := Try.prog) W (t := 57) ad l0.length c0 Try.underlying57
      go_enter Try.func89, Try.ntmps89
      go_wp2_with (first | ((with_reducible refine gate_dst (N := 5) rfl ?_); refine Kd.R_lit k143 _ 143 ?hg (N := 5) ?hd (xs := ([] : List S143)) (inner := []) (ok := fun _ => True) (okp := fun _ => True) ?hr ?hp (fun _ hk => hk) trivial (Below.refl _ _) (Nat.le_refl _) (by simp) ?_; (case hd => rfl); (case hg => rfl); (case hr => first | (go_simp; done) | (go_simp; rfl)); (case hp => exact (Reps.none _ _)); intro v1 w1 ho1 hb1 hg_ hnew_; clear hg_ hnew_; have HB1 := Aside0.mk hb1; have HO1 := Aside0.mk ho1; clear hb1 ho1) | ((with_reducible refine gate_builtin (b := .append) (xs := #[.tmp 5, .tmp 6]) rfl ?_); at_builtin; refine Kd.R_append_rows k143 (w0 := w) w.heap.size rfl (.tmp 5) (.tmp 6) 57 143 (.agg #[(.int .i64 0), (.int .u64 0), (.int .i64 0)]) 24 rfl Try.underlying57 info143 rfl (by decide) (by omega) v1 [] l0 _ _ _ (fun _ => True) (fun _ => False) rfl rfl ?aO ?aR (fun _ _ h => h) (fun _ h => h.elim) ?aF ?aB ?aS ?aL ?_; (case aR => exact Kd.C_below HR.out HB1.out); (case aB => exact HB1.out); (case aF => exact (fun _ _ => trivial)); (case aO => exact HO1.out); (case aS => exact HB1.out.size); (case aL => have := LM.out; simp only [List.length_nil]; omega); intro v2 w2 ho hb hg hat; have HB2 := Aside0.mk hb; have HO2 := Aside0.mk ho; clear ho hb hg hat))
      go_ret
      exact ⟨_, rfl, by have := HO2.out; rwa [List.nil_append] at this, HB2.out⟩
  · rw [if_neg hlim] at h
    cases h
def slices_CloneE.f (l0 : List S128) : Option (List S128) := if l0.length < 4398046511104 then some l0 else none
set_option maxHeartbeats 400000 in
theorem slices_CloneE.calls (A0 : Option Addr) (c0 : Nat) (l0 : List S128) (r : List S128) (w : World) (hr0 : Kd.C k128 w A0 l0.length l0) (hc0 : l0.length ≤ c0) (h : slices_CloneE.f l0 = some r) :
    Calls Try.prog 90 #[.slice A0 l0.length c0] w fun e w' => ∃ v0_ : Value, e = .returned v0_ ∧ Kd.R k128 128 w' w.heap.size (fun _ => True) v0_ r ∧ Below w.heap.size w w' := by
  unfold slices_CloneE.f at h
  by_cases hlim : l0.length < 4398046511104
  · rw [if_pos hlim] at h
    obtain rfl := Option.some.inj h
    have LM := Aside0.mk hlim
    clear hlim h
    have HR := Aside0.mk hr0
    clear hr0 hc0
    cases A0 with
    | none =>
      obtain rfl : l0 = [] := by
        have h1 := HR.out.2.2
        cases l0 with
        | nil => rfl
        | cons x xs =>
          obtain ⟨ad, h2, _⟩ := h1 (by simp)
          cases h2
      have hq := fun W : World => Go.Lib.run_eql_slice_nil_nil (P := Try.prog) W (t := 33) 0 c0 Try.underlying33
      go_enter Try.func90, Try.ntmps90
      go_wp2
      go_ret
      exact ⟨_, rfl, Kd.R_nil _ _ _ _ _, Below.refl _ _⟩
    | some ad =>
      have hq := fun W : World => Go.Lib.run_eql_slice_some_nil (P := Try.prog) W (t := 33) ad l0.length c0 Try.underlying33
      go_enter Try.func90, Try.ntmps90
      go_wp2_with (first | ((with_reducible refine gate_dst (N := 5) rfl ?_); refine Kd.R_lit k128 _ 128 ?hg (N := 5) ?hd (xs := ([] : List S128)) (inner := []) (ok := fun _ => True) (okp := fun _ => True) ?hr ?hp (fun _ hk => hk) trivial (Below.refl _ _) (Nat.le_refl _) (by simp) ?_; (case hd => rfl); (case hg => rfl); (case hr => first | (go_simp; done) | (go_simp; rfl)); (case hp => exact (Reps.none _ _)); intro v1 w1 ho1 hb1 hg_ hnew_; clear hg_ hnew_; have HB1 := Aside0.mk hb1; have HO1 := Aside0.mk ho1; clear hb1 ho1) | ((with_reducible refine gate_builtin (b := .append) (xs := #[.tmp 5, .tmp 6]) rfl ?_); at_builtin; refine Kd.R_append_rows k128 (w0 := w) w.heap.size rfl (.tmp 5) (.tmp 6) 33 128 (.agg #[(.int .i64 0), (.int .i64 0), (.int .i64 0), (.bool false)]) 32 rfl Try.underlying33 info128 rfl (by decide) (by omega) v1 [] l0 _ _ _ (fun _ => True) (fun _ => False) rfl rfl ?aO ?aR (fun _ _ h => h) (fun _ h => h.elim) ?aF ?aB ?aS ?aL ?_; (case aR => exact Kd.C_below HR.out HB1.out); (case aB => exact HB1.out); (case aF => exact (fun _ _ => trivial)); (case aO => exact HO1.out); (case aS => exact HB1.out.size); (case aL => have := LM.out; simp only [List.length_nil]; omega); intro v2 w2 ho hb hg hat; have HB2 := Aside0.mk hb; have HO2 := Aside0.mk ho; clear ho hb hg hat))
      go_ret
      exact ⟨_, rfl, by have := HO2.out; rwa [List.nil_append] at this, HB2.out⟩
  · rw [if_neg hlim] at h
    cases h
attribute [local go_sem] max2_int min2_int max_two min_two max_three min_three max_four min_four   -- for this text's walks alone
/-! ### mem_may: function 84 -/
def mem_may.f (a0 : Int) : Option (Bool) := if a0 ≥ 0 then (some (decide (a0 ≤ 65536))) else (some false)
set_option maxHeartbeats 8000000 in
set_option maxRecDepth 100000 in
theorem mem_may.calls (a0 : Int) (r : Bool) (w : World) (h : mem_may.f a0 = some r) :
    Calls Try.prog 84 #[.int .i64 a0] w fun e w' => e = .returned (.bool r) ∧ Drawn0 w w' := by
  have H : (if a0 ≥ 0 then (some (decide (a0 ≤ 65536))) else (some false)) = some r := h
  clear h
  by_cases c2 : a0 ≥ 0
  · rw [if_pos c2] at H
    have c2b0 : decide (0 ≤ a0) = true := decide_eq_true c2
    clear c2
    obtain rfl := Option.some.inj H
    go_enter Try.func84, Try.ntmps84
    go_wp2
    go_ret
    exact ⟨by first | rfl | (simp; done) | (simp [*]; done), by repeat (first | exact Drawn0.refl _ | apply Drawn0.step)⟩
  · rw [if_neg c2] at H
    have c2b0 : decide (0 ≤ a0) = false := decide_eq_false c2
    clear c2
    obtain rfl := Option.some.inj H
    go_enter Try.func84, Try.ntmps84
    go_wp2
    go_ret
    exact ⟨by first | rfl | (simp; done) | (simp [*]; done), by repeat (first | exact Drawn0.refl _ | apply Drawn0.step)⟩
open Go.RowKit Go.Maps Go.Proofs.Ytlcnckbmolefpaa.CK Go.Proofs.YtlcnckbmolefpaaW.PrintWords Go.Proofs.YtlcnckbmolefpaaW.PrintLast Go.Proofs.YtlcnckbmolefpaaW.PrintMore
attribute [local go_sem] max2_int min2_int max_two min_two
set_option maxRecDepth 100000
theorem may_eq (n : Int) : mem_may.f n = some (decide (0 ≤ n) && decide (n ≤ 65536)) := by
  unfold mem_may.f
  by_cases h : n ≥ 0
  · rw [if_pos h, decide_eq_true (show 0 ≤ n from h)]; rfl
  · rw [if_neg h, decide_eq_false (show ¬ 0 ≤ n from h)]; rfl
def nAct (a b c : Nat) (x1 x3 x4 x6 x7 : Value) : Act := { tmps := #[.int .i64 a, .int .i64 b, .int .i64 c, undef, undef, undef, .pointer none, .int .i64 0, .int .i64 a, .bool true, .bool false, .bool false, .int .i64 b, .bool true, .bool false, .bool false, .bool false, .int .i64 c, .bool true, .bool false, .bool false, .int .i64 a, x1, .int .i64 b, x3, x4, .int .i64 c, x6, x7, undef, undef], defers := [] }
theorem at_of {α : Type} {f : Oper → α} {x : Option Oper} {o : Oper} {v : α} (h : x = some o) (e : x.map f = some v) : f o = v := by rw [h] at e; exact Option.some.inj e
theorem nop1 {o : Oper} (h : (opsOf Try.f30 3)[1]? = some o) : o.dst = some 22 ∧ o.op = .makeSlice 44 (.tmp 21) (.tmp 21) ∧ o.guard = none := ⟨at_of (f := fun o => o.dst) h (by kernel_rfl), at_of (f := fun o => o.op) h (by kernel_rfl), at_of (f := fun o => o.guard) h (by kernel_rfl)⟩
theorem nop3 {o : Oper} (h : (opsOf Try.f30 3)[3]? = some o) : o.dst = some 24 ∧ o.op = .makeSlice 135 (.tmp 23) (.tmp 23) ∧ o.guard = none := ⟨at_of (f := fun o => o.dst) h (by kernel_rfl), at_of (f := fun o => o.op) h (by kernel_rfl), at_of (f := fun o => o.guard) h (by kernel_rfl)⟩
theorem nop4 {o : Oper} (h : (opsOf Try.f30 3)[4]? = some o) : o.dst = some 25 ∧ o.op = .buildSlice 25 1 #[(0, .const (.int .i64 (-1)))] ∧ o.guard = none ∧ o.type = 25 := ⟨at_of (f := fun o => o.dst) h (by kernel_rfl), at_of (f := fun o => o.op) h (by kernel_rfl), at_of (f := fun o => o.guard) h (by kernel_rfl), at_of (f := fun o => o.type) h (by kernel_rfl)⟩
theorem nop6 {o : Oper} (h : (opsOf Try.f30 3)[6]? = some o) : o.dst = some 27 ∧ o.op = .call { callee := .value (.func 85), args := #[.tmp 25, .tmp 26], argTypes := #[25, 3] } ∧ o.guard = none := ⟨at_of (f := fun o => o.dst) h (by kernel_rfl), at_of (f := fun o => o.op) h (by kernel_rfl), at_of (f := fun o => o.guard) h (by kernel_rfl)⟩
theorem nop7 {o : Oper} (h : (opsOf Try.f30 3)[7]? = some o) : o.dst = some 28 ∧ o.op = .makeMap 125 none ∧ o.guard = none := ⟨at_of (f := fun o => o.dst) h (by kernel_rfl), at_of (f := fun o => o.op) h (by kernel_rfl), at_of (f := fun o => o.guard) h (by kernel_rfl)⟩
theorem info57 : (Try.prog.info? 57).map (fun i => (i.zero, i.size, i.bytes)) = some (some (.slice none 0 0), 1, 24) := by kernel_rfl
theorem new_ready : ∀ f1 f3 f4 f6 f7 : Bool, (f6 = true → f4 = true) → ¬ (f1 = true ∧ f3 = true ∧ f6 = true ∧ f7 = true) → Region.ready .any (opsOf Try.f30 3) #[true, f1, true, f3, f4, true, f6, f7, false, false, false, false] = (if f1 then [] else [1]) ++ ((if f3 then [] else [3]) ++ ((if f4 then [] else [4]) ++ ((if f4 && !f6 then [6] else []) ++ (if f7 then [] else [7])))) := by
  intro f1 f3 f4 f6 f7 h1 h2
  cases f1 <;> cases f3 <;> cases f4 <;> cases f6 <;> cases f7 <;> first | (simp at h1; done) | (simp at h2; done) | kernel_rfl
theorem newmem_ne : ∀ f1 f3 f4 f6 f7 : Bool, (f6 = true → f4 = true) → ¬ (f1 = true ∧ f3 = true ∧ f6 = true ∧ f7 = true) → ((if f1 then [] else [1]) ++ ((if f3 then [] else [3]) ++ ((if f4 then [] else [4]) ++ ((if f4 && !f6 then [6] else []) ++ (if f7 then [] else [7])))) : List Nat) ≠ [] := by decide
structure NewI (W w : World) (a b c : Nat) (f1 f3 f4 f6 f7 : Bool) (x1 x3 x4 x6 x7 : Value) : Prop where
  bel : Below W.heap.size W w
  p1 : f1 = true → Kd.R (Kd.int .u64) 29 w W.heap.size (fun _ => True) x1 (List.replicate a 0)
  p3 : f3 = true → Kd.R (Kd.slice 143 k143) 57 w W.heap.size (fun _ => True) x3 (List.replicate b [])
  p4 : f4 = true → Kd.R (Kd.int .i64) 3 w W.heap.size (fun _ => True) x4 [-1]
  p6 : f6 = true → Kd.R (Kd.int .i64) 3 w W.heap.size (fun _ => True) x6 (List.replicate c (-1))
  p7 : f7 = true → ∃ m, x7 = .map (some m) ∧ W.heap.size ≤ m ∧ BedR w m 0 (fun _ => none)
theorem BedR.below {w w' : World} {b n : Nat} {f : Int → Option Int} (h : BedR w b n f) (hb : Below w.heap.size w w') : BedR w' b n f := h.same (hb.block b h.lt)
theorem NewI.below {W w w' : World} {a b c : Nat} {f1 f3 f4 f6 f7 : Bool} {x1 x3 x4 x6 x7 : Value} (h : NewI W w a b c f1 f3 f4 f6 f7 x1 x3 x4 x6 x7) (hb : Below w.heap.size w w') : NewI W w' a b c f1 f3 f4 f6 f7 x1 x3 x4 x6 x7 :=
  ⟨below_step h.bel hb, fun e => Kd.R_below (h.p1 e) hb, fun e => Kd.R_below (h.p3 e) hb, fun e => Kd.R_below (h.p4 e) hb, fun e => Kd.R_below (h.p6 e) hb, fun e => by obtain ⟨m, e1, e2, e3⟩ := h.p7 e; exact ⟨m, e1, e2, e3.below hb⟩⟩
theorem wanted_none {o : Oper} {y : Nat → Option Bool} (h : o.guard = none) : Region.wanted o y = true := by simp [Region.wanted, h]
section
variable {W w : World} {a b c : Nat} {f1 f3 f4 f6 f7 : Bool} {x1 x3 x4 x6 x7 : Value} {Q : Exit → Act → World → Prop} {K : Act → World → Prop}
theorem new1 {o : Oper} (no : (opsOf Try.f30 3)[1]? = some o) (ha : a ≤ 65536) (h : NewI W w a b c f1 f3 f4 f6 f7 x1 x3 x4 x6 x7) (hK : ∀ y w', NewI W w' a b c true f3 f4 f6 f7 y x3 x4 x6 x7 → K (nAct a b c y x3 x4 x6 x7) w') :
    if Region.wanted o (yielded (opsOf Try.f30 3) (nAct a b c x1 x3 x4 x6 x7).tmps) = true then Oper.wp Try.prog o (nAct a b c x1 x3 x4 x6 x7) w K Q else K ((nAct a b c x1 x3 x4 x6 x7).put o.dst undef) w := by
  refine Kd.R_make_step (Kd.int .u64) (w0 := w) w.heap.size 29 (wanted_none (nop1 no).2.2) (nop1 no).1 44 (.tmp 21) (.tmp 21) (nop1 no).2.1 (a : Int) rfl rfl Try.underlying44 (.int .u64 0) 8 info29 rfl (by decide) (by omega) 0 (ok := fun _ => True) (okp := fun _ => True) rfl (fun _ h => h) trivial (by omega) (by omega) (Below.refl _ _) (Nat.le_refl _) ?_
  intro v1 w1 hr hb _ _
  rw [(nop1 no).1]
  have h2 := h.below hb
  rw [Int.toNat_natCast] at hr
  exact hK v1 w1 ⟨h2.bel, fun _ => Kd.R_lower hr (below_size h.bel), h2.p3, h2.p4, h2.p6, h2.p7⟩
theorem new3 {o : Oper} (no : (opsOf Try.f30 3)[3]? = some o) (hb0 : b ≤ 65536) (h : NewI W w a b c f1 f3 f4 f6 f7 x1 x3 x4 x6 x7) (hK : ∀ y w', NewI W w' a b c f1 true f4 f6 f7 x1 y x4 x6 x7 → K (nAct a b c x1 y x4 x6 x7) w') :
    if Region.wanted o (yielded (opsOf Try.f30 3) (nAct a b c x1 x3 x4 x6 x7).tmps) = true then Oper.wp Try.prog o (nAct a b c x1 x3 x4 x6 x7) w K Q else K ((nAct a b c x1 x3 x4 x6 x7).put o.dst undef) w := by
  refine Kd.R_make_step (Kd.slice 143 k143) (w0 := w) w.heap.size 57 (wanted_none (nop3 no).2.2) (nop3 no).1 135 (.tmp 23) (.tmp 23) (nop3 no).2.1 (b : Int) rfl rfl Try.underlying135 (.slice none 0 0) 24 info57 rfl (by decide) (by omega) ([] : List S143) (ok := fun _ => True) (okp := fun _ => True) ⟨_, rfl, Kd.R_nil _ _ _ _ _⟩ (fun _ h => h) trivial (by omega) (by omega) (Below.refl _ _) (Nat.le_refl _) ?_
  intro v1 w1 hr hb _ _
  rw [(nop3 no).1]
  have h2 := h.below hb
  rw [Int.toNat_natCast] at hr
  exact hK v1 w1 ⟨h2.bel, h2.p1, fun _ => Kd.R_lower hr (below_size h.bel), h2.p4, h2.p6, h2.p7⟩
theorem new4 {o : Oper} (no : (opsOf Try.f30 3)[4]? = some o) (h : NewI W w a b c f1 f3 f4 f6 f7 x1 x3 x4 x6 x7) (hK : ∀ y w', NewI W w' a b c f1 f3 true f6 f7 x1 x3 y x6 x7 → K (nAct a b c x1 x3 y x6 x7) w') :
    if Region.wanted o (yielded (opsOf Try.f30 3) (nAct a b c x1 x3 x4 x6 x7).tmps) = true then Oper.wp Try.prog o (nAct a b c x1 x3 x4 x6 x7) w K Q else K ((nAct a b c x1 x3 x4 x6 x7).put o.dst undef) w := by
  have hrun : (execOp (nAct a b c x1 x3 x4 x6 x7).eval o).run Try.prog w = .ok (.value (.slice (some ⟨w.heap.size, 0, none⟩) 1 1)) (w.alloc (.cells #[.int .i64 (-1)] 3)) := by
    unfold execOp
    rw [(nop4 no).2.1, (nop4 no).2.2.2]
    go_simp
    try rfl
  refine Kd.R_lit_step (Kd.int .i64) (w0 := w) w.heap.size 3 (wanted_none (nop4 no).2.2.1) (nop4 no).1 (xs := [(-1 : Int)]) (inner := [.int .i64 (-1)]) (ok := fun _ => True) (okp := fun _ => True) hrun (Kd.reps_scalar (enc := fun x : Int => Value.int .i64 x) [(-1 : Int)]) (fun _ h => h) trivial (Below.refl _ _) (Nat.le_refl _) (by simp) ?_
  intro v1 w1 hr hb _ _
  rw [(nop4 no).1]
  have h2 := h.below hb
  exact hK v1 w1 ⟨h2.bel, h2.p1, h2.p3, fun _ => Kd.R_lower hr (below_size h.bel), h2.p6, h2.p7⟩
theorem new6 {o : Oper} (no : (opsOf Try.f30 3)[6]? = some o) (hc : c ≤ 65536) (h : NewI W w a b c f1 f3 true f6 f7 x1 x3 x4 x6 x7) (hK : ∀ y w', NewI W w' a b c f1 f3 true true f7 x1 x3 x4 y x7 → K (nAct a b c x1 x3 x4 y x7) w') :
    if Region.wanted o (yielded (opsOf Try.f30 3) (nAct a b c x1 x3 x4 x6 x7).tmps) = true then Oper.wp Try.prog o (nAct a b c x1 x3 x4 x6 x7) w K Q else K ((nAct a b c x1 x3 x4 x6 x7).put o.dst undef) w := by
  have h4 := h.p4 rfl
  obtain ⟨A, n, cc, rfl⟩ := R_any h4
  obtain ⟨e1, e2, e3⟩ := Kd.R_reads' h4
  subst e1
  rw [(nop6 no).1]
  refine goes_ Try.func85 (by kernel_rfl) rfl #[.slice A ([-1] : List Int).length cc, .int .i64 c] (wanted_none (nop6 no).2.2) (nop6 no).1 (nop6 no).2.1 (by simp only [List.map_toArray, List.map_cons, List.map_nil]; rfl) ?_
  have hf : slices_Repeat.f [-1] (c : Int) = some (List.replicate c (-1)) := by
    unfold slices_Repeat.f
    rw [if_pos ⟨rfl, by omega, by omega⟩]; rfl
  refine (slices_Repeat.calls A cc [-1] c _ w e3 e2 hf).mono ?_
  rintro e w1 ⟨v1, rfl, hr, hb⟩
  have h2 := h.below hb
  exact ⟨v1, rfl, hK v1 w1 ⟨h2.bel, h2.p1, h2.p3, h2.p4, fun _ => Kd.R_lower hr (below_size h.bel), h2.p7⟩⟩
theorem new7 {o : Oper} (no : (opsOf Try.f30 3)[7]? = some o) (h : NewI W w a b c f1 f3 f4 f6 f7 x1 x3 x4 x6 x7) (hK : ∀ y w', NewI W w' a b c f1 f3 f4 f6 true x1 x3 x4 x6 y → K (nAct a b c x1 x3 x4 x6 y) w') :
    if Region.wanted o (yielded (opsOf Try.f30 3) (nAct a b c x1 x3 x4 x6 x7).tmps) = true then Oper.wp Try.prog o (nAct a b c x1 x3 x4 x6 x7) w K Q else K ((nAct a b c x1 x3 x4 x6 x7).put o.dst undef) w := by
  have hrun : (execOp (nAct a b c x1 x3 x4 x6 x7).eval o).run Try.prog w = .ok (.value (.map (some w.heap.size))) (w.alloc (.map #[] 0)) := by
    unfold execOp
    rw [(nop7 no).2.1]
    simp [run_makeMap, Result.andThen]
  have hb := below_alloc (Below.refl w.heap.size w) (.map #[] 0)
  have h2 := h.below hb
  exact event_step (wanted_none (nop7 no).2.2) hrun (by rw [(nop7 no).1]; exact hK _ _ ⟨h2.bel, h2.p1, h2.p3, h2.p4, h2.p6, fun _ => ⟨_, rfl, below_size h.bel, BedR.made w⟩⟩)
theorem new_all (ha : a ≤ 65536) (hb : b ≤ 65536) (hc : c ≤ 65536) (hE : ∀ x1 x3 x4 x6 x7 w, NewI W w a b c true true true true true x1 x3 x4 x6 x7 → wpAnyLast Try.prog .any (opsOf Try.f30 3) Q (fun _ => True) [] 4 #[true, true, true, true, true, true, true, true, false, false, false, false] (nAct a b c x1 x3 x4 x6 x7) w) :
    ∀ (n : Nat) (f1 f3 f4 f6 f7 : Bool) (x1 x3 x4 x6 x7 : Value) (w : World), (f6 = true → f4 = true) → (if f1 then 0 else 1) + ((if f3 then 0 else 1) + ((if f4 then 0 else 1) + ((if f6 then 0 else 1) + (if f7 then 0 else 1)))) = n → NewI W w a b c f1 f3 f4 f6 f7 x1 x3 x4 x6 x7 →
      wpAnyLast Try.prog .any (opsOf Try.f30 3) Q (fun _ => True) [] (n + 4) #[true, f1, true, f3, f4, true, f6, f7, false, false, false, false] (nAct a b c x1 x3 x4 x6 x7) w := by
  intro n
  induction n with
  | zero =>
    intro f1 f3 f4 f6 f7 x1 x3 x4 x6 x7 w h64 hn hI
    cases f1 <;> cases f3 <;> cases f4 <;> cases f6 <;> cases f7 <;> first | exact hE _ _ _ _ _ _ hI | (simp at hn; done)
  | succ n ih =>
    intro f1 f3 f4 f6 f7 x1 x3 x4 x6 x7 w h64 hn hI
    have hnot : ¬ (f1 = true ∧ f3 = true ∧ f6 = true ∧ f7 = true) := by
      rintro ⟨rfl, rfl, rfl, rfl⟩
      rw [h64 rfl] at hn
      simp at hn
    have hr := new_ready f1 f3 f4 f6 f7 h64 hnot
    show wpAnyLast _ _ _ _ _ _ ((n + 4) + 1) _ _ _
    refine ⟨fun h0 => absurd (hr.symm.trans h0) (newmem_ne f1 f3 f4 f6 f7 h64 hnot), fun i hi => ?_⟩
    · rw [hr] at hi
      have e1 : ∀ i, i < 12 → ∃ o, (opsOf Try.f30 3)[i]? = some o := fun i h => ⟨_, Array.getElem?_eq_getElem (by rw [show (opsOf Try.f30 3).size = 12 by kernel_rfl]; exact h)⟩
      rcases List.mem_append.1 hi with hi | hi
      · cases f1
        · obtain rfl : i = 1 := by simpa using hi
          obtain ⟨o, no⟩ := e1 1 (by omega)
          refine wpOp_step no fun K hK => new1 no ha hI fun y w' h' => hK _ _ ⟨fun _ _ => trivial, ?_⟩
          exact ih true f3 f4 f6 f7 y x3 x4 x6 x7 w' h64 (by simp at hn ⊢; omega) h'
        · simp at hi
      · rcases List.mem_append.1 hi with hi | hi
        · cases f3
          · obtain rfl : i = 3 := by simpa using hi
            obtain ⟨o, no⟩ := e1 3 (by omega)
            refine wpOp_step no fun K hK => new3 no hb hI fun y w' h' => hK _ _ ⟨fun _ _ => trivial, ?_⟩
            exact ih f1 true f4 f6 f7 x1 y x4 x6 x7 w' h64 (by simp at hn ⊢; omega) h'
          · simp at hi
        · rcases List.mem_append.1 hi with hi | hi
          · cases f4
            · obtain rfl : i = 4 := by simpa using hi
              obtain ⟨o, no⟩ := e1 4 (by omega)
              refine wpOp_step no fun K hK => new4 no hI fun y w' h' => hK _ _ ⟨fun _ _ => trivial, ?_⟩
              exact ih f1 f3 true f6 f7 x1 x3 y x6 x7 w' (fun _ => rfl) (by simp at hn ⊢; omega) h'
            · simp at hi
          · rcases List.mem_append.1 hi with hi | hi
            · cases f4
              · simp at hi
              · cases f6
                · obtain rfl : i = 6 := by simpa using hi
                  obtain ⟨o, no⟩ := e1 6 (by omega)
                  refine wpOp_step no fun K hK => new6 no hc hI fun y w' h' => hK _ _ ⟨fun _ _ => trivial, ?_⟩
                  exact ih f1 f3 true true f7 x1 x3 x4 y x7 w' (fun _ => rfl) (by simp at hn ⊢; omega) h'
                · simp at hi
            · cases f7
              · obtain rfl : i = 7 := by simpa using hi
                obtain ⟨o, no⟩ := e1 7 (by omega)
                refine wpOp_step no fun K hK => new7 no hI fun y w' h' => hK _ _ ⟨fun _ _ => trivial, ?_⟩
                exact ih f1 f3 f4 f6 true x1 x3 x4 x6 y w' h64 (by simp at hn ⊢; omega) h'
              · simp at hi
def nActE (a b c : Nat) (x1 x3 x4 x6 x7 t6 t7 x29 x30 : Value) : Act := { tmps := #[.int .i64 a, .int .i64 b, .int .i64 c, undef, undef, undef, t6, t7, .int .i64 a, .bool true, .bool false, .bool false, .int .i64 b, .bool true, .bool false, .bool false, .bool false, .int .i64 c, .bool true, .bool false, .bool false, .int .i64 a, x1, .int .i64 b, x3, x4, .int .i64 c, x6, x7, x29, x30], defers := [] }
theorem nop8 {o : Oper} (h : (opsOf Try.f30 3)[8]? = some o) : o.dst = some 29 ∧ o.op = .build 137 #[(0, .tmp 22), (1, .tmp 24), (2, .tmp 27), (3, .tmp 28), (4, .const (.slice none 0 0))] ∧ o.guard = none ∧ o.type = 137 := ⟨at_of (f := fun o => o.dst) h (by kernel_rfl), at_of (f := fun o => o.op) h (by kernel_rfl), at_of (f := fun o => o.guard) h (by kernel_rfl), at_of (f := fun o => o.type) h (by kernel_rfl)⟩
theorem nop9 {o : Oper} (h : (opsOf Try.f30 3)[9]? = some o) : o.dst = some 30 ∧ o.op = .box 137 (.tmp 29) ∧ o.guard = none ∧ o.type = 46 := ⟨at_of (f := fun o => o.dst) h (by kernel_rfl), at_of (f := fun o => o.op) h (by kernel_rfl), at_of (f := fun o => o.guard) h (by kernel_rfl), at_of (f := fun o => o.type) h (by kernel_rfl)⟩
theorem nop10 {o : Oper} (h : (opsOf Try.f30 3)[10]? = some o) : o.dst = some 6 ∧ o.op = .assign (.tmp 30) ∧ o.guard = none ∧ o.type = 46 := ⟨at_of (f := fun o => o.dst) h (by kernel_rfl), at_of (f := fun o => o.op) h (by kernel_rfl), at_of (f := fun o => o.guard) h (by kernel_rfl), at_of (f := fun o => o.type) h (by kernel_rfl)⟩
theorem nop11 {o : Oper} (h : (opsOf Try.f30 3)[11]? = some o) : o.dst = some 7 ∧ o.op = .assign (.const (.int .i64 0)) ∧ o.guard = none ∧ o.type = 47 := ⟨at_of (f := fun o => o.dst) h (by kernel_rfl), at_of (f := fun o => o.op) h (by kernel_rfl), at_of (f := fun o => o.guard) h (by kernel_rfl), at_of (f := fun o => o.type) h (by kernel_rfl)⟩
theorem new_op (i : Nat) (h : i < 12) : ∃ o, (opsOf Try.f30 3)[i]? = some o := ⟨_, Array.getElem?_eq_getElem (by rw [show (opsOf Try.f30 3).size = 12 by kernel_rfl]; exact h)⟩
theorem new_one {n i : Nat} {l l' : Array Bool} {o : Oper} {act : Act} {v : Value} {w w1 : World} (hr : Region.ready .any (opsOf Try.f30 3) l = [i]) (hl : l.setIfInBounds i true = l') (no : (opsOf Try.f30 3)[i]? = some o) (hg : o.guard = none) (hrun : (execOp act.eval o).run Try.prog w = .ok (.value v) w1) {act' : Act} (ha : act.put o.dst v = act')
    (h : wpAnyLast Try.prog .any (opsOf Try.f30 3) Q (fun _ => True) [] n l' act' w1) : wpAnyLast Try.prog .any (opsOf Try.f30 3) Q (fun _ => True) [] (n + 1) l act w := by
  subst hl
  subst ha
  refine ⟨fun h0 => (by rw [hr] at h0; cases h0), fun j hj => ?_⟩
  rw [hr] at hj
  obtain rfl : j = i := by simpa using hj
  exact wpOp_step no fun K hK => event_step (wanted_none hg) hrun (hK _ _ ⟨fun _ _ => trivial, h⟩)
theorem new_end (hI : NewI W w a b c true true true true true x1 x3 x4 x6 x7) (hQ : ∀ x29 x30 g w', MemR w' W.heap.size (fun k => W.heap.size ≤ k) g ⟨List.replicate a 0, List.replicate b [], List.replicate c (-1), fun _ => none, 0, []⟩ → Below W.heap.size W w' → Q .normal (nActE a b c x1 x3 x4 x6 x7 (.pointer (some ⟨g, 0, none⟩)) (.int .i64 0) x29 x30) w') :
    wpAnyLast Try.prog .any (opsOf Try.f30 3) Q (fun _ => True) [] 4 #[true, true, true, true, true, true, true, true, false, false, false, false] (nAct a b c x1 x3 x4 x6 x7) w := by
  obtain ⟨A1, n1, c1, e1⟩ := R_any (hI.p1 rfl)
  obtain ⟨A3, n3, c3, e3⟩ := R_any (hI.p3 rfl)
  obtain ⟨A6, n6, c6, e6⟩ := R_any (hI.p6 rfl)
  obtain ⟨m, e7, hm1, hm2⟩ := hI.p7 rfl
  subst e1 e3 e6 e7
  obtain ⟨o8, no8⟩ := new_op 8 (by omega)
  obtain ⟨o9, no9⟩ := new_op 9 (by omega)
  obtain ⟨o10, no10⟩ := new_op 10 (by omega)
  obtain ⟨o11, no11⟩ := new_op 11 (by omega)
  refine new_one (i := 8) (l' := #[true, true, true, true, true, true, true, true, true, false, false, false]) (v := .agg #[.slice A1 n1 c1, .slice A3 n3 c3, .slice A6 n6 c6, .map (some m), .slice none 0 0]) (w1 := w) (by kernel_rfl) (by kernel_rfl) no8 (nop8 no8).2.2.1 (by unfold execOp; rw [(nop8 no8).2.1]; simp only [nAct]; go_simp) (act' := nActE a b c (.slice A1 n1 c1) (.slice A3 n3 c3) x4 (.slice A6 n6 c6) (.map (some m)) (.pointer none) (.int .i64 0) (.agg #[.slice A1 n1 c1, .slice A3 n3 c3, .slice A6 n6 c6, .map (some m), .slice none 0 0]) undef) (by rw [(nop8 no8).1]; rfl) ?_
  refine new_one (i := 9) (l' := #[true, true, true, true, true, true, true, true, true, true, false, false]) (v := .pointer (some ⟨w.heap.size, 0, none⟩)) (w1 := w.alloc (.cells #[.slice A1 n1 c1, .slice A3 n3 c3, .slice A6 n6 c6, .map (some m), .slice none 0 0] 137)) (by kernel_rfl) (by kernel_rfl) no9 (nop9 no9).2.2.1 (by unfold execOp; rw [(nop9 no9).2.1]; simp only [nActE]; go_simp) (act' := nActE a b c (.slice A1 n1 c1) (.slice A3 n3 c3) x4 (.slice A6 n6 c6) (.map (some m)) (.pointer none) (.int .i64 0) (.agg #[.slice A1 n1 c1, .slice A3 n3 c3, .slice A6 n6 c6, .map (some m), .slice none 0 0]) (.pointer (some ⟨w.heap.size, 0, none⟩))) (by rw [(nop9 no9).1]; rfl) ?_
  refine new_one (i := 10) (l' := #[true, true, true, true, true, true, true, true, true, true, true, false]) (v := .pointer (some ⟨w.heap.size, 0, none⟩)) (w1 := w.alloc (.cells #[.slice A1 n1 c1, .slice A3 n3 c3, .slice A6 n6 c6, .map (some m), .slice none 0 0] 137)) (by kernel_rfl) (by kernel_rfl) no10 (nop10 no10).2.2.1 (by unfold execOp; rw [(nop10 no10).2.1]; simp only [nActE]; go_simp) (act' := nActE a b c (.slice A1 n1 c1) (.slice A3 n3 c3) x4 (.slice A6 n6 c6) (.map (some m)) (.pointer (some ⟨w.heap.size, 0, none⟩)) (.int .i64 0) (.agg #[.slice A1 n1 c1, .slice A3 n3 c3, .slice A6 n6 c6, .map (some m), .slice none 0 0]) (.pointer (some ⟨w.heap.size, 0, none⟩))) (by rw [(nop10 no10).1]; rfl) ?_
  refine new_one (i := 11) (l' := #[true, true, true, true, true, true, true, true, true, true, true, true]) (v := .int .i64 0) (w1 := w.alloc (.cells #[.slice A1 n1 c1, .slice A3 n3 c3, .slice A6 n6 c6, .map (some m), .slice none 0 0] 137)) (by kernel_rfl) (by kernel_rfl) no11 (nop11 no11).2.2.1 (by unfold execOp; rw [(nop11 no11).2.1]; simp only [nActE]; go_simp) (act' := nActE a b c (.slice A1 n1 c1) (.slice A3 n3 c3) x4 (.slice A6 n6 c6) (.map (some m)) (.pointer (some ⟨w.heap.size, 0, none⟩)) (.int .i64 0) (.agg #[.slice A1 n1 c1, .slice A3 n3 c3, .slice A6 n6 c6, .map (some m), .slice none 0 0]) (.pointer (some ⟨w.heap.size, 0, none⟩))) (by rw [(nop11 no11).1]; rfl) ?_
  have hb := below_alloc (Below.refl w.heap.size w) (.cells #[.slice A1 n1 c1, .slice A3 n3 c3, .slice A6 n6 c6, .map (some m), .slice none 0 0] 137)
  have h2 := hI.below hb
  obtain ⟨m', e7, hm3, hm4⟩ := h2.p7 rfl
  obtain rfl : m = m' := by injection e7 with e7; injection e7
  have hs := hI.bel.size
  refine ⟨by kernel_rfl, hQ _ _ w.heap.size _ ⟨m, _, _, _, _, ⟨blk_new _ _, hs, hs, ?_, ?_, ?_, Kd.R_nil _ _ _ _ _, hm1, hm1, hm4⟩⟩ h2.bel⟩
  · exact Kd.R_mono (Kd.R_bound (h2.p1 rfl)) (fun k hk => hk.2.1)
  · exact Kd.R_mono (Kd.R_bound (h2.p3 rfl)) (fun k hk => hk.2.1)
  · exact Kd.R_mono (Kd.R_bound (h2.p6 rfl)) (fun k hk => hk.2.1)
end
theorem New_ok (a b c : Nat) (ha : a ≤ 65536) (hb : b ≤ 65536) (hc : c ≤ 65536) (W : World) :
    Calls Try.prog 30 #[.int .i64 a, .int .i64 b, .int .i64 c] W fun e w' => ∃ g, e = .returned (.tuple #[.pointer (some ⟨g, 0, none⟩), .int .i64 0]) ∧ MemR w' W.heap.size (fun k => W.heap.size ≤ k) g ⟨List.replicate a 0, List.replicate b [], List.replicate c (-1), fun _ => none, 0, []⟩ ∧ Below W.heap.size W w' := by
  have A0 := Aside0.mk (show mem_may.f a = some true by rw [may_eq, decide_eq_true (show (0 : Int) ≤ a by omega), decide_eq_true (show (a : Int) ≤ 65536 by omega)]; rfl)
  have B0 := Aside0.mk (show mem_may.f b = some true by rw [may_eq, decide_eq_true (show (0 : Int) ≤ b by omega), decide_eq_true (show (b : Int) ≤ 65536 by omega)]; rfl)
  have C0 := Aside0.mk (show mem_may.f c = some true by rw [may_eq, decide_eq_true (show (0 : Int) ≤ c by omega), decide_eq_true (show (c : Int) ≤ 65536 by omega)]; rfl)
  have HA := Aside0.mk (show _ ∧ _ ∧ _ from ⟨ha, hb, hc⟩)
  clear ha hb hc
  go_enter Try.func30, Try.ntmps30
  go_wp2_with (first | (go_at_call 84; (with_reducible refine (mem_may.calls a true _ A0.out).mono ?_); rintro e w1 ⟨rfl, ⟨nd, rfl⟩⟩) | (go_at_call 84; (with_reducible refine (mem_may.calls b true _ B0.out).mono ?_); rintro e w1 ⟨rfl, ⟨nd, rfl⟩⟩) | (go_at_call 84; (with_reducible refine (mem_may.calls c true _ C0.out).mono ?_); rintro e w1 ⟨rfl, ⟨nd, rfl⟩⟩))
  refine start_ (n := 12) (S := fun _ => True) (ds := []) #[false, false, false, false, false, false, false, false, false, false, false, false] (by kernel_rfl) rfl rfl trivial (fun hHeld => ?_)
  refine pure_ (i := 0) (N := some 21) (v := ?_) (a' := ?_) #[true, false, false, false, false, false, false, false, false, false, false, false] rfl rfl (by kernel_rfl) (fun _ _ _ h => h) (Or.inl ⟨by rfl, ?_⟩) ?_ ?_
  rotate_left
  · intro w'
    go_simp
    with_reducible rfl
  rotate_left
  · simp only [Act.put, List.setIfInBounds_toArray, List.set_cons_zero, List.set_cons_succ]
    rfl
  refine pure_ (i := 2) (N := some 23) (v := ?_) (a' := ?_) #[true, false, true, false, false, false, false, false, false, false, false, false] rfl rfl (by kernel_rfl) (fun _ _ _ h => h) (Or.inl ⟨by rfl, ?_⟩) ?_ ?_
  rotate_left
  · intro w'
    go_simp
    with_reducible rfl
  rotate_left
  · simp only [Act.put, List.setIfInBounds_toArray, List.set_cons_zero, List.set_cons_succ]
    rfl
  refine pure_ (i := 5) (N := some 26) (v := ?_) (a' := ?_) #[true, false, true, false, false, true, false, false, false, false, false, false] rfl rfl (by kernel_rfl) (fun _ _ _ h => h) (Or.inl ⟨by rfl, ?_⟩) ?_ ?_
  rotate_left
  · intro w'
    go_simp
    with_reducible rfl
  rotate_left
  · simp only [Act.put, List.setIfInBounds_toArray, List.set_cons_zero, List.set_cons_succ]
    rfl
  refine new_all (W := W) (Q := _) HA.out.1 HA.out.2.1 HA.out.2.2 (fun x1 x3 x4 x6 x7 w hI => new_end hI ?_) 5 false false false false false undef undef undef undef undef _ (by simp) rfl ⟨below_drew1 (pw_below_drewN (Below.refl _ _) _), by simp, by simp, by simp, by simp, by simp⟩
  intro x29 x30 g w' hm hb
  have HM := Aside0.mk hm
  have HB := Aside0.mk hb
  clear hm hb hI
  simp only [nActE]
  go_wp2
  go_ret2
  exact ⟨g, rfl, HM.out, HB.out⟩
set_option maxRecDepth 100000
theorem Log_V (W : World) {base : Nat} {own : Nat → Prop} {g bm : Nat} {vw vb vl vo : Value} {M : MS} (h : MemV W base own g bm vw vb vl vo M) (hlog : M.log.length ≤ 1000000) : Calls Try.prog 48 #[.pointer (some ⟨g, 0, none⟩)] W fun e w' => ∃ v, e = .returned v ∧ Kd.R k128 128 w' W.heap.size (fun _ => True) v M.log ∧ Below W.heap.size W w' := by
  obtain ⟨-, -, -, -, hx4, -⟩ := h.cell
  obtain ⟨A, n, c, rfl⟩ := R_any h.ho
  obtain ⟨rfl, e2, e3⟩ := Kd.R_reads' h.ho
  have HC := Aside0.mk (slices_CloneE.calls A c M.log M.log W e3 e2 (by unfold slices_CloneE.f; rw [if_pos (by omega)]))
  clear h hlog e2 e3
  go_enter Try.func48, Try.ntmps48
  go_wp2_with (first | (go_at_call 90; (with_reducible refine HC.out.mono ?_); rintro e w1 ⟨v1, rfl, hr, hb⟩; obtain ⟨A1, n1, c1, rfl⟩ := R_any hr; have HR := Aside0.mk hr; have HB := Aside0.mk hb; clear hr hb))
  go_ret
  exact ⟨_, rfl, HR.out, HB.out⟩
def rdB (bs : List (List S143)) (i : Int) : List S143 := bs.getD i.toNat []
def MS.get (M : MS) (who at_ : Int) : List S143 := if M.fits who at_ (M.boxes.length : Int) = true then rdB M.boxes at_ else []
def MS.getTo (M : MS) (who at_ : Int) : MS := if M.fits who at_ (M.boxes.length : Int) = true then M.note who 2 at_ true else M
theorem box_at {w : World} {base : Nat} {ok : Nat → Prop} {A : Option Addr} {n c : Nat} {xs : List (List S143)} (h : Kd.R (Kd.slice 143 k143) 57 w base ok (.slice A n c) xs) (i : Int) (h0 : 0 ≤ i) (h1 : i < xs.length) : ∃ ad A0 c0, A = some ad ∧ w.cell? (ad.add i.toNat) = some (.slice A0 (rdB xs i).length c0) ∧ (rdB xs i).length ≤ c0 ∧ k143.C w A0 (rdB xs i).length (rdB xs i) := by
  obtain ⟨e1, e2, e3⟩ := Kd.R_reads' h
  obtain ⟨ad, cs, e, _, hK, hc0⟩ := Kd.C_get e3 ([] : List S143) i h0 h1
  have hc : ∀ j u, cs[j]? = some u → w.cell? (ad.add (i.toNat * 1 + j)) = some u := hc0
  obtain ⟨A0, c0, rfl, l0, g0⟩ := hK
  exact ⟨ad, A0, c0, e, by have hq := hc 0 _ rfl; rwa [Nat.mul_one, Nat.add_zero] at hq, l0, g0⟩
set_option maxHeartbeats 1000000 in
theorem Get_V (who at_ : Int) (hwho : (Lit.int .i64 who).wf = true) (W : World) {base : Nat} {own : Nat → Prop} {g bm : Nat} {vw vb vl vo : Value} {M : MS} (h : MemV W base own g bm vw vb vl vo M) (hf : ∀ k, W.heap.size ≤ k → own k) (hlog : M.log.length ≤ 1000000) (hbox : ∀ b ∈ M.boxes, b.length ≤ 1000000) :
    Calls Try.prog 39 #[.pointer (some ⟨g, 0, none⟩), .int .i64 who, .int .i64 at_] W fun e w' => ∃ v N, e = .returned v ∧ W.heap.size ≤ N ∧ Kd.R k143 143 w' N (fun _ => True) v (M.get who at_) ∧ (∃ vo', MemV w' base (fun k => own k ∧ k < N) g bm vw vb vl vo' (M.getTo who at_)) ∧ Kept W w' own ∧ Below base W w' := by
  obtain ⟨-, hx1, -, -, -, -⟩ := h.cell
  have hbase : base ≤ W.heap.size := Nat.le_trans h.bg (Nat.le_of_lt (blk_lt h.hg))
  cases hq : M.fits who at_ (M.boxes.length : Int)
  · have e0 : M.getTo who at_ = M := by unfold MS.getTo; rw [hq]; rfl
    have e1 : M.get who at_ = [] := by unfold MS.get; rw [hq]; rfl
    rw [e0, e1]
    obtain ⟨A, c, rfl⟩ := Kd.R_slice h.hb
    have H := Aside0.mk h
    have HW := Aside0.mk hwho
    clear h hf hlog hwho e0 e1 hbox hbase
    go_enter Try.func39, Try.ntmps39
    go_wp2_with (first | (go_at_call 86; (with_reducible refine (fits_V who at_ _ HW.out W H.out).mono ?_); rintro e w1 ⟨rfl, rfl⟩))
    go_ret
    exact ⟨_, _, rfl, Nat.le_refl _, Kd.R_nil _ _ _ _ _, ⟨_, H.out.bound⟩, Kept.refl _ _, Below.refl _ _⟩
  · obtain ⟨q0, q1, q2, -⟩ := fits_at hq
    have e0 : M.getTo who at_ = M.note who 2 at_ true := by unfold MS.getTo; rw [hq]; rfl
    have e1 : M.get who at_ = rdB M.boxes at_ := by unfold MS.get; rw [hq]; rfl
    rw [e0, e1]
    obtain ⟨gw, cw, rfl, -⟩ := Kd.R_form h.hb (by omega)
    have H := Aside0.mk h
    have HW := Aside0.mk hwho
    have HF := Aside0.mk hf
    have HL := Aside0.mk hlog
    have HS := Aside0.mk hbase
    have HX : Aside0 ((rdB M.boxes at_).length ≤ 1000000) := ⟨by
      unfold rdB
      rw [List.getD_eq_getElem?_getD, List.getElem?_eq_getElem (by omega)]
      exact hbox _ (List.getElem_mem _)⟩
    clear h hf hlog hwho e0 e1 hbox hbase
    go_enter Try.func39, Try.ntmps39
    go_wp2_with (first | (go_at_call 86; (with_reducible refine (fits_V who at_ _ HW.out W H.out).mono ?_); rintro e w1 ⟨rfl, rfl⟩) | (go_at_call 87; (with_reducible refine (note_V who 2 at_ true _ H.out HF.out HL.out).mono ?_); (rintro e w1 ⟨rfl, vo1, hm1, hk1, hb1⟩; obtain ⟨-, hy1, -, -, -, -⟩ := hm1.cell; obtain ⟨ad, A0, c0, had, hc1, hl1, hC1⟩ := box_at hm1.hb at_ q1 q2; injection had with had; subst had; rw [Addr.add_lit, Nat.zero_add] at hc1; have HM := Aside0.mk hm1; have HK := Aside0.mk hk1; have HB := Aside0.mk hb1; have HC := Aside0.mk (slices_CloneB.calls A0 c0 _ _ w1 hC1 hl1 (by unfold slices_CloneB.f; rw [if_pos (by have h7 := HX.out; exact Nat.lt_of_le_of_lt h7 (by omega))])); clear hx1 hm1 hk1 hb1 hl1 hC1)) | (go_at_call 89; ((with_reducible refine HC.out.mono ?_); rintro e w2 ⟨v2, rfl, hr, hb⟩; obtain ⟨A2, n2, c2, rfl⟩ := R_any hr; have HR := Aside0.mk hr; have HB2 := Aside0.mk hb; clear hr hb)))
    go_ret
    exact ⟨_, _, rfl, HK.out.1, HR.out, ⟨_, HM.out.bound.step (fun k _ hk => HB2.out.block k hk)⟩, HK.out.below HB2.out, below_then HB.out (Nat.le_trans HS.out HK.out.1) HB2.out⟩
set_option maxRecDepth 100000
def MS.set_ (M : MS) (who at_ : Int) (b : List S143) : MS := if M.fits who at_ (M.boxes.length : Int) = true then { M.note who 3 at_ true with boxes := M.boxes.set at_.toNat b } else M
theorem box_slot {w : World} {base : Nat} {own : Nat → Prop} {gw n cw : Nat} {xs : List (List S143)} (h : Kd.R (Kd.slice 143 k143) 57 w base own (.slice (some ⟨gw, 0, none⟩) n cw) xs) (i : Int) (h0 : 0 ≤ i) (h1 : i < n) :
    ∃ old, w.cell? ⟨gw, i.toNat, none⟩ = some old ∧ w.frozen? ⟨gw, i.toNat, none⟩ = false ∧ ∀ (w' : World) (v : Value) (b : List S143), Below w.heap.size w w' → Kd.R k143 143 w' base (fun k => own k ∧ k ≠ gw) v b → Kd.R (Kd.slice 143 k143) 57 (w'.setCell ⟨gw, i.toNat, none⟩ v) base own (.slice (some ⟨gw, 0, none⟩) n cw) (xs.set i.toNat b) ∧ w'.grownBy (w'.setCell ⟨gw, i.toNat, none⟩ v) (some gw) := by
  obtain ⟨c, hcl, -, hcc, hfz⟩ := Kd.R_elem h ([] : List S143) i h0 h1
  have hcl' : c.length = 1 := hcl
  obtain ⟨old, rfl⟩ := List.length_eq_one_iff.1 hcl'
  have hcc0 : w.cell? ⟨gw, i.toNat * 1 + 0, none⟩ = some old := hcc 0 old rfl
  have hfz0 : w.frozen? ⟨gw, i.toNat * 1 + 0, none⟩ = false := hfz 0
  rw [Nat.mul_one, Nat.add_zero] at hcc0 hfz0
  refine ⟨old, hcc0, hfz0, fun w' v b hb hR => ?_⟩
  have hgw : gw < w.heap.size := Kd.R_lt h gw rfl
  have hs := Kd.R_seg (d := Kd.slice 143 k143) (Kd.R_below h hb) i h0 h1 (c := [old]) (seg := [v]) (j := 0) rfl (fun j u hu => by
    have e : w'.cell? ⟨gw, i.toNat * (Kd.slice 143 k143).sz + j, none⟩ = w.cell? ⟨gw, i.toNat * (Kd.slice 143 k143).sz + j, none⟩ := hb.cell (p := ⟨gw, _, none⟩) hgw
    rw [e]; exact hcc j u hu) (Nat.le_refl _) (x' := b) (okp := fun k => own k ∧ k ≠ gw) ⟨v, rfl, hR⟩ (fun k hk => hk)
  have e : w'.setCells gw (i.toNat * (Kd.slice 143 k143).sz + 0) [v] = w'.setCell ⟨gw, i.toNat, none⟩ v := by
    show w'.setCells gw (i.toNat * 1 + 0) [v] = _
    rw [Nat.mul_one, Nat.add_zero]; rfl
  rw [e] at hs
  exact hs
set_option maxHeartbeats 1000000 in
theorem Set_V (who at_ : Int) (hwho : (Lit.int .i64 who).wf = true) (A : Option Addr) (c : Nat) (b : List S143) (W : World) {base : Nat} {own : Nat → Prop} {g bm : Nat} {vw vb vl vo : Value} {M : MS} (h : MemV W base own g bm vw vb vl vo M) (hf : ∀ k, W.heap.size ≤ k → own k) (hlog : M.log.length ≤ 1000000) (hC : Kd.F k143 W (fun k => ¬ own k) A b.length b) (hc : b.length ≤ c) (hbl : b.length ≤ 1000000) :
    Calls Try.prog 34 #[.pointer (some ⟨g, 0, none⟩), .int .i64 who, .int .i64 at_, .slice A b.length c] W fun e w' => e = .returned (.tuple #[]) ∧ MemTo W w' base own g bm vw vb vl (M.set_ who at_ b) := by
  obtain ⟨-, hx1, -, -, -, -⟩ := h.cell
  have hbase : base ≤ W.heap.size := Nat.le_trans h.bg (Nat.le_of_lt (blk_lt h.hg))
  cases hq : M.fits who at_ (M.boxes.length : Int)
  · have e0 : M.set_ who at_ b = M := by unfold MS.set_; rw [hq]; rfl
    rw [e0]
    obtain ⟨A, c, rfl⟩ := Kd.R_slice h.hb
    have H := Aside0.mk h
    have HW := Aside0.mk hwho
    clear h hf hlog hwho e0 hbase hC hc hbl
    go_enter Try.func34, Try.ntmps34
    go_wp2_with (first | (go_at_call 86; (with_reducible refine (fits_V who at_ _ HW.out W H.out).mono ?_); rintro e w1 ⟨rfl, rfl⟩))
    ((try simp only [Exit.inBlock, Exit.then]); first | refine bodyPost_ret (results_none rfl _ _ _) rfl ?_ | refine bodyPost_end (results_none rfl _ _ _) rfl ?_)
    exact ⟨rfl, MemTo.of H.out⟩
  · obtain ⟨q0, q1, q2, -⟩ := fits_at hq
    have e0 : M.set_ who at_ b = { M.note who 3 at_ true with boxes := M.boxes.set at_.toNat b } := by unfold MS.set_; rw [hq]; rfl
    rw [e0]
    obtain ⟨gw, cw, rfl, -⟩ := Kd.R_form h.hb (by omega)
    have H := Aside0.mk h
    have HW := Aside0.mk hwho
    have HF := Aside0.mk hf
    have HL := Aside0.mk hlog
    have HS := Aside0.mk hbase
    have HC0 := Aside0.mk hC
    have HCL := Aside0.mk (show _ ∧ _ from ⟨hc, hbl⟩)
    clear h hf hlog hwho e0 hbase hC hc hbl
    go_enter Try.func34, Try.ntmps34
    go_upto_region 2 with (first | (go_at_call 86; (with_reducible refine (fits_V who at_ _ HW.out W H.out).mono ?_); rintro e w1 ⟨rfl, rfl⟩) | (go_at_call 87; (with_reducible refine (note_V who 3 at_ true _ H.out HF.out HL.out).mono ?_); (rintro e w1 ⟨rfl, vo1, hm1, hk1, hb1⟩; obtain ⟨-, hy1, -, -, -, -⟩ := hm1.cell; obtain ⟨old, hc1, hz1, hst⟩ := box_slot hm1.hb at_ q1 q2; have HM := Aside0.mk hm1; have HK := Aside0.mk hk1; have HB := Aside0.mk hb1; have HST := Aside0.mk hst; have HC := Aside0.mk (fun W' hW' => slices_CloneB.calls A c b b W' (Kd.C_below (Kd.F_now (Kd.F_kept HC0.out hk1 (fun _ h => h))) hW') HCL.out.1 (by unfold slices_CloneB.f; rw [if_pos (by have h7 := HCL.out.2; exact Nat.lt_of_le_of_lt h7 (by omega))])); clear hx1 hm1 hk1 hb1 hst)))
    have hgw : gw < w1.heap.size := Kd.R_lt HM.out.hb gw rfl
    have HGW := Aside0.mk hgw
    clear hgw
    have hne : g ≠ gw := fun e => Kd.R_ne HM.out.hb HM.out.hg (by decide) (congrArg some e)
    have HNE := Aside0.mk hne
    clear hne
    go_region_held3 (fun w' => w'.cell? ⟨g, 1, none⟩ = some (.slice (some ⟨gw, 0, none⟩) M.boxes.length cw))
      (first | exact hy1 | exact hN3 | exact (blk_cell (blk_far hG3 HNE.out _) 1).trans rfl)
      (first | (go_at_call 89; (with_reducible refine (HC.out _ (below_drew (Below.refl _ _))).mono ?_); rintro e w3 ⟨v3, rfl, hr3, hb3⟩; obtain ⟨A3, n3, c3, rfl⟩ := R_any hr3; have hG3 := blk_below (blk_drew HM.out.hg) hb3; have hN3 := show w3.cell? ⟨g, 1, none⟩ = some (.slice (some ⟨gw, 0, none⟩) M.boxes.length cw) from (blk_cell hG3 1).trans rfl; have hc3 : w3.cell? ⟨gw, at_.toNat, none⟩ = some old := (hb3.cell (p := ⟨gw, at_.toNat, none⟩) HGW.out).trans hc1; have hz3 : w3.frozen? ⟨gw, at_.toNat, none⟩ = false := (hb3.frozen (p := ⟨gw, at_.toNat, none⟩) HGW.out).trans hz1))
    all_goals
      ((try simp only [Exit.inBlock, Exit.then]); first | refine bodyPost_ret (results_none rfl _ _ _) rfl ?_ | refine bodyPost_end (results_none rfl _ _ _) rfl ?_)
      have hB3 : Below w1.heap.size w1 w3 := (below_drew (Below.refl _ w1)).trans hb3
      have hsz := HK.out.1
      have hR3 : Kd.R k143 143 w3 base (fun k => own k ∧ k ≠ gw) (.slice A3 n3 c3) b := Kd.R_lower (Kd.R_mono (Kd.R_bound hr3) (fun k hk => ⟨HF.out k (Nat.le_trans hsz hk.2.1), fun e => by have h1 := hk.2.1; have h2 := HGW.out; rw [e] at h1; exact absurd h2 (Nat.not_lt.2 h1)⟩)) (Nat.le_trans HS.out hsz)
      obtain ⟨hs1, hs2⟩ := HST.out w3 _ b hB3 hR3
      have hM3 := HM.out.step (fun k _ hk => hB3.block k hk)
      exact ⟨rfl, vo1, hM3.put_b hs1 hs2, (HK.out.below hB3).setCell (.inl (HM.out.hb.1 gw rfl)) _, (below_then HB.out (Nat.le_trans HS.out hsz) hB3).setCell (Kd.R_base HM.out.hb gw rfl) _⟩
set_option maxRecDepth 100000
def MemC (w : World) (B : Nat) (own : Nat → Prop) (g : Nat) (M : MS) : Prop := MemR w B own g M ∧ ∀ k, own k → k < w.heap.size
def MemNext (w w' : World) (B : Nat) (own : Nat → Prop) (g : Nat) (M : MS) : Prop := (∃ own', MemC w' B own' g M ∧ ∀ k, own' k → own k ∨ w.heap.size ≤ k) ∧ Kept w w' own ∧ Below B w w'
theorem MemC.grown {w : World} {B : Nat} {own : Nat → Prop} {g : Nat} {M : MS} (h : MemC w B own g M) : ∃ bm vw vb vl vo, MemV w B (fun k => own k ∨ w.heap.size ≤ k) g bm vw vb vl vo M := by
  obtain ⟨bm, vw, vb, vl, vo, h⟩ := h.1
  exact ⟨bm, vw, vb, vl, vo, h.mono (fun k hk => .inl hk)⟩
theorem MemTo.next {w w' : World} {B : Nat} {own : Nat → Prop} {g bm : Nat} {vw vb vl : Value} {M : MS} (h : MemTo w w' B (fun k => own k ∨ w.heap.size ≤ k) g bm vw vb vl M) : MemNext w w' B own g M := by
  obtain ⟨vo, hm, hk, hb⟩ := h
  exact ⟨⟨_, ⟨⟨_, _, _, _, _, hm.bound⟩, fun k hk => hk.2⟩, fun k hk => hk.1⟩, ⟨hk.1, fun i hi hn => hk.2 i hi (fun hs => hs.elim hn (fun h => by omega))⟩, hb⟩
theorem MemC.below {w w' : World} {B : Nat} {own : Nat → Prop} {g : Nat} {M : MS} (h : MemC w B own g M) (hb : Below w.heap.size w w') : MemC w' B own g M := ⟨h.1.below hb, fun k hk => Nat.lt_of_lt_of_le (h.2 k hk) hb.size⟩
theorem MemC.kept {w w' : World} {B : Nat} {own S : Nat → Prop} {g : Nat} {M : MS} (h : MemC w B own g M) (hk : Kept w w' S) (hne : ∀ k, own k → ¬ S k) : MemC w' B own g M := ⟨h.1.kept hk hne, fun k ho => Nat.lt_of_lt_of_le (h.2 k ho) hk.1⟩
theorem MemC.size {w : World} {B : Nat} {own : Nat → Prop} {g : Nat} {M : MS} (h : MemC w B own g M) : B ≤ w.heap.size := by
  obtain ⟨bm, vw, vb, vl, vo, h⟩ := h.1
  exact Nat.le_trans h.bg (Nat.le_of_lt (blk_lt h.hg))
theorem New_C (a b c : Nat) (ha : a ≤ 65536) (hb : b ≤ 65536) (hc : c ≤ 65536) (W : World) :
    Calls Try.prog 30 #[.int .i64 a, .int .i64 b, .int .i64 c] W fun e w' => ∃ g own, e = .returned (.tuple #[.pointer (some ⟨g, 0, none⟩), .int .i64 0]) ∧ MemC w' W.heap.size own g ⟨List.replicate a 0, List.replicate b [], List.replicate c (-1), fun _ => none, 0, []⟩ ∧ (∀ k, own k → W.heap.size ≤ k) ∧ Below W.heap.size W w' := by
  refine (New_ok a b c ha hb hc W).mono ?_
  rintro e w' ⟨g, rfl, ⟨bm, vw, vb, vl, vo, hm⟩, hb⟩
  exact ⟨g, _, rfl, ⟨⟨_, _, _, _, _, hm.bound⟩, fun k hk => hk.2⟩, fun k hk => hk.1, hb⟩
section
variable {w : World} {B : Nat} {own : Nat → Prop} {g : Nat} {M : MS}
theorem Asleep_C (who : Int) (hwho : (Lit.int .i64 who).wf = true) (h : MemC w B own g M) : Calls Try.prog 44 #[.pointer (some ⟨g, 0, none⟩), .int .i64 who] w fun e w' => e = .returned (.bool (M.beds who).isSome) ∧ w' = w := by
  obtain ⟨bm, vw, vb, vl, vo, h⟩ := h.1
  exact Asleep_V who hwho w h
theorem Time_C (h : MemC w B own g M) : Calls Try.prog 43 #[.pointer (some ⟨g, 0, none⟩)] w fun e w' => e = .returned (.int .i64 (M.log.length : Int)) ∧ w' = w := by
  obtain ⟨bm, vw, vb, vl, vo, h⟩ := h.1
  exact Time_V w h
theorem Log_C (h : MemC w B own g M) (hlog : M.log.length ≤ 1000000) : Calls Try.prog 48 #[.pointer (some ⟨g, 0, none⟩)] w fun e w' => ∃ v, e = .returned v ∧ Kd.R k128 128 w' w.heap.size (fun _ => True) v M.log ∧ Below w.heap.size w w' := by
  obtain ⟨bm, vw, vb, vl, vo, h⟩ := h.1
  exact Log_V w h hlog
theorem Store_C (who at_ : Int) (v : Int) (hwho : (Lit.int .i64 who).wf = true) (h : MemC w B own g M) (hlog : M.log.length ≤ 1000000) : Calls Try.prog 32 #[.pointer (some ⟨g, 0, none⟩), .int .i64 who, .int .i64 at_, .int .u64 v] w fun e w' => e = .returned (.tuple #[]) ∧ MemNext w w' B own g (M.store who at_ v) := by
  obtain ⟨bm, vw, vb, vl, vo, h⟩ := h.grown
  refine (Store_V who at_ v hwho w h (fun k hk => .inr hk) hlog).mono ?_
  rintro e w' ⟨rfl, hm⟩
  exact ⟨rfl, hm.next⟩
theorem Load_C (who at_ : Int) (hwho : (Lit.int .i64 who).wf = true) (h : MemC w B own g M) (hlog : M.log.length ≤ 1000000) : Calls Try.prog 36 #[.pointer (some ⟨g, 0, none⟩), .int .i64 who, .int .i64 at_] w fun e w' => e = .returned (.int .u64 (M.load who at_)) ∧ MemNext w w' B own g (M.loadTo who at_) := by
  obtain ⟨bm, vw, vb, vl, vo, h⟩ := h.grown
  refine (Load_V who at_ hwho w h (fun k hk => .inr hk) hlog).mono ?_
  rintro e w' ⟨rfl, hm⟩
  exact ⟨rfl, hm.next⟩
theorem Get_C (who at_ : Int) (hwho : (Lit.int .i64 who).wf = true) (h : MemC w B own g M) (hlog : M.log.length ≤ 1000000) (hbox : ∀ b ∈ M.boxes, b.length ≤ 1000000) : Calls Try.prog 39 #[.pointer (some ⟨g, 0, none⟩), .int .i64 who, .int .i64 at_] w fun e w' => ∃ v own', e = .returned v ∧ Kd.R k143 143 w' w.heap.size (fun k => ¬ own' k) v (M.get who at_) ∧ (MemC w' B own' g (M.getTo who at_) ∧ ∀ k, own' k → own k ∨ w.heap.size ≤ k) ∧ Kept w w' own ∧ Below B w w' := by
  obtain ⟨bm, vw, vb, vl, vo, h⟩ := h.grown
  refine (Get_V who at_ hwho w h (fun k hk => .inr hk) hlog hbox).mono ?_
  rintro e w' ⟨v, N, rfl, hN, hR, ⟨vo', hm⟩, hk, hb⟩
  have hm2 := hm.bound
  exact ⟨v, _, rfl, Kd.R_lower (Kd.R_mono (Kd.R_bound hR) (fun k hk hn => by have h1 := hk.2.1; have h2 := hn.1.2; omega)) hN, ⟨⟨⟨_, _, _, _, _, hm2⟩, fun k hk => hk.2⟩, fun k hk => hk.1.1⟩, ⟨hk.1, fun i hi hn => hk.2 i hi (fun hs => hs.elim hn (fun h => by omega))⟩, hb⟩
theorem Set_C (who at_ : Int) (hwho : (Lit.int .i64 who).wf = true) (A : Option Addr) (c : Nat) (b : List S143) (h : MemC w B own g M) (hlog : M.log.length ≤ 1000000) (hC : Kd.F k143 w (fun k => ¬ own k ∧ k < w.heap.size) A b.length b) (hc : b.length ≤ c) (hbl : b.length ≤ 1000000) : Calls Try.prog 34 #[.pointer (some ⟨g, 0, none⟩), .int .i64 who, .int .i64 at_, .slice A b.length c] w fun e w' => e = .returned (.tuple #[]) ∧ MemNext w w' B own g (M.set_ who at_ b) := by
  obtain ⟨bm, vw, vb, vl, vo, h⟩ := h.grown
  refine (Set_V who at_ hwho A c b w h (fun k hk => .inr hk) hlog (Kd.F_mono hC (fun k hk hn => hn.elim hk.1 (fun h => by have := hk.2; omega))) hc hbl).mono ?_
  rintro e w' ⟨rfl, hm⟩
  exact ⟨rfl, hm.next⟩
end
set_option maxRecDepth 100000
structure RC where
  gm : Nat
  box : Int
  size : Int
  wi : Int
  ci : Int
  ai : Value
  wo : Int
  co : Int
  ao : Value
def RC.cells (R : RC) : Array Value := #[.pointer (some ⟨R.gm, 0, none⟩), .int .i64 R.box, .int .i64 R.size, .int .i64 R.wi, .int .u64 R.ci, R.ai, .int .i64 R.wo, .int .u64 R.co, R.ao]
structure AC where
  who : Int
  out : Bool
  st : Value
  b : Value
  ok : Bool
  mark : Int
def AC.own (A : AC) : Nat := if A.out then 6 else 3
def AC.far (A : AC) : Nat := if A.out then 3 else 6
def AC.cells (A : AC) (gr : Nat) : Array Value := #[.pointer (some ⟨gr, 0, none⟩), .int .i64 A.who, .pointer (some ⟨gr, A.own, none⟩), .pointer (some ⟨gr, A.far, none⟩), A.st, A.b, .bool A.ok, .int .i64 A.mark]
def stg (f : Nat) : Value := .func (.func f) #[] #[]
def ActAt (w : World) (gr na : Nat) (A : AC) : Prop := w.heap[na]? = some (.cells (A.cells gr) 157 (0, 0))
def RingAt (w : World) (gr : Nat) (R : RC) : Prop := w.heap[gr]? = some (.cells R.cells 154 (0, 0))
theorem eql_nil (W : World) : Sem.run Try.prog (binOp BinOp.eql 155 Value.nilFunc Value.nilFunc) W = .ok (.bool true) W := by kernel_rfl
theorem eql_func (f : Nat) (W : World) : Sem.run Try.prog (binOp BinOp.eql 155 (.func (.func f) #[] #[]) Value.nilFunc) W = .ok (.bool false) W := by kernel_rfl
theorem Over_nil (W : World) : Calls Try.prog 57 #[.pointer none] W fun e w' => e = .returned (.bool true) ∧ w' = W := by
  go_enter Try.func57, Try.ntmps57
  go_wp2
  go_ret
  exact ⟨rfl, rfl⟩
section
variable {W : World} {gr na : Nat} {R : RC} {A : AC}
theorem ActAt.cell (h : ActAt W gr na A) : W.cell? ⟨na, 0, none⟩ = some (.pointer (some ⟨gr, 0, none⟩)) ∧ W.cell? ⟨na, 1, none⟩ = some (.int .i64 A.who) ∧ W.cell? ⟨na, 2, none⟩ = some (.pointer (some ⟨gr, A.own, none⟩)) ∧ W.cell? ⟨na, 3, none⟩ = some (.pointer (some ⟨gr, A.far, none⟩)) ∧ W.cell? ⟨na, 4, none⟩ = some A.st ∧ W.cell? ⟨na, 5, none⟩ = some A.b ∧ W.cell? ⟨na, 6, none⟩ = some (.bool A.ok) ∧ W.cell? ⟨na, 7, none⟩ = some (.int .i64 A.mark) := by
  refine ⟨?_, ?_, ?_, ?_, ?_, ?_, ?_, ?_⟩ <;> (rw [blk_cell h]; rfl)
theorem RingAt.cell (h : RingAt W gr R) : W.cell? ⟨gr, 0, none⟩ = some (.pointer (some ⟨R.gm, 0, none⟩)) ∧ W.cell? ⟨gr, 1, none⟩ = some (.int .i64 R.box) ∧ W.cell? ⟨gr, 2, none⟩ = some (.int .i64 R.size) ∧ W.cell? ⟨gr, 3, none⟩ = some (.int .i64 R.wi) ∧ W.cell? ⟨gr, 4, none⟩ = some (.int .u64 R.ci) ∧ W.cell? ⟨gr, 5, none⟩ = some R.ai ∧ W.cell? ⟨gr, 6, none⟩ = some (.int .i64 R.wo) ∧ W.cell? ⟨gr, 7, none⟩ = some (.int .u64 R.co) ∧ W.cell? ⟨gr, 8, none⟩ = some R.ao := by
  refine ⟨?_, ?_, ?_, ?_, ?_, ?_, ?_, ?_, ?_⟩ <;> (rw [blk_cell h]; rfl)
theorem Over_done (h : ActAt W gr na A) (hs : A.st = .nilFunc) : Calls Try.prog 57 #[.pointer (some ⟨na, 0, none⟩)] W fun e w' => e = .returned (.bool true) ∧ w' = W := by
  obtain ⟨-, -, -, -, hx4, -⟩ := h.cell
  rw [hs] at hx4
  have hrun := eql_nil W
  go_enter Try.func57, Try.ntmps57
  go_wp2
  go_ret
  exact ⟨rfl, rfl⟩
theorem Over_on (h : ActAt W gr na A) {f : Nat} (hs : A.st = stg f) : Calls Try.prog 57 #[.pointer (some ⟨na, 0, none⟩)] W fun e w' => e = .returned (.bool false) ∧ w' = W := by
  obtain ⟨-, -, -, -, hx4, -⟩ := h.cell
  rw [hs] at hx4
  unfold stg at hx4
  have hrun := eql_func f W
  go_enter Try.func57, Try.ntmps57
  go_wp2
  go_ret
  exact ⟨rfl, rfl⟩
theorem Ok_C (h : ActAt W gr na A) : Calls Try.prog 60 #[.pointer (some ⟨na, 0, none⟩)] W fun e w' => e = .returned (.bool A.ok) ∧ w' = W := by
  obtain ⟨-, -, -, -, -, -, hx6, -⟩ := h.cell
  go_enter Try.func60, Try.ntmps60
  go_wp2
  go_ret
  exact ⟨rfl, rfl⟩
theorem Mark_C (h : ActAt W gr na A) : Calls Try.prog 62 #[.pointer (some ⟨na, 0, none⟩)] W fun e w' => e = .returned (.int .i64 A.mark) ∧ w' = W := by
  obtain ⟨-, -, -, -, -, -, -, hx7⟩ := h.cell
  go_enter Try.func62, Try.ntmps62
  go_wp2
  go_ret
  exact ⟨rfl, rfl⟩
theorem done_C (h : ActAt W gr na A) (ok : Bool) : Calls Try.prog 112 #[.pointer (some ⟨na, 0, none⟩), .bool ok] W fun e w' => e = .returned (.tuple #[]) ∧ ActAt w' gr na { A with st := .nilFunc, ok := ok } ∧ Kept W w' (fun k => k = na) ∧ ∀ B, B ≤ na → Below B W w' := by
  obtain ⟨-, -, -, -, hx4, -, hx6, -⟩ := h.cell
  have hz4 := blk_frozen h 4
  have hz6 := blk_frozen h 6
  have H := Aside0.mk h
  clear h
  go_enter Try.func112, Try.ntmps112
  go_wp2
  ((try simp only [Exit.inBlock, Exit.then]); first | refine bodyPost_ret (results_none rfl _ _ _) rfl ?_ | refine bodyPost_end (results_none rfl _ _ _) rfl ?_)
  refine ⟨rfl, ?_, ((Kept.refl W (fun k => k = na)).setCell (p := ⟨na, 6, none⟩) (.inl rfl) _).setCell (p := ⟨na, 4, none⟩) (.inl rfl) _, fun B hB => ((Below.refl B W).setCell (p := ⟨na, 6, none⟩) hB _).setCell (p := ⟨na, 4, none⟩) hB _⟩
  exact blk_put (blk_put H.out 6 _ rfl) 4 _ rfl
end
set_option maxRecDepth 100000
def AC.cnt (A : AC) (R : RC) : Int := if A.out then R.co else R.ci
def RC.place (R : RC) (c : Int) : Int := R.box + c % R.size
structure RC.Fit (R : RC) : Prop where
  sz : R.size = 1 ∨ R.size = 2 ∨ R.size = 4 ∨ R.size = 8 ∨ R.size = 16
  bx : 0 ≤ R.box ∧ R.box ≤ 1000000
  ci : 0 ≤ R.ci ∧ R.ci < 18446744073709551616
  co : 0 ≤ R.co ∧ R.co < 18446744073709551616
theorem and_size {s c : Int} (hs : s = 1 ∨ s = 2 ∨ s = 4 ∨ s = 8 ∨ s = 16) (h0 : 0 ≤ c) (h1 : c < 18446744073709551616) : bits .and .u64 c (s - 1) = c % s := by
  have key : ∀ m : Nat, m ≤ 64 → bits .and .u64 c ((2 : Int) ^ m - 1) = c % (2 : Int) ^ m := fun m hm => by
    have h := bits_mask .u64 64 (by decide) wraps_u64 m hm c h0 (by omega)
    exact_mod_cast h
  rcases hs with rfl | rfl | rfl | rfl | rfl
  · exact key 0 (by omega)
  · exact key 1 (by omega)
  · exact key 2 (by omega)
  · exact key 3 (by omega)
  · exact key 4 (by omega)
theorem RC.Fit.nums {R : RC} (h : R.Fit) {c : Int} (h0 : 0 ≤ c) (h1 : c < 18446744073709551616) : IntKind.i64.wrap (R.size - 1) = R.size - 1 ∧ IntKind.u64.wrap (R.size - 1) = R.size - 1 ∧ bits .and .u64 c (R.size - 1) = c % R.size ∧ IntKind.i64.wrap (c % R.size) = c % R.size ∧ IntKind.i64.wrap (R.box + c % R.size) = R.place c ∧ 0 ≤ c % R.size ∧ c % R.size < R.size ∧ R.size ≤ 16 ∧ 1 ≤ R.size := by
  have hs := h.sz
  have hb := h.bx
  have s1 : 1 ≤ R.size ∧ R.size ≤ 16 := by omega
  have m0 := Int.emod_nonneg c (show R.size ≠ 0 by omega)
  have m1 := Int.emod_lt_of_pos c (show 0 < R.size by omega)
  refine ⟨?_, ?_, and_size hs h0 h1, ?_, ?_, m0, m1, s1.2, s1.1⟩
  · rw [IntKind.wrap_i64]; omega
  · rw [IntKind.wrap_u64]; omega
  · rw [IntKind.wrap_i64]; omega
  · unfold RC.place; rw [IntKind.wrap_i64]; omega
section
variable {W : World} {gr na : Nat} {R : RC} {A : AC}
theorem place_C (h : ActAt W gr na A) (hr : RingAt W gr R) (hf : R.Fit) : Calls Try.prog 122 #[.pointer (some ⟨na, 0, none⟩)] W fun e w' => e = .returned (.int .i64 (R.place (A.cnt R))) ∧ w' = W.drew := by
  obtain ⟨hx0, -, hx2, -⟩ := h.cell
  obtain ⟨-, hy1, hy2, -, hy4, -, -, hy7, -⟩ := hr.cell
  have hc : 0 ≤ A.cnt R ∧ A.cnt R < 18446744073709551616 := by unfold AC.cnt; split; exact hf.co; exact hf.ci
  obtain ⟨n1, n2, n3, n4, n5, -⟩ := hf.nums hc.1 hc.2
  clear h hr hf hc
  unfold AC.cnt at n3 n4 n5 ⊢
  unfold AC.own at hx2
  cases ho : A.out
  · rw [ho] at hx2 n3 n4 n5
    simp only [Bool.false_eq_true, if_false] at hx2 n3 n4 n5
    simp only [Bool.false_eq_true, if_false]
    go_enter Try.func122, Try.ntmps122
    go_upto_region 1 with fail
    go_region_held3 (fun w' => w'.cell? ⟨na, 0, none⟩ = some (.pointer (some ⟨gr, 0, none⟩)) ∧ w'.cell? ⟨na, 2, none⟩ = some (.pointer (some ⟨gr, 3, none⟩)) ∧ w'.cell? ⟨gr, 1, none⟩ = some (.int .i64 R.box) ∧ w'.cell? ⟨gr, 2, none⟩ = some (.int .i64 R.size) ∧ w'.cell? ⟨gr, 4, none⟩ = some (.int .u64 R.ci))
      (exact ⟨hx0, hx2, hy1, hy2, hy4⟩) (fail)
    all_goals
      go_wp2
      go_ret
      exact ⟨rfl, rfl⟩
  · rw [ho] at hx2 n3 n4 n5
    simp only [if_true] at hx2 n3 n4 n5
    simp only [if_true]
    go_enter Try.func122, Try.ntmps122
    go_upto_region 1 with fail
    go_region_held3 (fun w' => w'.cell? ⟨na, 0, none⟩ = some (.pointer (some ⟨gr, 0, none⟩)) ∧ w'.cell? ⟨na, 2, none⟩ = some (.pointer (some ⟨gr, 6, none⟩)) ∧ w'.cell? ⟨gr, 1, none⟩ = some (.int .i64 R.box) ∧ w'.cell? ⟨gr, 2, none⟩ = some (.int .i64 R.size) ∧ w'.cell? ⟨gr, 7, none⟩ = some (.int .u64 R.co))
      (exact ⟨hx0, hx2, hy1, hy2, hy7⟩) (fail)
    all_goals
      go_wp2
      go_ret
      exact ⟨rfl, rfl⟩
end
set_option maxRecDepth 100000
theorem cell_eq' {w w' : World} {k i : Nat} (h : w'.heap[k]? = w.heap[k]?) : w'.cell? ⟨k, i, none⟩ = w.cell? ⟨k, i, none⟩ := by
  unfold World.cell?
  simp only [h]
structure RG (w : World) (B : Nat) (own : Nat → Prop) (gr na : Nat) (M : MS) (R : RC) (A : AC) (bl : List S143) : Prop where
  mem : MemC w B own R.gm M
  ring : RingAt w gr R
  act : ActAt w gr na A
  fit : R.Fit
  r1 : ¬ own gr
  a1 : ¬ own na
  ne : gr ≠ na
  gB : B ≤ gr
  aB : B ≤ na
  bx : ∃ Ab cb, A.b = .slice Ab bl.length cb ∧ bl.length ≤ cb ∧ Kd.F k143 w (fun k => ¬ own k ∧ k ≠ gr ∧ k ≠ na ∧ k < w.heap.size) Ab bl.length bl
def RGTo (w w' : World) (B : Nat) (own : Nat → Prop) (gr na : Nat) (M : MS) (R : RC) (A : AC) (bl : List S143) : Prop :=
  ∃ own', RG w' B own' gr na M R A bl ∧ (∀ k, own' k → own k ∨ w.heap.size ≤ k) ∧ Kept w w' (fun k => own k ∨ k = gr ∨ k = na) ∧ Below B w w'
section
variable {w w' w2 : World} {B : Nat} {own own' : Nat → Prop} {gr na : Nat} {M M' : MS} {R R' : RC} {A A' : AC} {bl bl' : List S143}
theorem RG.below (h : RG w B own gr na M R A bl) (hb : Below w.heap.size w w') : RG w' B own gr na M R A bl := by
  obtain ⟨Ab, cb, e1, e2, e3⟩ := h.bx
  exact ⟨h.mem.below hb, (hb.block gr (blk_lt h.ring)).trans h.ring, (hb.block na (blk_lt h.act)).trans h.act, h.fit, h.r1, h.a1, h.ne, h.gB, h.aB, Ab, cb, e1, e2, Kd.F_mono (Kd.F_step e3 (fun k _ hlt => hb.block k hlt)) (fun k ho => ⟨ho.1, ho.2.1, ho.2.2.1, Nat.lt_of_lt_of_le ho.2.2.2 hb.size⟩)⟩
theorem RG.next (h : RG w B own gr na M R A bl) (hc : MemC w' B own' R.gm M') (hs : ∀ k, own' k → own k ∨ w.heap.size ≤ k) (hk : Kept w w' own) : RG w' B own' gr na M' R A bl := by
  obtain ⟨Ab, cb, e1, e2, e3⟩ := h.bx
  have q1 := blk_lt h.ring
  have q2 := blk_lt h.act
  exact ⟨hc, (hk.2 gr q1 h.r1).trans h.ring, (hk.2 na q2 h.a1).trans h.act, h.fit, fun ho => (hs gr ho).elim h.r1 (fun hl => by omega), fun ho => (hs na ho).elim h.a1 (fun hl => by omega), h.ne, h.gB, h.aB, Ab, cb, e1, e2,
    Kd.F_mono (Kd.F_step e3 (fun k ho hlt => hk.2 k hlt ho.1)) (fun k ho => ⟨fun h2 => (hs k h2).elim ho.1 (fun hl => by have := ho.2.2.2; omega), ho.2.1, ho.2.2.1, Nat.lt_of_lt_of_le ho.2.2.2 hk.1⟩)⟩
theorem RG.turn (h : RG w B own gr na M R A bl) (hk : Kept w w' (fun k => k = na)) (ha : ActAt w' gr na A') (hb : A'.b = A.b) : RG w' B own gr na M R A' bl := by
  obtain ⟨Ab, cb, e1, e2, e3⟩ := h.bx
  exact ⟨h.mem.kept hk (fun k ho e => h.a1 (e ▸ ho)), (hk.2 gr (blk_lt h.ring) h.ne).trans h.ring, ha, h.fit, h.r1, h.a1, h.ne, h.gB, h.aB, Ab, cb, hb.trans e1, e2,
    Kd.F_mono (Kd.F_step e3 (fun k ho hlt => hk.2 k hlt ho.2.2.1)) (fun k ho => ⟨ho.1, ho.2.1, ho.2.2.1, Nat.lt_of_lt_of_le ho.2.2.2 hk.1⟩)⟩
theorem RG.ringTurn (h : RG w B own gr na M R A bl) (hk : Kept w w' (fun k => k = gr)) (hr : RingAt w' gr R') (hf : R'.Fit) (hg : R'.gm = R.gm) : RG w' B own gr na M R' A bl := by
  obtain ⟨Ab, cb, e1, e2, e3⟩ := h.bx
  exact ⟨by rw [hg]; exact h.mem.kept hk (fun k ho e => h.r1 (e ▸ ho)), hr, (hk.2 na (blk_lt h.act) (fun e => h.ne e.symm)).trans h.act, hf, h.r1, h.a1, h.ne, h.gB, h.aB, Ab, cb, e1, e2,
    Kd.F_mono (Kd.F_step e3 (fun k ho hlt => hk.2 k hlt ho.2.1)) (fun k ho => ⟨ho.1, ho.2.1, ho.2.2.1, Nat.lt_of_lt_of_le ho.2.2.2 hk.1⟩)⟩
theorem kept_or {p q : Nat → Prop} (h : Kept w w' p) (h2 : ∀ k, p k → q k) : Kept w w' q := ⟨h.1, fun i hi hn => h.2 i hi (fun hp => hn (h2 i hp))⟩
theorem kept_trans {p : Nat → Prop} (h : Kept w w' p) (h2 : Kept w' w2 (fun k => p k ∨ w.heap.size ≤ k)) : Kept w w2 p := ⟨Nat.le_trans h.1 h2.1, fun i hi hn => (h2.2 i (Nat.lt_of_lt_of_le hi h.1) (fun hp => hp.elim hn (fun hl => by omega))).trans (h.2 i hi hn)⟩
theorem RGTo.nextM (h : RG w B own gr na M R A bl) (hn : MemNext w w' B own R.gm M') : RGTo w w' B own gr na M' R A bl := by
  obtain ⟨⟨own', hc, hs⟩, hk, hb⟩ := hn
  exact ⟨own', h.next hc hs hk, hs, kept_or hk (fun k => .inl), hb⟩
theorem RGTo.turn (h : RGTo w w' B own gr na M R A bl) (hk : Kept w' w2 (fun k => k = na)) (hb : Below B w' w2) (ha : ActAt w2 gr na A') (hbb : A'.b = A.b) : RGTo w w2 B own gr na M R A' bl := by
  obtain ⟨own', h1, hs, hk1, hb1⟩ := h
  exact ⟨own', h1.turn hk ha hbb, hs, kept_trans hk1 (kept_or hk (fun k e => .inl (.inr (.inr e)))), hb1.trans hb⟩
theorem RGTo.of_below (h : RG w B own gr na M R A bl) (hb : Below w.heap.size w w') (h2 : RGTo w' w2 B own gr na M' R' A' bl') : RGTo w w2 B own gr na M' R' A' bl' := by
  obtain ⟨own', h3, hs, hk, hb2⟩ := h2
  refine ⟨own', h3, fun k ho => (hs k ho).imp id (Nat.le_trans hb.size), ⟨Nat.le_trans hb.size hk.1, fun i hi hn => (hk.2 i (Nat.lt_of_lt_of_le hi hb.size) hn).trans (hb.block i hi)⟩, (below_then (Below.refl B w) h.mem.size hb).trans hb2⟩
theorem RG.self (h : RG w B own gr na M R A bl) : RGTo w w B own gr na M R A bl := ⟨own, h, fun k => .inl, Kept.refl _ _, Below.refl _ _⟩
end
section
variable {W : World} {B : Nat} {own : Nat → Prop} {gr na : Nat} {M : MS} {R : RC} {A : AC} {bl : List S143}
theorem room_C (full : Bool) (h : RG W B own gr na M R A bl) (ho : A.out = false) (hwho : (Lit.int .i64 A.who).wf = true) (hlog : M.log.length ≤ 1000000) (hd : decide (R.size ≤ IntKind.u64.wrap (R.ci - M.load A.who R.wo)) = full) :
    Calls Try.prog 95 #[.pointer (some ⟨na, 0, none⟩)] W fun e w' => e = .returned (.tuple #[]) ∧ RGTo W w' B own gr na (M.loadTo A.who R.wo) R (if full then { A with st := .nilFunc, ok := false } else { A with st := stg 114 }) bl := by
  obtain ⟨hx0, hx1, hx2, hx3, hx4, -, -, -⟩ := h.act.cell
  obtain ⟨hy0, -, hy2, -, hy4, -, hy6, -, -⟩ := h.ring.cell
  unfold AC.own at hx2
  unfold AC.far at hx3
  rw [ho] at hx2 hx3
  simp only [Bool.false_eq_true, if_false] at hx2 hx3
  have ns : IntKind.u64.wrap R.size = R.size := by have := h.fit.sz; rw [IntKind.wrap_u64]; omega
  have H := Aside0.mk h
  have H1 := Aside0.mk (h.below (below_drew (Below.refl _ W)))
  have HW := Aside0.mk (show _ ∧ _ from ⟨hwho, hlog⟩)
  obtain ⟨ld, hld⟩ : ∃ ld, M.load A.who R.wo = ld := ⟨_, rfl⟩
  have LC0 := Load_C A.who R.wo HW.out.1 H1.out.mem HW.out.2
  rw [hld] at hd LC0
  have LC := Aside0.mk LC0
  clear h hwho hlog hld LC0 ho
  go_enter Try.func95, Try.ntmps95
  go_upto_region 0 with fail
  go_region_held3 (fun w' => w'.cell? ⟨na, 0, none⟩ = some (.pointer (some ⟨gr, 0, none⟩)) ∧ w'.cell? ⟨na, 1, none⟩ = some (.int .i64 A.who) ∧ w'.cell? ⟨na, 2, none⟩ = some (.pointer (some ⟨gr, 3, none⟩)) ∧ w'.cell? ⟨na, 3, none⟩ = some (.pointer (some ⟨gr, 6, none⟩)) ∧ w'.cell? ⟨gr, 0, none⟩ = some (.pointer (some ⟨R.gm, 0, none⟩)) ∧ w'.cell? ⟨gr, 2, none⟩ = some (.int .i64 R.size) ∧ w'.cell? ⟨gr, 4, none⟩ = some (.int .u64 R.ci) ∧ w'.cell? ⟨gr, 6, none⟩ = some (.int .i64 R.wo))
    (first | exact ⟨hx0, hx1, hx2, hx3, hy0, hy2, hy4, hy6⟩ | exact hN5)
    (first | (go_at_call 36; ((with_reducible refine LC.out.mono ?_); rintro e w5 ⟨rfl, hn⟩; have hN5 : w5.cell? ⟨na, 0, none⟩ = some (.pointer (some ⟨gr, 0, none⟩)) ∧ w5.cell? ⟨na, 1, none⟩ = some (.int .i64 A.who) ∧ w5.cell? ⟨na, 2, none⟩ = some (.pointer (some ⟨gr, 3, none⟩)) ∧ w5.cell? ⟨na, 3, none⟩ = some (.pointer (some ⟨gr, 6, none⟩)) ∧ w5.cell? ⟨gr, 0, none⟩ = some (.pointer (some ⟨R.gm, 0, none⟩)) ∧ w5.cell? ⟨gr, 2, none⟩ = some (.int .i64 R.size) ∧ w5.cell? ⟨gr, 4, none⟩ = some (.int .u64 R.ci) ∧ w5.cell? ⟨gr, 6, none⟩ = some (.int .i64 R.wo) := ⟨(cell_eq' (hn.2.1.2 na (blk_lt H1.out.act) H1.out.a1)).trans hx0, (cell_eq' (hn.2.1.2 na (blk_lt H1.out.act) H1.out.a1)).trans hx1, (cell_eq' (hn.2.1.2 na (blk_lt H1.out.act) H1.out.a1)).trans hx2, (cell_eq' (hn.2.1.2 na (blk_lt H1.out.act) H1.out.a1)).trans hx3, (cell_eq' (hn.2.1.2 gr (blk_lt H1.out.ring) H1.out.r1)).trans hy0, (cell_eq' (hn.2.1.2 gr (blk_lt H1.out.ring) H1.out.r1)).trans hy2, (cell_eq' (hn.2.1.2 gr (blk_lt H1.out.ring) H1.out.r1)).trans hy4, (cell_eq' (hn.2.1.2 gr (blk_lt H1.out.ring) H1.out.r1)).trans hy6⟩; have HN := Aside0.mk (RGTo.nextM H1.out hn); clear hn)))
  all_goals
    have HT := Aside0.mk (RGTo.of_below H.out (below_drew (Below.refl _ W)) HN.out)
    obtain ⟨own1, hrg, hs1, hk1, hb1⟩ := HT.out
    have HG := Aside0.mk hrg
    have hq4 := hrg.act.cell.2.2.2.2.1
    have hqz := blk_frozen hrg.act 4
    clear hrg hs1 hk1 hb1
    cases full
    · go_wp2
      ((try simp only [Exit.inBlock, Exit.then]); first | refine bodyPost_ret (results_none rfl _ _ _) rfl ?_ | refine bodyPost_end (results_none rfl _ _ _) rfl ?_)
      exact ⟨rfl, HT.out.turn ((Kept.refl _ (fun k => k = na)).setCell (p := ⟨na, 4, none⟩) (.inl rfl) _) ((Below.refl B _).setCell (p := ⟨na, 4, none⟩) HG.out.aB _) (blk_put HG.out.act 4 _ rfl) rfl⟩
    · go_wp2_with (first | (go_at_call 112; ((with_reducible refine (done_C HG.out.act false).mono ?_); rintro e w6 ⟨rfl, ha, hk, hb⟩; have HD := Aside0.mk (show _ ∧ _ ∧ _ from ⟨ha, hk, hb B HG.out.aB⟩); clear ha hk hb)))
      ((try simp only [Exit.inBlock, Exit.then]); first | refine bodyPost_ret (results_none rfl _ _ _) rfl ?_ | refine bodyPost_end (results_none rfl _ _ _) rfl ?_)
      exact ⟨rfl, HT.out.turn HD.out.2.1 HD.out.2.2 HD.out.1 rfl⟩
end
set_option maxRecDepth 100000
section
variable {w w' w2 : World} {B : Nat} {own own' : Nat → Prop} {gr na : Nat} {M M' : MS} {R R' : RC} {A A' : AC} {bl bl' : List S143}
theorem RG.turnB (h : RG w B own gr na M R A bl) (hk : Kept w w' (fun k => k = na)) (ha : ActAt w' gr na A') (hb : ∃ Ab cb, A'.b = .slice Ab bl'.length cb ∧ bl'.length ≤ cb ∧ Kd.F k143 w' (fun k => ¬ own k ∧ k ≠ gr ∧ k ≠ na ∧ k < w'.heap.size) Ab bl'.length bl') : RG w' B own gr na M R A' bl' :=
  ⟨h.mem.kept hk (fun k ho e => h.a1 (e ▸ ho)), (hk.2 gr (blk_lt h.ring) h.ne).trans h.ring, ha, h.fit, h.r1, h.a1, h.ne, h.gB, h.aB, hb⟩
theorem RGTo.turnB (h : RGTo w w' B own gr na M R A bl) (hk : Kept w' w2 (fun k => k = na)) (hb : Below B w' w2) (ha : ActAt w2 gr na A') (hbb : ∀ own', RG w' B own' gr na M R A bl → ∃ Ab cb, A'.b = .slice Ab bl'.length cb ∧ bl'.length ≤ cb ∧ Kd.F k143 w2 (fun k => ¬ own' k ∧ k ≠ gr ∧ k ≠ na ∧ k < w2.heap.size) Ab bl'.length bl') : RGTo w w2 B own gr na M R A' bl' := by
  obtain ⟨own', h1, hs, hk1, hb1⟩ := h
  exact ⟨own', h1.turnB hk ha (hbb own' h1), hs, kept_trans hk1 (kept_or hk (fun k e => .inl (.inr (.inr e)))), hb1.trans hb⟩
theorem RGTo.ofRing (h : RG w B own gr na M R A bl) (hk : Kept w w' (fun k => k = gr)) (hb : Below B w w') (h2 : RGTo w' w2 B own gr na M' R' A' bl') : RGTo w w2 B own gr na M' R' A' bl' := by
  obtain ⟨own', h3, hs, hk2, hb2⟩ := h2
  exact ⟨own', h3, fun k ho => (hs k ho).imp id (Nat.le_trans hk.1), kept_trans (kept_or hk (fun k e => .inr (.inl e))) (kept_or hk2 (fun k => .inl)), hb.trans hb2⟩
theorem wrapu (x : Int) : 0 ≤ IntKind.u64.wrap x ∧ IntKind.u64.wrap x < 18446744073709551616 := by rw [IntKind.wrap_u64]; omega
theorem RGTo.trans (h : RGTo w w' B own gr na M R A bl) (h2 : ∀ own', RG w' B own' gr na M R A bl → RGTo w' w2 B own' gr na M' R' A' bl') : RGTo w w2 B own gr na M' R' A' bl' := by
  obtain ⟨own', h1, hs, hk, hb⟩ := h
  obtain ⟨own2, h3, hs3, hk3, hb3⟩ := h2 own' h1
  refine ⟨own2, h3, fun k ho => (hs3 k ho).elim (hs k) (fun hl => .inr (Nat.le_trans hk.1 hl)), kept_trans hk (kept_or hk3 (fun k e => ?_)), hb.trans hb3⟩
  rcases e with e | e
  · exact (hs k e).imp .inl id
  · exact .inl (.inr e)
end
section
variable {W : World} {B : Nat} {own : Nat → Prop} {gr na : Nat} {M : MS} {R : RC} {A : AC} {bl : List S143}
theorem some_C (emp : Bool) (h : RG W B own gr na M R A bl) (ho : A.out = true) (hwho : (Lit.int .i64 A.who).wf = true) (hlog : M.log.length ≤ 1000000) (hd : (M.load A.who R.wi == R.co) = emp) :
    Calls Try.prog 94 #[.pointer (some ⟨na, 0, none⟩)] W fun e w' => e = .returned (.tuple #[]) ∧ RGTo W w' B own gr na (M.loadTo A.who R.wi) R (if emp then { A with st := .nilFunc, ok := false } else { A with st := stg 113 }) bl := by
  obtain ⟨hx0, hx1, hx2, hx3, hx4, hx5, hx6, hx7⟩ := h.act.cell
  obtain ⟨hy0, hy1, hy2, hy3, hy4, hy5, hy6, hy7, hy8⟩ := h.ring.cell
  unfold AC.own at hx2
  unfold AC.far at hx3
  rw [ho] at hx2 hx3
  simp only [if_true] at hx2 hx3
  have H := Aside0.mk h
  have H1 := Aside0.mk (h.below (below_drew (Below.refl _ W)))
  obtain ⟨ld, hld⟩ : ∃ ld, M.load A.who R.wi = ld := ⟨_, rfl⟩
  have LC0 := Load_C A.who R.wi hwho H1.out.mem hlog
  rw [hld] at hd LC0
  have LC := Aside0.mk LC0
  clear h hwho hlog hld LC0 ho hx4 hx5 hx6 hx7 hy1 hy2 hy4 hy5 hy6 hy8
  go_enter Try.func94, Try.ntmps94
  go_upto_region 0 with fail
  go_region_held3 (fun w' => w'.cell? ⟨na, 0, none⟩ = some (.pointer (some ⟨gr, 0, none⟩)) ∧ w'.cell? ⟨na, 1, none⟩ = some (.int .i64 A.who) ∧ w'.cell? ⟨na, 2, none⟩ = some (.pointer (some ⟨gr, 6, none⟩)) ∧ w'.cell? ⟨na, 3, none⟩ = some (.pointer (some ⟨gr, 3, none⟩)) ∧ w'.cell? ⟨gr, 0, none⟩ = some (.pointer (some ⟨R.gm, 0, none⟩)) ∧ w'.cell? ⟨gr, 3, none⟩ = some (.int .i64 R.wi) ∧ w'.cell? ⟨gr, 7, none⟩ = some (.int .u64 R.co))
    (first | exact ⟨hx0, hx1, hx2, hx3, hy0, hy3, hy7⟩ | exact hN5)
    (first | (go_at_call 36; ((with_reducible refine LC.out.mono ?_); rintro e w5 ⟨rfl, hn⟩; have hN5 : w5.cell? ⟨na, 0, none⟩ = some (.pointer (some ⟨gr, 0, none⟩)) ∧ w5.cell? ⟨na, 1, none⟩ = some (.int .i64 A.who) ∧ w5.cell? ⟨na, 2, none⟩ = some (.pointer (some ⟨gr, 6, none⟩)) ∧ w5.cell? ⟨na, 3, none⟩ = some (.pointer (some ⟨gr, 3, none⟩)) ∧ w5.cell? ⟨gr, 0, none⟩ = some (.pointer (some ⟨R.gm, 0, none⟩)) ∧ w5.cell? ⟨gr, 3, none⟩ = some (.int .i64 R.wi) ∧ w5.cell? ⟨gr, 7, none⟩ = some (.int .u64 R.co) := ⟨(cell_eq' (hn.2.1.2 na (blk_lt H1.out.act) H1.out.a1)).trans hx0, (cell_eq' (hn.2.1.2 na (blk_lt H1.out.act) H1.out.a1)).trans hx1, (cell_eq' (hn.2.1.2 na (blk_lt H1.out.act) H1.out.a1)).trans hx2, (cell_eq' (hn.2.1.2 na (blk_lt H1.out.act) H1.out.a1)).trans hx3, (cell_eq' (hn.2.1.2 gr (blk_lt H1.out.ring) H1.out.r1)).trans hy0, (cell_eq' (hn.2.1.2 gr (blk_lt H1.out.ring) H1.out.r1)).trans hy3, (cell_eq' (hn.2.1.2 gr (blk_lt H1.out.ring) H1.out.r1)).trans hy7⟩; have HN := Aside0.mk (RGTo.nextM H1.out hn); clear hn)))
  all_goals
    have HT := Aside0.mk (RGTo.of_below H.out (below_drew (Below.refl _ W)) HN.out)
    obtain ⟨own1, hrg, hs1, hk1, hb1⟩ := HT.out
    have HG := Aside0.mk hrg
    have hq4 := hrg.act.cell.2.2.2.2.1
    have hqz := blk_frozen hrg.act 4
    clear hrg hs1 hk1 hb1
    cases emp
    · go_wp2
      ((try simp only [Exit.inBlock, Exit.then]); first | refine bodyPost_ret (results_none rfl _ _ _) rfl ?_ | refine bodyPost_end (results_none rfl _ _ _) rfl ?_)
      exact ⟨rfl, HT.out.turn ((Kept.refl _ (fun k => k = na)).setCell (p := ⟨na, 4, none⟩) (.inl rfl) _) ((Below.refl B _).setCell (p := ⟨na, 4, none⟩) HG.out.aB _) (blk_put HG.out.act 4 _ rfl) rfl⟩
    · go_wp2_with (first | (go_at_call 112; ((with_reducible refine (done_C HG.out.act false).mono ?_); rintro e w6 ⟨rfl, ha, hk, hb⟩; have HD := Aside0.mk (show _ ∧ _ ∧ _ from ⟨ha, hk, hb B HG.out.aB⟩); clear ha hk hb)))
      ((try simp only [Exit.inBlock, Exit.then]); first | refine bodyPost_ret (results_none rfl _ _ _) rfl ?_ | refine bodyPost_end (results_none rfl _ _ _) rfl ?_)
      exact ⟨rfl, HT.out.turn HD.out.2.1 HD.out.2.2 HD.out.1 rfl⟩
theorem lay_C (h : RG W B own gr na M R A bl) (hwho : (Lit.int .i64 A.who).wf = true) (hlog : M.log.length ≤ 1000000) (hbl : bl.length ≤ 1000000) :
    Calls Try.prog 114 #[.pointer (some ⟨na, 0, none⟩)] W fun e w' => e = .returned (.tuple #[]) ∧ RGTo W w' B own gr na (M.set_ A.who (R.place (A.cnt R)) bl) R { A with st := stg 123 } bl := by
  obtain ⟨hx0, hx1, hx2, hx3, hx4, hx5, hx6, hx7⟩ := h.act.cell
  obtain ⟨hy0, hy1, hy2, hy3, hy4, hy5, hy6, hy7, hy8⟩ := h.ring.cell
  have H := Aside0.mk h
  have H1 := Aside0.mk (h.below (below_drew (Below.refl _ W)))
  have H2 := Aside0.mk (H1.out.below (below_drew (Below.refl _ W.drew)))
  have PL := Aside0.mk (place_C H1.out.act H1.out.ring H1.out.fit)
  obtain ⟨Ab, cb, eb, hcb, hF⟩ := H2.out.bx
  rw [eb] at hx5
  have SC := Aside0.mk (Set_C A.who (R.place (A.cnt R)) hwho Ab cb bl H2.out.mem hlog (Kd.F_mono hF (fun k hk => ⟨hk.1, hk.2.2.2⟩)) hcb hbl)
  clear h hwho hlog hbl hF eb hcb hx2 hx3 hx4 hx6 hx7 hy1 hy2 hy3 hy4 hy5 hy6 hy7 hy8
  go_enter Try.func114, Try.ntmps114
  go_upto_region 0 with fail
  go_region_held3 (fun w' => w'.cell? ⟨na, 0, none⟩ = some (.pointer (some ⟨gr, 0, none⟩)) ∧ w'.cell? ⟨na, 1, none⟩ = some (.int .i64 A.who) ∧ w'.cell? ⟨na, 5, none⟩ = some (.slice Ab bl.length cb) ∧ w'.cell? ⟨gr, 0, none⟩ = some (.pointer (some ⟨R.gm, 0, none⟩)))
    (first | exact ⟨hx0, hx1, hx5, hy0⟩ | exact hN5)
    (first | (go_at_call 122; ((with_reducible refine PL.out.mono ?_); rintro e w4 ⟨rfl, rfl⟩)) | (go_at_call 34; ((with_reducible refine SC.out.mono ?_); rintro e w5 ⟨rfl, hn⟩; have hN5 : w5.cell? ⟨na, 0, none⟩ = some (.pointer (some ⟨gr, 0, none⟩)) ∧ w5.cell? ⟨na, 1, none⟩ = some (.int .i64 A.who) ∧ w5.cell? ⟨na, 5, none⟩ = some (.slice Ab bl.length cb) ∧ w5.cell? ⟨gr, 0, none⟩ = some (.pointer (some ⟨R.gm, 0, none⟩)) := ⟨(cell_eq' (hn.2.1.2 na (blk_lt H2.out.act) H2.out.a1)).trans hx0, (cell_eq' (hn.2.1.2 na (blk_lt H2.out.act) H2.out.a1)).trans hx1, (cell_eq' (hn.2.1.2 na (blk_lt H2.out.act) H2.out.a1)).trans hx5, (cell_eq' (hn.2.1.2 gr (blk_lt H2.out.ring) H2.out.r1)).trans hy0⟩; have HN := Aside0.mk (RGTo.nextM H2.out hn); clear hn)))
  all_goals
    have HT := Aside0.mk (RGTo.of_below H.out ((below_drew (Below.refl _ W)).trans (below_drew (Below.refl _ W.drew))) HN.out)
    obtain ⟨own1, hrg, hs1, hk1, hb1⟩ := HT.out
    have HG := Aside0.mk hrg
    have hq4 := hrg.act.cell.2.2.2.2.1
    have hqz := blk_frozen hrg.act 4
    clear hrg hs1 hk1 hb1
    go_wp2
    ((try simp only [Exit.inBlock, Exit.then]); first | refine bodyPost_ret (results_none rfl _ _ _) rfl ?_ | refine bodyPost_end (results_none rfl _ _ _) rfl ?_)
    exact ⟨rfl, HT.out.turn ((Kept.refl _ (fun k => k = na)).setCell (p := ⟨na, 4, none⟩) (.inl rfl) _) ((Below.refl B _).setCell (p := ⟨na, 4, none⟩) HG.out.aB _) (blk_put HG.out.act 4 _ rfl) rfl⟩
theorem fetch_C (h : RG W B own gr na M R A bl) (hwho : (Lit.int .i64 A.who).wf = true) (hlog : M.log.length ≤ 1000000) (hbox : ∀ b ∈ M.boxes, b.length ≤ 1000000) :
    Calls Try.prog 113 #[.pointer (some ⟨na, 0, none⟩)] W fun e w' => e = .returned (.tuple #[]) ∧ ∃ v, RGTo W w' B own gr na (M.getTo A.who (R.place (A.cnt R))) R { A with b := v, st := stg 123 } (M.get A.who (R.place (A.cnt R))) := by
  obtain ⟨hx0, hx1, hx2, hx3, hx4, hx5, hx6, hx7⟩ := h.act.cell
  obtain ⟨hy0, hy1, hy2, hy3, hy4, hy5, hy6, hy7, hy8⟩ := h.ring.cell
  have H := Aside0.mk h
  have H1 := Aside0.mk (h.below (below_drew (Below.refl _ W)))
  have H2 := Aside0.mk (H1.out.below (below_drew (Below.refl _ W.drew)))
  have PL := Aside0.mk (place_C H1.out.act H1.out.ring H1.out.fit)
  have GC := Aside0.mk (Get_C A.who (R.place (A.cnt R)) hwho H2.out.mem hlog hbox)
  clear h hwho hlog hbox hx2 hx3 hx4 hx5 hx6 hx7 hy1 hy2 hy3 hy4 hy5 hy6 hy7 hy8
  go_enter Try.func113, Try.ntmps113
  go_upto_region 0 with fail
  go_region_held3 (fun w' => w'.cell? ⟨na, 0, none⟩ = some (.pointer (some ⟨gr, 0, none⟩)) ∧ w'.cell? ⟨na, 1, none⟩ = some (.int .i64 A.who) ∧ w'.cell? ⟨gr, 0, none⟩ = some (.pointer (some ⟨R.gm, 0, none⟩)))
    (first | exact ⟨hx0, hx1, hy0⟩ | exact hN6 | exact hN5)
    (first | (go_at_call 122; ((with_reducible refine PL.out.mono ?_); rintro e w4 ⟨rfl, rfl⟩)) | (go_at_call 39; ((with_reducible refine GC.out.mono ?_); rintro e w5 ⟨v5, own5, rfl, hr5, ⟨hc5, hs5⟩, hk5, hb5⟩; obtain ⟨A5, n5, c5, rfl⟩ := R_any hr5; have HG5 := Aside0.mk (H2.out.next hc5 hs5 hk5); have HR5 := Aside0.mk hr5; have HK5 := Aside0.mk (show _ ∧ _ ∧ _ from ⟨hs5, hk5, hb5⟩); have hz5 := blk_frozen HG5.out.act 5; have hz4 := blk_frozen HG5.out.act 4; have hw5 := HG5.out.act.cell.2.2.2.2.2.1; have hw4 := HG5.out.act.cell.2.2.2.2.1; have hN5 : w5.cell? ⟨na, 0, none⟩ = some (.pointer (some ⟨gr, 0, none⟩)) ∧ w5.cell? ⟨na, 1, none⟩ = some (.int .i64 A.who) ∧ w5.cell? ⟨gr, 0, none⟩ = some (.pointer (some ⟨R.gm, 0, none⟩)) := ⟨HG5.out.act.cell.1, HG5.out.act.cell.2.1, HG5.out.ring.cell.1⟩; have hN6 : (w5.setCell ⟨na, 5, none⟩ (.slice A5 n5 c5)).cell? ⟨na, 0, none⟩ = some (.pointer (some ⟨gr, 0, none⟩)) ∧ (w5.setCell ⟨na, 5, none⟩ (.slice A5 n5 c5)).cell? ⟨na, 1, none⟩ = some (.int .i64 A.who) ∧ (w5.setCell ⟨na, 5, none⟩ (.slice A5 n5 c5)).cell? ⟨gr, 0, none⟩ = some (.pointer (some ⟨R.gm, 0, none⟩)) := ⟨(blk_cell (blk_set HG5.out.act 5 _) 0).trans rfl, (blk_cell (blk_set HG5.out.act 5 _) 1).trans rfl, (blk_cell (blk_far HG5.out.ring HG5.out.ne _) 0).trans rfl⟩; clear hr5 hc5 hs5 hk5 hb5)))
  all_goals
    have e5 := (Kd.R_reads' HR5.out).1
    subst e5
    go_wp2
    ((try simp only [Exit.inBlock, Exit.then]); first | refine bodyPost_ret (results_none rfl _ _ _) rfl ?_ | refine bodyPost_end (results_none rfl _ _ _) rfl ?_)
    refine ⟨rfl, .slice A5 (M.get A.who (R.place (A.cnt R))).length c5, ?_⟩
    have hb2 : Below W.heap.size W W.drew.drew := (below_drew (Below.refl _ W)).trans (below_drew (Below.refl _ W.drew))
    have hka : Kept w5 ((w5.setCell ⟨na, 5, none⟩ (.slice A5 (M.get A.who (R.place (A.cnt R))).length c5)).setCell ⟨na, 4, none⟩ (stg 123)) (fun k => k = na) := ((Kept.refl _ (fun k => k = na)).setCell (p := ⟨na, 5, none⟩) (.inl rfl) _).setCell (p := ⟨na, 4, none⟩) (.inl rfl) _
    have hF := Kd.R_F (Kd.R_mono (Kd.R_bound HR5.out) (ok' := fun k => ¬ own5 k ∧ k ≠ gr ∧ k ≠ na ∧ k < w5.heap.size) (fun k hk => by
      have h1 := hk.2.1
      have h2 := blk_lt H2.out.ring
      have h3 := blk_lt H2.out.act
      exact ⟨hk.1, by omega, by omega, hk.2.2.1⟩))
    exact RGTo.of_below H.out hb2 ⟨own5, HG5.out.turnB hka (blk_put (blk_put HG5.out.act 5 _ rfl) 4 _ rfl) ⟨A5, c5, rfl, (Kd.R_reads' HR5.out).2.1, Kd.F_mono (Kd.F_step hF (fun k ho hlt => hka.2 k hlt ho.2.2.1)) (fun k ho => ⟨ho.1, ho.2.1, ho.2.2.1, Nat.lt_of_lt_of_le ho.2.2.2 hka.1⟩)⟩, HK5.out.1, kept_trans (kept_or HK5.out.2.1 (fun k => .inl)) (kept_or hka (fun k e => .inl (.inr (.inr e)))), HK5.out.2.2.trans (((Below.refl B _).setCell (p := ⟨na, 5, none⟩) HG5.out.aB _).setCell (p := ⟨na, 4, none⟩) HG5.out.aB _)⟩
theorem tell_in (h : RG W B own gr na M R A bl) (ho : A.out = false) (hwho : (Lit.int .i64 A.who).wf = true) (hlog : M.log.length ≤ 1000000) :
    Calls Try.prog 123 #[.pointer (some ⟨na, 0, none⟩)] W fun e w' => e = .returned (.tuple #[]) ∧ RGTo W w' B own gr na (M.store A.who R.wi (IntKind.u64.wrap (R.ci + 1))) { R with ci := IntKind.u64.wrap (R.ci + 1) } { A with st := .nilFunc, ok := true } bl := by
  obtain ⟨hx0, hx1, hx2, hx3, hx4, hx5, hx6, hx7⟩ := h.act.cell
  obtain ⟨hy0, hy1, hy2, hy3, hy4, hy5, hy6, hy7, hy8⟩ := h.ring.cell
  unfold AC.own at hx2
  unfold AC.far at hx3
  rw [ho] at hx2 hx3
  simp only [Bool.false_eq_true, if_false] at hx2 hx3
  have H := Aside0.mk h
  have hzc := blk_frozen h.ring 4
  have HR := Aside0.mk (show RingAt (W.setCell ⟨gr, 4, none⟩ (.int .u64 (IntKind.u64.wrap (R.ci + 1)))) gr { R with ci := IntKind.u64.wrap (R.ci + 1) } from blk_put h.ring 4 _ rfl)
  have HK := Aside0.mk ((Kept.refl W (fun k => k = gr)).setCell (p := ⟨gr, 4, none⟩) (.inl rfl) (.int .u64 (IntKind.u64.wrap (R.ci + 1))))
  have HB := Aside0.mk ((Below.refl B W).setCell (p := ⟨gr, 4, none⟩) h.gB (.int .u64 (IntKind.u64.wrap (R.ci + 1))))
  have HO := Aside0.mk ho
  have HW := Aside0.mk (show _ ∧ _ from ⟨hwho, hlog⟩)
  have hfit : RC.Fit { R with ci := IntKind.u64.wrap (R.ci + 1) } := ⟨h.fit.sz, h.fit.bx, wrapu _, h.fit.co⟩
  have HFT := Aside0.mk hfit
  clear h hwho hlog ho hfit
  clear hx3 hx4 hx5 hx6 hx7 hy1 hy2 hy5 hy8
  go_enter Try.func123, Try.ntmps123
  go_upto_region 1 with fail
  generalize World.setCell _ _ _ = w1 at HR HK HB ⊢
  have H1 := Aside0.mk (H.out.ringTurn HK.out HR.out HFT.out rfl)
  clear hx0 hx1 hx2 hy0 hy3 hy4 hy6 hy7 hzc
  obtain ⟨hx0, hx1, hx2, -⟩ := H1.out.act.cell
  obtain ⟨hy0, -, -, hy3, hy4, -, hy6, hy7, -⟩ := H1.out.ring.cell
  replace hx2 : w1.cell? ⟨na, 2, none⟩ = some (.pointer (some ⟨gr, 3, none⟩)) := by rw [hx2]; unfold AC.own; rw [HO.out]; rfl
  have H2 := Aside0.mk (H1.out.below (below_drew (Below.refl _ w1)))
  have SC := Aside0.mk (Store_C A.who R.wi (IntKind.u64.wrap (R.ci + 1)) HW.out.1 H2.out.mem HW.out.2)
  go_region_held3 (fun w' => w'.cell? ⟨na, 0, none⟩ = some (.pointer (some ⟨gr, 0, none⟩)) ∧ w'.cell? ⟨na, 1, none⟩ = some (.int .i64 A.who) ∧ w'.cell? ⟨na, 2, none⟩ = some (.pointer (some ⟨gr, 3, none⟩)) ∧ w'.cell? ⟨gr, 0, none⟩ = some (.pointer (some ⟨R.gm, 0, none⟩)) ∧ w'.cell? ⟨gr, 3, none⟩ = some (.int .i64 R.wi) ∧ w'.cell? ⟨gr, 4, none⟩ = some (.int .u64 (IntKind.u64.wrap (R.ci + 1))))
    (first | exact ⟨hx0, hx1, hx2, hy0, hy3, hy4⟩ | exact hN5)
    (first | (go_at_call 32; ((with_reducible refine SC.out.mono ?_); rintro e w5 ⟨rfl, hn⟩; have hN5 : w5.cell? ⟨na, 0, none⟩ = some (.pointer (some ⟨gr, 0, none⟩)) ∧ w5.cell? ⟨na, 1, none⟩ = some (.int .i64 A.who) ∧ w5.cell? ⟨na, 2, none⟩ = some (.pointer (some ⟨gr, 3, none⟩)) ∧ w5.cell? ⟨gr, 0, none⟩ = some (.pointer (some ⟨R.gm, 0, none⟩)) ∧ w5.cell? ⟨gr, 3, none⟩ = some (.int .i64 R.wi) ∧ w5.cell? ⟨gr, 4, none⟩ = some (.int .u64 (IntKind.u64.wrap (R.ci + 1))) := ⟨(cell_eq' (hn.2.1.2 na (blk_lt H2.out.act) H2.out.a1)).trans hx0, (cell_eq' (hn.2.1.2 na (blk_lt H2.out.act) H2.out.a1)).trans hx1, (cell_eq' (hn.2.1.2 na (blk_lt H2.out.act) H2.out.a1)).trans hx2, (cell_eq' (hn.2.1.2 gr (blk_lt H2.out.ring) H2.out.r1)).trans hy0, (cell_eq' (hn.2.1.2 gr (blk_lt H2.out.ring) H2.out.r1)).trans hy3, (cell_eq' (hn.2.1.2 gr (blk_lt H2.out.ring) H2.out.r1)).trans hy4⟩; have HN := Aside0.mk (RGTo.nextM H2.out hn); clear hn)))
  all_goals
    have HT := Aside0.mk (RGTo.ofRing H.out HK.out HB.out (RGTo.of_below H1.out (below_drew (Below.refl _ w1)) HN.out))
    obtain ⟨own1, hrg, hs1, hk1, hb1⟩ := HT.out
    have HG := Aside0.mk hrg
    clear hrg hs1 hk1 hb1
    go_wp2_with (first | (go_at_call 112; ((with_reducible refine (done_C HG.out.act true).mono ?_); rintro e w6 ⟨rfl, ha, hk, hb⟩; have HD := Aside0.mk (show _ ∧ _ ∧ _ from ⟨ha, hk, hb B HG.out.aB⟩); clear ha hk hb)))
    ((try simp only [Exit.inBlock, Exit.then]); first | refine bodyPost_ret (results_none rfl _ _ _) rfl ?_ | refine bodyPost_end (results_none rfl _ _ _) rfl ?_)
    exact ⟨rfl, HT.out.turn HD.out.2.1 HD.out.2.2 HD.out.1 rfl⟩
theorem tell_out (h : RG W B own gr na M R A bl) (ho : A.out = true) (hwho : (Lit.int .i64 A.who).wf = true) (hlog : M.log.length ≤ 1000000) :
    Calls Try.prog 123 #[.pointer (some ⟨na, 0, none⟩)] W fun e w' => e = .returned (.tuple #[]) ∧ RGTo W w' B own gr na (M.store A.who R.wo (IntKind.u64.wrap (R.co + 1))) { R with co := IntKind.u64.wrap (R.co + 1) } { A with st := .nilFunc, ok := true } bl := by
  obtain ⟨hx0, hx1, hx2, hx3, hx4, hx5, hx6, hx7⟩ := h.act.cell
  obtain ⟨hy0, hy1, hy2, hy3, hy4, hy5, hy6, hy7, hy8⟩ := h.ring.cell
  unfold AC.own at hx2
  unfold AC.far at hx3
  rw [ho] at hx2 hx3
  simp only [if_true] at hx2 hx3
  have H := Aside0.mk h
  have hzc := blk_frozen h.ring 7
  have HR := Aside0.mk (show RingAt (W.setCell ⟨gr, 7, none⟩ (.int .u64 (IntKind.u64.wrap (R.co + 1)))) gr { R with co := IntKind.u64.wrap (R.co + 1) } from blk_put h.ring 7 _ rfl)
  have HK := Aside0.mk ((Kept.refl W (fun k => k = gr)).setCell (p := ⟨gr, 7, none⟩) (.inl rfl) (.int .u64 (IntKind.u64.wrap (R.co + 1))))
  have HB := Aside0.mk ((Below.refl B W).setCell (p := ⟨gr, 7, none⟩) h.gB (.int .u64 (IntKind.u64.wrap (R.co + 1))))
  have HO := Aside0.mk ho
  have HW := Aside0.mk (show _ ∧ _ from ⟨hwho, hlog⟩)
  have hfit : RC.Fit { R with co := IntKind.u64.wrap (R.co + 1) } := ⟨h.fit.sz, h.fit.bx, h.fit.ci, wrapu _⟩
  have HFT := Aside0.mk hfit
  clear h hwho hlog ho hfit
  clear hx3 hx4 hx5 hx6 hx7 hy1 hy2 hy5 hy8
  go_enter Try.func123, Try.ntmps123
  go_upto_region 1 with fail
  generalize World.setCell _ _ _ = w1 at HR HK HB ⊢
  have H1 := Aside0.mk (H.out.ringTurn HK.out HR.out HFT.out rfl)
  clear hx0 hx1 hx2 hy0 hy3 hy4 hy6 hy7 hzc
  obtain ⟨hx0, hx1, hx2, -⟩ := H1.out.act.cell
  obtain ⟨hy0, -, -, hy3, hy4, -, hy6, hy7, -⟩ := H1.out.ring.cell
  replace hx2 : w1.cell? ⟨na, 2, none⟩ = some (.pointer (some ⟨gr, 6, none⟩)) := by rw [hx2]; unfold AC.own; rw [HO.out]; rfl
  have H2 := Aside0.mk (H1.out.below (below_drew (Below.refl _ w1)))
  have SC := Aside0.mk (Store_C A.who R.wo (IntKind.u64.wrap (R.co + 1)) HW.out.1 H2.out.mem HW.out.2)
  go_region_held3 (fun w' => w'.cell? ⟨na, 0, none⟩ = some (.pointer (some ⟨gr, 0, none⟩)) ∧ w'.cell? ⟨na, 1, none⟩ = some (.int .i64 A.who) ∧ w'.cell? ⟨na, 2, none⟩ = some (.pointer (some ⟨gr, 6, none⟩)) ∧ w'.cell? ⟨gr, 0, none⟩ = some (.pointer (some ⟨R.gm, 0, none⟩)) ∧ w'.cell? ⟨gr, 6, none⟩ = some (.int .i64 R.wo) ∧ w'.cell? ⟨gr, 7, none⟩ = some (.int .u64 (IntKind.u64.wrap (R.co + 1))))
    (first | exact ⟨hx0, hx1, hx2, hy0, hy6, hy7⟩ | exact hN5)
    (first | (go_at_call 32; ((with_reducible refine SC.out.mono ?_); rintro e w5 ⟨rfl, hn⟩; have hN5 : w5.cell? ⟨na, 0, none⟩ = some (.pointer (some ⟨gr, 0, none⟩)) ∧ w5.cell? ⟨na, 1, none⟩ = some (.int .i64 A.who) ∧ w5.cell? ⟨na, 2, none⟩ = some (.pointer (some ⟨gr, 6, none⟩)) ∧ w5.cell? ⟨gr, 0, none⟩ = some (.pointer (some ⟨R.gm, 0, none⟩)) ∧ w5.cell? ⟨gr, 6, none⟩ = some (.int .i64 R.wo) ∧ w5.cell? ⟨gr, 7, none⟩ = some (.int .u64 (IntKind.u64.wrap (R.co + 1))) := ⟨(cell_eq' (hn.2.1.2 na (blk_lt H2.out.act) H2.out.a1)).trans hx0, (cell_eq' (hn.2.1.2 na (blk_lt H2.out.act) H2.out.a1)).trans hx1, (cell_eq' (hn.2.1.2 na (blk_lt H2.out.act) H2.out.a1)).trans hx2, (cell_eq' (hn.2.1.2 gr (blk_lt H2.out.ring) H2.out.r1)).trans hy0, (cell_eq' (hn.2.1.2 gr (blk_lt H2.out.ring) H2.out.r1)).trans hy6, (cell_eq' (hn.2.1.2 gr (blk_lt H2.out.ring) H2.out.r1)).trans hy7⟩; have HN := Aside0.mk (RGTo.nextM H2.out hn); clear hn)))
  all_goals
    have HT := Aside0.mk (RGTo.ofRing H.out HK.out HB.out (RGTo.of_below H1.out (below_drew (Below.refl _ w1)) HN.out))
    obtain ⟨own1, hrg, hs1, hk1, hb1⟩ := HT.out
    have HG := Aside0.mk hrg
    clear hrg hs1 hk1 hb1
    go_wp2_with (first | (go_at_call 112; ((with_reducible refine (done_C HG.out.act true).mono ?_); rintro e w6 ⟨rfl, ha, hk, hb⟩; have HD := Aside0.mk (show _ ∧ _ ∧ _ from ⟨ha, hk, hb B HG.out.aB⟩); clear ha hk hb)))
    ((try simp only [Exit.inBlock, Exit.then]); first | refine bodyPost_ret (results_none rfl _ _ _) rfl ?_ | refine bodyPost_end (results_none rfl _ _ _) rfl ?_)
    exact ⟨rfl, HT.out.turn HD.out.2.1 HD.out.2.2 HD.out.1 rfl⟩
end
set_option maxRecDepth 100000
section
variable {W : World} {B : Nat} {own : Nat → Prop} {gr na : Nat} {M M' : MS} {R R' : RC} {A A' : AC} {bl bl' : List S143}
theorem Step95e (h : RG W B own gr na M R A bl) (hs : A.st = stg 95) (hsl : (M.beds A.who).isSome = false) (hwho : (Lit.int .i64 A.who).wf = true) (hs2 : A'.st = .nilFunc)
    (hstep : ∀ W1, RG W1 B own gr na M R A bl → Calls Try.prog 95 #[.pointer (some ⟨na, 0, none⟩)] W1 fun e w' => e = .returned (.tuple #[]) ∧ ∃ v, RGTo W1 w' B own gr na M' R' { A' with b := v } bl') :
    Calls Try.prog 78 #[.pointer (some ⟨na, 0, none⟩)] W fun e w' => e = .returned (.bool true) ∧ ∃ v, RGTo W w' B own gr na M' R' { A' with b := v, mark := (M'.log.length : Int) } bl' := by
  obtain ⟨hx0, hx1, -, -, hx4, -, -, -⟩ := h.act.cell
  obtain ⟨hy0, -, -, -, -, -, -, -, -⟩ := h.ring.cell
  have H := Aside0.mk h
  have H1 := Aside0.mk (h.below (below_drew (Below.refl _ W)))
  have OV := Aside0.mk (Over_on H1.out.act hs)
  have AS0 := Asleep_C A.who hwho H1.out.mem
  rw [hsl] at AS0
  have ASL := Aside0.mk AS0
  have ST := Aside0.mk (hstep W.drew H1.out)
  have HS2 := Aside0.mk hs2
  rw [hs] at hx4
  unfold stg at hx4
  clear h hsl hwho AS0 hstep hs hs2
  go_enter Try.func78, Try.ntmps78
  go_upto_region 1 with fail
  go_region_held3 (fun w' => w'.cell? ⟨na, 0, none⟩ = some (.pointer (some ⟨gr, 0, none⟩)) ∧ w'.cell? ⟨na, 1, none⟩ = some (.int .i64 A.who) ∧ w'.cell? ⟨gr, 0, none⟩ = some (.pointer (some ⟨R.gm, 0, none⟩)))
    (exact ⟨hx0, hx1, hy0⟩)
    (first | (go_at_call 57; ((with_reducible refine OV.out.mono ?_); rintro e w4 ⟨rfl, rfl⟩)) | (go_at_call 44; ((with_reducible refine ASL.out.mono ?_); rintro e w4 ⟨rfl, rfl⟩)))
  all_goals
    go_upto_region 4 with (first | (go_at_call 95; ((with_reducible refine ST.out.mono ?_); rintro e w5 ⟨rfl, v, hT⟩; have HT := Aside0.mk (RGTo.of_below H.out (below_drew (Below.refl _ W)) hT); clear hT)))
    obtain ⟨own1, hrg, hs1, hk1, hb1⟩ := HT.out
    have HG := Aside0.mk hrg
    clear hx0 hx1 hx4 hy0
    have hx0 := hrg.act.cell.1
    have hx4 := hrg.act.cell.2.2.2.2.1
    have hx7 := hrg.act.cell.2.2.2.2.2.2.2
    have hz7 := blk_frozen hrg.act 7
    have hy0 := hrg.ring.cell.1
    replace hx4 : w5.cell? ⟨na, 4, none⟩ = some (.nilFunc) := by rw [hx4]; exact congrArg some HS2.out
    clear hrg hs1 hk1 hb1
    have hrun := fun W : World => eql_nil W
    have TM := Aside0.mk (Time_C HG.out.mem)
    go_wp2_with (first | (go_at_call 43; ((with_reducible refine TM.out.mono ?_); rintro e w6 ⟨rfl, hw6⟩; obtain rfl : w5 = w6 := hw6.symm)))
    go_ret
    exact ⟨rfl, v, HT.out.turn ((Kept.refl _ (fun k => k = na)).setCell (p := ⟨na, 7, none⟩) (.inl rfl) _) ((Below.refl B _).setCell (p := ⟨na, 7, none⟩) HG.out.aB _) (blk_put HG.out.act 7 _ rfl) rfl⟩
theorem Step95 (h : RG W B own gr na M R A bl) (hs : A.st = stg 95) (hsl : (M.beds A.who).isSome = false) (hwho : (Lit.int .i64 A.who).wf = true) (hs2 : A'.st = stg 114)
    (hstep : ∀ W1, RG W1 B own gr na M R A bl → Calls Try.prog 95 #[.pointer (some ⟨na, 0, none⟩)] W1 fun e w' => e = .returned (.tuple #[]) ∧ ∃ v, RGTo W1 w' B own gr na M' R' { A' with b := v } bl') :
    Calls Try.prog 78 #[.pointer (some ⟨na, 0, none⟩)] W fun e w' => e = .returned (.bool false) ∧ ∃ v, RGTo W w' B own gr na M' R' { A' with b := v } bl' := by
  obtain ⟨hx0, hx1, -, -, hx4, -, -, -⟩ := h.act.cell
  obtain ⟨hy0, -, -, -, -, -, -, -, -⟩ := h.ring.cell
  have H := Aside0.mk h
  have H1 := Aside0.mk (h.below (below_drew (Below.refl _ W)))
  have OV := Aside0.mk (Over_on H1.out.act hs)
  have AS0 := Asleep_C A.who hwho H1.out.mem
  rw [hsl] at AS0
  have ASL := Aside0.mk AS0
  have ST := Aside0.mk (hstep W.drew H1.out)
  have HS2 := Aside0.mk hs2
  rw [hs] at hx4
  unfold stg at hx4
  clear h hsl hwho AS0 hstep hs hs2
  go_enter Try.func78, Try.ntmps78
  go_upto_region 1 with fail
  go_region_held3 (fun w' => w'.cell? ⟨na, 0, none⟩ = some (.pointer (some ⟨gr, 0, none⟩)) ∧ w'.cell? ⟨na, 1, none⟩ = some (.int .i64 A.who) ∧ w'.cell? ⟨gr, 0, none⟩ = some (.pointer (some ⟨R.gm, 0, none⟩)))
    (exact ⟨hx0, hx1, hy0⟩)
    (first | (go_at_call 57; ((with_reducible refine OV.out.mono ?_); rintro e w4 ⟨rfl, rfl⟩)) | (go_at_call 44; ((with_reducible refine ASL.out.mono ?_); rintro e w4 ⟨rfl, rfl⟩)))
  all_goals
    go_upto_region 4 with (first | (go_at_call 95; ((with_reducible refine ST.out.mono ?_); rintro e w5 ⟨rfl, v, hT⟩; have HT := Aside0.mk (RGTo.of_below H.out (below_drew (Below.refl _ W)) hT); clear hT)))
    obtain ⟨own1, hrg, hs1, hk1, hb1⟩ := HT.out
    have HG := Aside0.mk hrg
    clear hx0 hx1 hx4 hy0
    have hx0 := hrg.act.cell.1
    have hx4 := hrg.act.cell.2.2.2.2.1
    have hx7 := hrg.act.cell.2.2.2.2.2.2.2
    have hz7 := blk_frozen hrg.act 7
    have hy0 := hrg.ring.cell.1
    replace hx4 : w5.cell? ⟨na, 4, none⟩ = some (.func (.func 114) #[] #[]) := by rw [hx4]; exact congrArg some HS2.out
    clear hrg hs1 hk1 hb1
    have hrun := fun W : World => eql_func 114 W
    go_wp2
    go_ret
    exact ⟨rfl, v, HT.out⟩
theorem Step114 (h : RG W B own gr na M R A bl) (hs : A.st = stg 114) (hsl : (M.beds A.who).isSome = false) (hwho : (Lit.int .i64 A.who).wf = true) (hs2 : A'.st = stg 123)
    (hstep : ∀ W1, RG W1 B own gr na M R A bl → Calls Try.prog 114 #[.pointer (some ⟨na, 0, none⟩)] W1 fun e w' => e = .returned (.tuple #[]) ∧ ∃ v, RGTo W1 w' B own gr na M' R' { A' with b := v } bl') :
    Calls Try.prog 78 #[.pointer (some ⟨na, 0, none⟩)] W fun e w' => e = .returned (.bool false) ∧ ∃ v, RGTo W w' B own gr na M' R' { A' with b := v } bl' := by
  obtain ⟨hx0, hx1, -, -, hx4, -, -, -⟩ := h.act.cell
  obtain ⟨hy0, -, -, -, -, -, -, -, -⟩ := h.ring.cell
  have H := Aside0.mk h
  have H1 := Aside0.mk (h.below (below_drew (Below.refl _ W)))
  have OV := Aside0.mk (Over_on H1.out.act hs)
  have AS0 := Asleep_C A.who hwho H1.out.mem
  rw [hsl] at AS0
  have ASL := Aside0.mk AS0
  have ST := Aside0.mk (hstep W.drew H1.out)
  have HS2 := Aside0.mk hs2
  rw [hs] at hx4
  unfold stg at hx4
  clear h hsl hwho AS0 hstep hs hs2
  go_enter Try.func78, Try.ntmps78
  go_upto_region 1 with fail
  go_region_held3 (fun w' => w'.cell? ⟨na, 0, none⟩ = some (.pointer (some ⟨gr, 0, none⟩)) ∧ w'.cell? ⟨na, 1, none⟩ = some (.int .i64 A.who) ∧ w'.cell? ⟨gr, 0, none⟩ = some (.pointer (some ⟨R.gm, 0, none⟩)))
    (exact ⟨hx0, hx1, hy0⟩)
    (first | (go_at_call 57; ((with_reducible refine OV.out.mono ?_); rintro e w4 ⟨rfl, rfl⟩)) | (go_at_call 44; ((with_reducible refine ASL.out.mono ?_); rintro e w4 ⟨rfl, rfl⟩)))
  all_goals
    go_upto_region 4 with (first | (go_at_call 114; ((with_reducible refine ST.out.mono ?_); rintro e w5 ⟨rfl, v, hT⟩; have HT := Aside0.mk (RGTo.of_below H.out (below_drew (Below.refl _ W)) hT); clear hT)))
    obtain ⟨own1, hrg, hs1, hk1, hb1⟩ := HT.out
    have HG := Aside0.mk hrg
    clear hx0 hx1 hx4 hy0
    have hx0 := hrg.act.cell.1
    have hx4 := hrg.act.cell.2.2.2.2.1
    have hx7 := hrg.act.cell.2.2.2.2.2.2.2
    have hz7 := blk_frozen hrg.act 7
    have hy0 := hrg.ring.cell.1
    replace hx4 : w5.cell? ⟨na, 4, none⟩ = some (.func (.func 123) #[] #[]) := by rw [hx4]; exact congrArg some HS2.out
    clear hrg hs1 hk1 hb1
    have hrun := fun W : World => eql_func 123 W
    go_wp2
    go_ret
    exact ⟨rfl, v, HT.out⟩
theorem Step94e (h : RG W B own gr na M R A bl) (hs : A.st = stg 94) (hsl : (M.beds A.who).isSome = false) (hwho : (Lit.int .i64 A.who).wf = true) (hs2 : A'.st = .nilFunc)
    (hstep : ∀ W1, RG W1 B own gr na M R A bl → Calls Try.prog 94 #[.pointer (some ⟨na, 0, none⟩)] W1 fun e w' => e = .returned (.tuple #[]) ∧ ∃ v, RGTo W1 w' B own gr na M' R' { A' with b := v } bl') :
    Calls Try.prog 78 #[.pointer (some ⟨na, 0, none⟩)] W fun e w' => e = .returned (.bool true) ∧ ∃ v, RGTo W w' B own gr na M' R' { A' with b := v, mark := (M'.log.length : Int) } bl' := by
  obtain ⟨hx0, hx1, -, -, hx4, -, -, -⟩ := h.act.cell
  obtain ⟨hy0, -, -, -, -, -, -, -, -⟩ := h.ring.cell
  have H := Aside0.mk h
  have H1 := Aside0.mk (h.below (below_drew (Below.refl _ W)))
  have OV := Aside0.mk (Over_on H1.out.act hs)
  have AS0 := Asleep_C A.who hwho H1.out.mem
  rw [hsl] at AS0
  have ASL := Aside0.mk AS0
  have ST := Aside0.mk (hstep W.drew H1.out)
  have HS2 := Aside0.mk hs2
  rw [hs] at hx4
  unfold stg at hx4
  clear h hsl hwho AS0 hstep hs hs2
  go_enter Try.func78, Try.ntmps78
  go_upto_region 1 with fail
  go_region_held3 (fun w' => w'.cell? ⟨na, 0, none⟩ = some (.pointer (some ⟨gr, 0, none⟩)) ∧ w'.cell? ⟨na, 1, none⟩ = some (.int .i64 A.who) ∧ w'.cell? ⟨gr, 0, none⟩ = some (.pointer (some ⟨R.gm, 0, none⟩)))
    (exact ⟨hx0, hx1, hy0⟩)
    (first | (go_at_call 57; ((with_reducible refine OV.out.mono ?_); rintro e w4 ⟨rfl, rfl⟩)) | (go_at_call 44; ((with_reducible refine ASL.out.mono ?_); rintro e w4 ⟨rfl, rfl⟩)))
  all_goals
    go_upto_region 4 with (first | (go_at_call 94; ((with_reducible refine ST.out.mono ?_); rintro e w5 ⟨rfl, v, hT⟩; have HT := Aside0.mk (RGTo.of_below H.out (below_drew (Below.refl _ W)) hT); clear hT)))
    obtain ⟨own1, hrg, hs1, hk1, hb1⟩ := HT.out
    have HG := Aside0.mk hrg
    clear hx0 hx1 hx4 hy0
    have hx0 := hrg.act.cell.1
    have hx4 := hrg.act.cell.2.2.2.2.1
    have hx7 := hrg.act.cell.2.2.2.2.2.2.2
    have hz7 := blk_frozen hrg.act 7
    have hy0 := hrg.ring.cell.1
    replace hx4 : w5.cell? ⟨na, 4, none⟩ = some (.nilFunc) := by rw [hx4]; exact congrArg some HS2.out
    clear hrg hs1 hk1 hb1
    have hrun := fun W : World => eql_nil W
    have TM := Aside0.mk (Time_C HG.out.mem)
    go_wp2_with (first | (go_at_call 43; ((with_reducible refine TM.out.mono ?_); rintro e w6 ⟨rfl, hw6⟩; obtain rfl : w5 = w6 := hw6.symm)))
    go_ret
    exact ⟨rfl, v, HT.out.turn ((Kept.refl _ (fun k => k = na)).setCell (p := ⟨na, 7, none⟩) (.inl rfl) _) ((Below.refl B _).setCell (p := ⟨na, 7, none⟩) HG.out.aB _) (blk_put HG.out.act 7 _ rfl) rfl⟩
theorem Step94 (h : RG W B own gr na M R A bl) (hs : A.st = stg 94) (hsl : (M.beds A.who).isSome = false) (hwho : (Lit.int .i64 A.who).wf = true) (hs2 : A'.st = stg 113)
    (hstep : ∀ W1, RG W1 B own gr na M R A bl → Calls Try.prog 94 #[.pointer (some ⟨na, 0, none⟩)] W1 fun e w' => e = .returned (.tuple #[]) ∧ ∃ v, RGTo W1 w' B own gr na M' R' { A' with b := v } bl') :
    Calls Try.prog 78 #[.pointer (some ⟨na, 0, none⟩)] W fun e w' => e = .returned (.bool false) ∧ ∃ v, RGTo W w' B own gr na M' R' { A' with b := v } bl' := by
  obtain ⟨hx0, hx1, -, -, hx4, -, -, -⟩ := h.act.cell
  obtain ⟨hy0, -, -, -, -, -, -, -, -⟩ := h.ring.cell
  have H := Aside0.mk h
  have H1 := Aside0.mk (h.below (below_drew (Below.refl _ W)))
  have OV := Aside0.mk (Over_on H1.out.act hs)
  have AS0 := Asleep_C A.who hwho H1.out.mem
  rw [hsl] at AS0
  have ASL := Aside0.mk AS0
  have ST := Aside0.mk (hstep W.drew H1.out)
  have HS2 := Aside0.mk hs2
  rw [hs] at hx4
  unfold stg at hx4
  clear h hsl hwho AS0 hstep hs hs2
  go_enter Try.func78, Try.ntmps78
  go_upto_region 1 with fail
  go_region_held3 (fun w' => w'.cell? ⟨na, 0, none⟩ = some (.pointer (some ⟨gr, 0, none⟩)) ∧ w'.cell? ⟨na, 1, none⟩ = some (.int .i64 A.who) ∧ w'.cell? ⟨gr, 0, none⟩ = some (.pointer (some ⟨R.gm, 0, none⟩)))
    (exact ⟨hx0, hx1, hy0⟩)
    (first | (go_at_call 57; ((with_reducible refine OV.out.mono ?_); rintro e w4 ⟨rfl, rfl⟩)) | (go_at_call 44; ((with_reducible refine ASL.out.mono ?_); rintro e w4 ⟨rfl, rfl⟩)))
  all_goals
    go_upto_region 4 with (first | (go_at_call 94; ((with_reducible refine ST.out.mono ?_); rintro e w5 ⟨rfl, v, hT⟩; have HT := Aside0.mk (RGTo.of_below H.out (below_drew (Below.refl _ W)) hT); clear hT)))
    obtain ⟨own1, hrg, hs1, hk1, hb1⟩ := HT.out
    have HG := Aside0.mk hrg
    clear hx0 hx1 hx4 hy0
    have hx0 := hrg.act.cell.1
    have hx4 := hrg.act.cell.2.2.2.2.1
    have hx7 := hrg.act.cell.2.2.2.2.2.2.2
    have hz7 := blk_frozen hrg.act 7
    have hy0 := hrg.ring.cell.1
    replace hx4 : w5.cell? ⟨na, 4, none⟩ = some (.func (.func 113) #[] #[]) := by rw [hx4]; exact congrArg some HS2.out
    clear hrg hs1 hk1 hb1
    have hrun := fun W : World => eql_func 113 W
    go_wp2
    go_ret
    exact ⟨rfl, v, HT.out⟩
theorem Step113 (h : RG W B own gr na M R A bl) (hs : A.st = stg 113) (hsl : (M.beds A.who).isSome = false) (hwho : (Lit.int .i64 A.who).wf = true) (hs2 : A'.st = stg 123)
    (hstep : ∀ W1, RG W1 B own gr na M R A bl → Calls Try.prog 113 #[.pointer (some ⟨na, 0, none⟩)] W1 fun e w' => e = .returned (.tuple #[]) ∧ ∃ v, RGTo W1 w' B own gr na M' R' { A' with b := v } bl') :
    Calls Try.prog 78 #[.pointer (some ⟨na, 0, none⟩)] W fun e w' => e = .returned (.bool false) ∧ ∃ v, RGTo W w' B own gr na M' R' { A' with b := v } bl' := by
  obtain ⟨hx0, hx1, -, -, hx4, -, -, -⟩ := h.act.cell
  obtain ⟨hy0, -, -, -, -, -, -, -, -⟩ := h.ring.cell
  have H := Aside0.mk h
  have H1 := Aside0.mk (h.below (below_drew (Below.refl _ W)))
  have OV := Aside0.mk (Over_on H1.out.act hs)
  have AS0 := Asleep_C A.who hwho H1.out.mem
  rw [hsl] at AS0
  have ASL := Aside0.mk AS0
  have ST := Aside0.mk (hstep W.drew H1.out)
  have HS2 := Aside0.mk hs2
  rw [hs] at hx4
  unfold stg at hx4
  clear h hsl hwho AS0 hstep hs hs2
  go_enter Try.func78, Try.ntmps78
  go_upto_region 1 with fail
  go_region_held3 (fun w' => w'.cell? ⟨na, 0, none⟩ = some (.pointer (some ⟨gr, 0, none⟩)) ∧ w'.cell? ⟨na, 1, none⟩ = some (.int .i64 A.who) ∧ w'.cell? ⟨gr, 0, none⟩ = some (.pointer (some ⟨R.gm, 0, none⟩)))
    (exact ⟨hx0, hx1, hy0⟩)
    (first | (go_at_call 57; ((with_reducible refine OV.out.mono ?_); rintro e w4 ⟨rfl, rfl⟩)) | (go_at_call 44; ((with_reducible refine ASL.out.mono ?_); rintro e w4 ⟨rfl, rfl⟩)))
  all_goals
    go_upto_region 4 with (first | (go_at_call 113; ((with_reducible refine ST.out.mono ?_); rintro e w5 ⟨rfl, v, hT⟩; have HT := Aside0.mk (RGTo.of_below H.out (below_drew (Below.refl _ W)) hT); clear hT)))
    obtain ⟨own1, hrg, hs1, hk1, hb1⟩ := HT.out
    have HG := Aside0.mk hrg
    clear hx0 hx1 hx4 hy0
    have hx0 := hrg.act.cell.1
    have hx4 := hrg.act.cell.2.2.2.2.1
    have hx7 := hrg.act.cell.2.2.2.2.2.2.2
    have hz7 := blk_frozen hrg.act 7
    have hy0 := hrg.ring.cell.1
    replace hx4 : w5.cell? ⟨na, 4, none⟩ = some (.func (.func 123) #[] #[]) := by rw [hx4]; exact congrArg some HS2.out
    clear hrg hs1 hk1 hb1
    have hrun := fun W : World => eql_func 123 W
    go_wp2
    go_ret
    exact ⟨rfl, v, HT.out⟩
theorem Step123e (h : RG W B own gr na M R A bl) (hs : A.st = stg 123) (hsl : (M.beds A.who).isSome = false) (hwho : (Lit.int .i64 A.who).wf = true) (hs2 : A'.st = .nilFunc)
    (hstep : ∀ W1, RG W1 B own gr na M R A bl → Calls Try.prog 123 #[.pointer (some ⟨na, 0, none⟩)] W1 fun e w' => e = .returned (.tuple #[]) ∧ ∃ v, RGTo W1 w' B own gr na M' R' { A' with b := v } bl') :
    Calls Try.prog 78 #[.pointer (some ⟨na, 0, none⟩)] W fun e w' => e = .returned (.bool true) ∧ ∃ v, RGTo W w' B own gr na M' R' { A' with b := v, mark := (M'.log.length : Int) } bl' := by
  obtain ⟨hx0, hx1, -, -, hx4, -, -, -⟩ := h.act.cell
  obtain ⟨hy0, -, -, -, -, -, -, -, -⟩ := h.ring.cell
  have H := Aside0.mk h
  have H1 := Aside0.mk (h.below (below_drew (Below.refl _ W)))
  have OV := Aside0.mk (Over_on H1.out.act hs)
  have AS0 := Asleep_C A.who hwho H1.out.mem
  rw [hsl] at AS0
  have ASL := Aside0.mk AS0
  have ST := Aside0.mk (hstep W.drew H1.out)
  have HS2 := Aside0.mk hs2
  rw [hs] at hx4
  unfold stg at hx4
  clear h hsl hwho AS0 hstep hs hs2
  go_enter Try.func78, Try.ntmps78
  go_upto_region 1 with fail
  go_region_held3 (fun w' => w'.cell? ⟨na, 0, none⟩ = some (.pointer (some ⟨gr, 0, none⟩)) ∧ w'.cell? ⟨na, 1, none⟩ = some (.int .i64 A.who) ∧ w'.cell? ⟨gr, 0, none⟩ = some (.pointer (some ⟨R.gm, 0, none⟩)))
    (exact ⟨hx0, hx1, hy0⟩)
    (first | (go_at_call 57; ((with_reducible refine OV.out.mono ?_); rintro e w4 ⟨rfl, rfl⟩)) | (go_at_call 44; ((with_reducible refine ASL.out.mono ?_); rintro e w4 ⟨rfl, rfl⟩)))
  all_goals
    go_upto_region 4 with (first | (go_at_call 123; ((with_reducible refine ST.out.mono ?_); rintro e w5 ⟨rfl, v, hT⟩; have HT := Aside0.mk (RGTo.of_below H.out (below_drew (Below.refl _ W)) hT); clear hT)))
    obtain ⟨own1, hrg, hs1, hk1, hb1⟩ := HT.out
    have HG := Aside0.mk hrg
    clear hx0 hx1 hx4 hy0
    have hx0 := hrg.act.cell.1
    have hx4 := hrg.act.cell.2.2.2.2.1
    have hx7 := hrg.act.cell.2.2.2.2.2.2.2
    have hz7 := blk_frozen hrg.act 7
    have hy0 := hrg.ring.cell.1
    replace hx4 : w5.cell? ⟨na, 4, none⟩ = some (.nilFunc) := by rw [hx4]; exact congrArg some HS2.out
    clear hrg hs1 hk1 hb1
    have hrun := fun W : World => eql_nil W
    have TM := Aside0.mk (Time_C HG.out.mem)
    go_wp2_with (first | (go_at_call 43; ((with_reducible refine TM.out.mono ?_); rintro e w6 ⟨rfl, hw6⟩; obtain rfl : w5 = w6 := hw6.symm)))
    go_ret
    exact ⟨rfl, v, HT.out.turn ((Kept.refl _ (fun k => k = na)).setCell (p := ⟨na, 7, none⟩) (.inl rfl) _) ((Below.refl B _).setCell (p := ⟨na, 7, none⟩) HG.out.aB _) (blk_put HG.out.act 7 _ rfl) rfl⟩
end
/-! ### ring_Right: function 111 -/
def ring_Right.f (a0 : Int) : Option (Bool) := if a0 ≥ 1 then (if a0 ≤ 64 then (some ((Go.bits .and .i64 a0 (wrap64 (a0 - 1))) == 0)) else (some false)) else (some false)
set_option maxHeartbeats 8000000 in
set_option maxRecDepth 100000 in
theorem ring_Right.calls (a0 : Int) (r : Bool) (w : World) (h : ring_Right.f a0 = some r) :
    Calls Try.prog 111 #[.int .i64 a0] w fun e w' => e = .returned (.bool r) ∧ Drawn0 w w' := by
  have H : (if a0 ≥ 1 then (if a0 ≤ 64 then (some ((Go.bits .and .i64 a0 (wrap64 (a0 - 1))) == 0)) else (some false)) else (some false)) = some r := h
  clear h
  by_cases c2 : a0 ≥ 1
  · rw [if_pos c2] at H
    have c2b0 : decide (1 ≤ a0) = true := decide_eq_true c2
    clear c2
    by_cases c3 : a0 ≤ 64
    · rw [if_pos c3] at H
      have c3b0 : decide (a0 ≤ 64) = true := decide_eq_true c3
      clear c3
      obtain rfl := Option.some.inj H
      go_enter Try.func111, Try.ntmps111
      go_wp2
      go_ret
      exact ⟨by first | rfl | (simp; done) | (simp [*]; done), by repeat (first | exact Drawn0.refl _ | apply Drawn0.step)⟩
    · rw [if_neg c3] at H
      have c3b0 : decide (a0 ≤ 64) = false := decide_eq_false c3
      clear c3
      obtain rfl := Option.some.inj H
      go_enter Try.func111, Try.ntmps111
      go_wp2
      go_ret
      exact ⟨by first | rfl | (simp; done) | (simp [*]; done), by repeat (first | exact Drawn0.refl _ | apply Drawn0.step)⟩
  · rw [if_neg c2] at H
    have c2b0 : decide (1 ≤ a0) = false := decide_eq_false c2
    clear c2
    obtain rfl := Option.some.inj H
    go_enter Try.func111, Try.ntmps111
    go_wp2
    go_ret
    exact ⟨by first | rfl | (simp; done) | (simp [*]; done), by repeat (first | exact Drawn0.refl _ | apply Drawn0.step)⟩
set_option maxRecDepth 100000
structure RB (w : World) (B : Nat) (own : Nat → Prop) (gr : Nat) (M : MS) (R : RC) : Prop where
  mem : MemC w B own R.gm M
  ring : RingAt w gr R
  fit : R.Fit
  r1 : ¬ own gr
  gB : B ≤ gr
section
variable {w w' W : World} {B : Nat} {own : Nat → Prop} {gr na : Nat} {M M' : MS} {R R' : RC} {A A' : AC} {bl bl' : List S143}
theorem RG.rb (h : RG w B own gr na M R A bl) : RB w B own gr M R := ⟨h.mem, h.ring, h.fit, h.r1, h.gB⟩
theorem RB.below (h : RB w B own gr M R) (hb : Below w.heap.size w w') : RB w' B own gr M R := ⟨h.mem.below hb, (hb.block gr (blk_lt h.ring)).trans h.ring, h.fit, h.r1, h.gB⟩
def AC.cells0 (A : AC) (gr : Nat) : Array Value := #[.pointer none, .int .i64 A.who, .pointer (some ⟨gr, A.own, none⟩), .pointer (some ⟨gr, A.far, none⟩), A.st, A.b, .bool A.ok, .int .i64 A.mark]
def RC.act (R : RC) (out : Bool) : Value := if out then R.ao else R.ai
theorem begin_in_ok (ha : W.heap[na]? = some (.cells (A.cells0 gr) 157 (0, 0))) (hr : RingAt W gr R) (ho : A.out = false) (hne : gr ≠ na) (hov : Calls Try.prog 57 #[R.ai] W fun e w' => e = .returned (.bool true) ∧ w' = W) :
    Calls Try.prog 93 #[.pointer (some ⟨gr, 0, none⟩), .pointer (some ⟨na, 0, none⟩)] W fun e w' => e = .returned (.pointer (some ⟨na, 0, none⟩)) ∧ ActAt w' gr na A ∧ RingAt w' gr { R with ai := .pointer (some ⟨na, 0, none⟩) } ∧ Kept W w' (fun k => k = gr ∨ k = na) ∧ ∀ B, B ≤ gr → B ≤ na → Below B W w' := by
  have hx2 : W.cell? ⟨na, 2, none⟩ = some (.pointer (some ⟨gr, 3, none⟩)) := by rw [blk_cell ha]; show some (Value.pointer (some ⟨gr, A.own, none⟩)) = _; unfold AC.own; rw [ho]; rfl
  have hx0 : W.cell? ⟨na, 0, none⟩ = some (.pointer none) := (blk_cell ha 0).trans rfl
  have hz0 := blk_frozen ha 0
  have hya : W.cell? ⟨gr, 5, none⟩ = some R.ai := (blk_cell hr 5).trans rfl
  have hza := blk_frozen hr 5
  have HO := Aside0.mk hov
  have HA := Aside0.mk ha
  have HR := Aside0.mk hr
  have HN := Aside0.mk hne
  clear hov ha hr ho
  go_enter Try.func93, Try.ntmps93
  go_wp2_with (first | (go_at_call 57; ((with_reducible refine HO.out.mono ?_); rintro e w5 ⟨rfl, hw5⟩; obtain rfl : W = w5 := hw5.symm)))
  go_ret
  refine ⟨rfl, ?_, ?_, ((Kept.refl W (fun k => k = gr ∨ k = na)).setCell (p := ⟨na, 0, none⟩) (.inl (.inr rfl)) _).setCell (p := ⟨gr, 5, none⟩) (.inl (.inl rfl)) _, fun B h1 h2 => ((Below.refl B W).setCell (p := ⟨na, 0, none⟩) h2 _).setCell (p := ⟨gr, 5, none⟩) h1 _⟩
  · exact blk_far (blk_put HA.out 0 _ rfl) (p := ⟨gr, 5, none⟩) (fun e => HN.out e.symm) _
  · exact blk_put (blk_far HR.out (p := ⟨na, 0, none⟩) HN.out _) 5 _ rfl
theorem begin_out_ok (ha : W.heap[na]? = some (.cells (A.cells0 gr) 157 (0, 0))) (hr : RingAt W gr R) (ho : A.out = true) (hne : gr ≠ na) (hov : Calls Try.prog 57 #[R.ao] W fun e w' => e = .returned (.bool true) ∧ w' = W) :
    Calls Try.prog 93 #[.pointer (some ⟨gr, 0, none⟩), .pointer (some ⟨na, 0, none⟩)] W fun e w' => e = .returned (.pointer (some ⟨na, 0, none⟩)) ∧ ActAt w' gr na A ∧ RingAt w' gr { R with ao := .pointer (some ⟨na, 0, none⟩) } ∧ Kept W w' (fun k => k = gr ∨ k = na) ∧ ∀ B, B ≤ gr → B ≤ na → Below B W w' := by
  have hx2 : W.cell? ⟨na, 2, none⟩ = some (.pointer (some ⟨gr, 6, none⟩)) := by rw [blk_cell ha]; show some (Value.pointer (some ⟨gr, A.own, none⟩)) = _; unfold AC.own; rw [ho]; rfl
  have hx0 : W.cell? ⟨na, 0, none⟩ = some (.pointer none) := (blk_cell ha 0).trans rfl
  have hz0 := blk_frozen ha 0
  have hya : W.cell? ⟨gr, 8, none⟩ = some R.ao := (blk_cell hr 8).trans rfl
  have hza := blk_frozen hr 8
  have HO := Aside0.mk hov
  have HA := Aside0.mk ha
  have HR := Aside0.mk hr
  have HN := Aside0.mk hne
  clear hov ha hr ho
  go_enter Try.func93, Try.ntmps93
  go_wp2_with (first | (go_at_call 57; ((with_reducible refine HO.out.mono ?_); rintro e w5 ⟨rfl, hw5⟩; obtain rfl : W = w5 := hw5.symm)))
  go_ret
  refine ⟨rfl, ?_, ?_, ((Kept.refl W (fun k => k = gr ∨ k = na)).setCell (p := ⟨na, 0, none⟩) (.inl (.inr rfl)) _).setCell (p := ⟨gr, 8, none⟩) (.inl (.inl rfl)) _, fun B h1 h2 => ((Below.refl B W).setCell (p := ⟨na, 0, none⟩) h2 _).setCell (p := ⟨gr, 8, none⟩) h1 _⟩
  · exact blk_far (blk_put HA.out 0 _ rfl) (p := ⟨gr, 8, none⟩) (fun e => HN.out e.symm) _
  · exact blk_put (blk_far HR.out (p := ⟨na, 0, none⟩) HN.out _) 8 _ rfl
end
set_option maxRecDepth 100000
def pushA (who : Int) (b : Value) : AC := ⟨who, false, stg 95, b, false, 0⟩
def popA (who : Int) : AC := ⟨who, true, stg 94, .slice none 0 0, false, 0⟩
section
variable {w w' w1 W : World} {B : Nat} {own : Nat → Prop} {gr na : Nat} {M M' : MS} {R R' : RC} {A A' : AC} {bl bl' : List S143}
theorem RG.begun (h : RB W B own gr M R) (hb : Below W.heap.size W w1) (hna : W.heap.size ≤ na) (ha : ActAt w' gr na A) (hr : RingAt w' gr R') (hf : R'.Fit) (hg : R'.gm = R.gm) (hk : Kept w1 w' (fun k => k = gr ∨ k = na)) (hbx : ∃ Ab cb, A.b = .slice Ab bl.length cb ∧ bl.length ≤ cb ∧ Kd.F k143 w1 (fun k => W.heap.size ≤ k ∧ k ≠ na ∧ k < w1.heap.size) Ab bl.length bl) : RG w' B own gr na M R' A bl := by
  obtain ⟨Ab, cb, e1, e2, e3⟩ := hbx
  have hgr := blk_lt h.ring
  have hB := h.mem.size
  refine ⟨by rw [hg]; exact (h.mem.below hb).kept hk (fun k ho hs => hs.elim (fun e => h.r1 (e ▸ ho)) (fun e => by have := h.mem.2 k ho; omega)), hr, ha, hf, h.r1, fun ho => by have := h.mem.2 na ho; omega, by omega, h.gB, by omega, Ab, cb, e1, e2, ?_⟩
  exact Kd.F_mono (Kd.F_step e3 (fun k ho hlt => hk.2 k hlt (fun hs => hs.elim (fun e => by have := ho.1; omega) (fun e => ho.2.1 e)))) (fun k ho => ⟨fun h2 => by have := h.mem.2 k h2; have := ho.1; omega, by have := ho.1; omega, ho.2.1, Nat.lt_of_lt_of_le ho.2.2 hk.1⟩)
theorem begun_kept (hb : Below W.heap.size W w1) (hna : W.heap.size ≤ na) (hk : Kept w1 w' (fun k => k = gr ∨ k = na)) : Kept W w' (fun k => k = gr) :=
  ⟨Nat.le_trans hb.size hk.1, fun i hi hn => (hk.2 i (Nat.lt_of_lt_of_le hi hb.size) (fun hs => hs.elim hn (fun e => by omega))).trans (hb.block i hi)⟩
theorem F_nil143 (w : World) (ok : Nat → Prop) : Kd.F k143 w ok none ([] : List S143).length [] := Kd.R_F (Kd.R_nil k143 143 w 0 ok)
theorem Pop_ok (who : Int) (h : RB W B own gr M R) (hov : ∀ w1, Below W.heap.size W w1 → Calls Try.prog 57 #[R.ao] w1 fun e w' => e = .returned (.bool true) ∧ w' = w1) :
    Calls Try.prog 56 #[.pointer (some ⟨gr, 0, none⟩), .int .i64 who] W fun e w' => ∃ na, e = .returned (.pointer (some ⟨na, 0, none⟩)) ∧ W.heap.size ≤ na ∧ RG w' B own gr na M { R with ao := .pointer (some ⟨na, 0, none⟩) } (popA who) [] ∧ Kept W w' (fun k => k = gr) ∧ Below B W w' := by
  have H := Aside0.mk h
  have HB1 := Aside0.mk (below_drew1 ((Below.refl _ W).alloc (Nat.le_refl _) (.cells #[.pointer none, .int .i64 who, .pointer (some ⟨gr, 6, none⟩), .pointer (some ⟨gr, 3, none⟩), .func (.func 94) #[] #[], .slice none 0 0, .bool false, .int .i64 0] 157)))
  have BC := Aside0.mk (begin_out_ok (W := (W.alloc (.cells #[.pointer none, .int .i64 who, .pointer (some ⟨gr, 6, none⟩), .pointer (some ⟨gr, 3, none⟩), .func (.func 94) #[] #[], .slice none 0 0, .bool false, .int .i64 0] 157)).drew) (na := W.heap.size) (A := popA who) (blk_drew (blk_new W _)) (h.below HB1.out).ring rfl (Nat.ne_of_lt (blk_lt h.ring)) (hov _ HB1.out))
  clear h hov
  go_enter Try.func56, Try.ntmps56
  go_upto_region 3 with fail
  go_region_held3 (fun w' => True)
    (trivial)
    (first | (go_at_call 93; ((with_reducible refine BC.out.mono ?_); rintro e w5 ⟨rfl, ha, hr, hk, hb⟩)))
  all_goals
    go_wp2
    go_ret
    exact ⟨W.heap.size, rfl, Nat.le_refl _, RG.begun H.out HB1.out (Nat.le_refl _) ha hr ⟨H.out.fit.sz, H.out.fit.bx, H.out.fit.ci, H.out.fit.co⟩ rfl hk ⟨none, 0, rfl, Nat.le_refl _, F_nil143 _ _⟩, begun_kept HB1.out (Nat.le_refl _) hk, (below_then (Below.refl B W) H.out.mem.size HB1.out).trans (hb B H.out.gB H.out.mem.size)⟩
theorem Push_ok (who : Int) (A0 : Option Addr) (c0 : Nat) (h : RB W B own gr M R) (hC : Kd.C k143 W A0 bl.length bl) (hbl : bl.length ≤ 1000000) (hov : ∀ w1, Below W.heap.size W w1 → Calls Try.prog 57 #[R.ai] w1 fun e w' => e = .returned (.bool true) ∧ w' = w1) :
    Calls Try.prog 63 #[.pointer (some ⟨gr, 0, none⟩), .int .i64 who, .slice A0 bl.length c0] W fun e w' => ∃ na v, e = .returned (.pointer (some ⟨na, 0, none⟩)) ∧ W.heap.size ≤ na ∧ RG w' B own gr na M { R with ai := .pointer (some ⟨na, 0, none⟩) } (pushA who v) bl ∧ Kept W w' (fun k => k = gr) ∧ Below B W w' := by
  have H := Aside0.mk h
  have HC := Aside0.mk (show _ ∧ _ from ⟨hC, hbl⟩)
  have HOV := Aside0.mk hov
  clear h hov hC hbl
  go_enter Try.func63, Try.ntmps63
  go_upto_region 3 with fail
  go_region_held3 (fun w' => True)
    (trivial)
    (first | (refine Kd.R_append_rows_step k143 (w0 := W) W.heap.size (by rfl) (.const (.slice none 0 0)) (.tmp 17) 57 143 (.agg #[(.int .i64 0), (.int .u64 0), (.int .i64 0)]) 24 rfl Try.underlying57 info143 rfl (by decide) (by omega) (.slice none 0 0) [] bl A0 _ c0 (fun k => W.heap.size ≤ k) (fun _ => False) rfl rfl (Kd.R_nil _ _ _ _ _) (Kd.C_below HC.out.1 (below_drew (Below.refl _ W))) (fun _ _ h => h) (fun _ h => h.elim) (fun k hk => hk) (below_drew (Below.refl _ W)) (Nat.le_refl _) (by have := HC.out.2; simp only [List.length_nil]; omega) ?_; intro v3 w3 hr3 hb3 hg3 hat3; obtain ⟨A3, n3, c3, rfl⟩ := R_any hr3; have HR3 := Aside0.mk hr3; have HB3 := Aside0.mk hb3; have HB4 := Aside0.mk (hb3.alloc hb3.size (.cells #[.pointer none, .int .i64 who, .pointer (some ⟨gr, 3, none⟩), .pointer (some ⟨gr, 6, none⟩), .func (.func 95) #[] #[], .slice A3 n3 c3, .bool false, .int .i64 0] 157)); have BC := Aside0.mk (begin_in_ok (W := w3.alloc (.cells #[.pointer none, .int .i64 who, .pointer (some ⟨gr, 3, none⟩), .pointer (some ⟨gr, 6, none⟩), .func (.func 95) #[] #[], .slice A3 n3 c3, .bool false, .int .i64 0] 157)) (na := w3.heap.size) (A := pushA who (.slice A3 n3 c3)) (blk_new w3 _) (H.out.below HB4.out).ring rfl (Nat.ne_of_lt (Nat.lt_of_lt_of_le (blk_lt H.out.ring) hb3.size)) (HOV.out _ HB4.out)); clear hr3 hb3 hg3 hat3) | (go_at_call 93; ((with_reducible refine BC.out.mono ?_); rintro e w5 ⟨rfl, ha, hr, hk, hb⟩)))
  all_goals
    go_wp2
    go_ret
    have hr4 := HR3.out
    rw [List.nil_append] at hr4
    obtain ⟨e4, h4, -⟩ := Kd.R_reads' hr4
    subst e4
    have hs3 := HB3.out.size
    refine ⟨w3.heap.size, .slice A3 bl.length c3, rfl, hs3, RG.begun H.out HB4.out hs3 ha hr ⟨H.out.fit.sz, H.out.fit.bx, H.out.fit.ci, H.out.fit.co⟩ rfl hk ⟨A3, c3, rfl, h4, ?_⟩, begun_kept HB4.out hs3 hk, (below_then (Below.refl B W) H.out.mem.size HB4.out).trans (hb B H.out.gB (Nat.le_trans H.out.mem.size hs3))⟩
    have hF := Kd.R_F (Kd.R_mono (Kd.R_bound hr4) (ok' := fun k => W.heap.size ≤ k ∧ k < w3.heap.size) (fun k hk2 => ⟨hk2.1, hk2.2.2.1⟩))
    have hba := below_alloc (Below.refl w3.heap.size w3) (.cells #[.pointer none, .int .i64 who, .pointer (some ⟨gr, 3, none⟩), .pointer (some ⟨gr, 6, none⟩), .func (.func 95) #[] #[], .slice A3 bl.length c3, .bool false, .int .i64 0] 157)
    exact Kd.F_mono (Kd.F_step hF (fun k ho hlt => hba.block k hlt)) (fun k ho => ⟨ho.1, Nat.ne_of_lt ho.2, Nat.lt_of_lt_of_le ho.2 hba.size⟩)
end
set_option maxRecDepth 100000
theorem under150 : Try.prog.underlying 150 = some (.pointer 152) := by kernel_rfl
theorem info152s : ∃ j, Try.prog.info? 152 = some j ∧ j.size ≠ 0 := by
  have h : (Try.prog.info? 152).map (fun i => i.size) = some 3 := by kernel_rfl
  obtain ⟨j, h1, h2⟩ := Option.map_eq_some_iff.1 h
  exact ⟨j, h1, by rw [h2]; decide⟩
theorem neq_same (a : Addr) (w : World) : Sem.run Try.prog (binOp BinOp.neq 150 (.pointer (some a)) (.pointer (some a))) w = .ok (.bool false) w := by
  obtain ⟨j, hj, -⟩ := info152s
  exact Go.Lib.run_neq_ptr_same w a under150 hj
theorem neq_other {a b : Addr} {ca cb : Array Value} {ta tb : TypeId} (w : World) (hne : a ≠ b) (ha : w.heap[a.block]? = some (.cells ca ta (0, 0))) (hb : w.heap[b.block]? = some (.cells cb tb (0, 0))) : Sem.run Try.prog (binOp BinOp.neq 150 (.pointer (some a)) (.pointer (some b))) w = .ok (.bool true) w := by
  obtain ⟨j, hj, hsz⟩ := info152s
  have h : ∀ d : Nat, (Op.equalIn (d + 1) 150 (.pointer (some a)) (.pointer (some b))).run Try.prog w = .ok false w := fun d => by
    simp [Op.equalIn, run_underlying under150, sizeOf, typeInfo, hj, hsz, run_sameAddr_other w hne ha hb]
  simp only [binOp]
  simp [Op.equal, Op.maxDepth, h 9999]
section
variable {w w' w1 W : World} {B : Nat} {own : Nat → Prop} {gr na : Nat} {M M' : MS} {R R' : RC} {A A' : AC} {bl bl' : List S143}
theorem Batch_C (h : RG W B own gr na M R A bl) (hbl : bl.length ≤ 1000000) : Calls Try.prog 61 #[.pointer (some ⟨na, 0, none⟩)] W fun e w' => ∃ v, e = .returned v ∧ Kd.R k143 143 w' W.heap.size (fun _ => True) v (if A.ok && A.out then bl else []) ∧ Below W.heap.size W w' := by
  obtain ⟨hx0, -, hx2, -, -, hx5, hx6, -⟩ := h.act.cell
  unfold AC.own at hx2
  have H := Aside0.mk h
  have H1 := Aside0.mk (h.below (below_drew (Below.refl _ W)))
  have OK0 := Ok_C H1.out.act
  cases hok : A.ok
  · rw [hok] at OK0
    have OK := Aside0.mk OK0
    clear h OK0 hx0 hx2 hx5 hx6 hok
    go_enter Try.func61, Try.ntmps61
    go_upto_region 1 with fail
    refine start_ (n := 16) (S := fun _ => True) (ds := []) #[false, false, false, false, false, false, false, false, false, false, false, false, false, false, false, false] (by kernel_rfl) rfl rfl trivial (fun hHeld => ?_)
    refine pure_ (i := 0) (N := some 3) (v := ?_) (a' := ?_) #[true, false, false, false, false, false, false, false, false, false, false, false, false, false, false, false] rfl rfl (by kernel_rfl) (fun _ _ _ h => h) (Or.inl ⟨by rfl, ?_⟩) ?_ ?_
    rotate_left
    · intro w'
      go_simp
      with_reducible rfl
    rotate_left
    · simp only [Act.put, List.setIfInBounds_toArray, List.set_cons_zero, List.set_cons_succ]
      rfl
    refine one_ (i := 1) (N := some 4) #[true, true, false, false, false, false, false, false, false, false, false, false, false, false, false, false] rfl rfl (by kernel_rfl) (by decide) (fun K hK => ?_)
    refine goes_ Try.func60 (by kernel_rfl) rfl #[.pointer (some ⟨na, 0, none⟩)] (by rfl) rfl rfl (by (try simp only [List.map_toArray, List.map_cons, List.map_nil]); first | done | rfl) ?_
    refine OK.out.mono ?_
    rintro e w4 ⟨rfl, rfl⟩
    refine ⟨_, rfl, ?_⟩
    refine hK.out _ _ trivial (fun hHeld => ?_)
    clear hK K
    refine norm_ (a' := ?_) ?_ ?_
    rotate_left
    · show Act.put _ (some 4) _ = _
      simp only [Act.put, List.setIfInBounds_toArray, List.set_cons_zero, List.set_cons_succ]
      rfl
    refine pure_ (i := 2) (N := some 5) (v := ?_) (a' := ?_) #[true, true, true, false, false, false, false, false, false, false, false, false, false, false, false, false] rfl rfl (by kernel_rfl) (fun _ _ _ h => h) (Or.inl ⟨by rfl, ?_⟩) ?_ ?_
    rotate_left
    · intro w'
      go_simp
      with_reducible rfl
    rotate_left
    · simp only [Act.put, List.setIfInBounds_toArray, List.set_cons_zero, List.set_cons_succ]
      rfl
    refine pure_ (i := 3) (N := some 6) (v := ?_) (a' := ?_) #[true, true, true, true, false, false, false, false, false, false, false, false, false, false, false, false] rfl rfl (by kernel_rfl) (fun _ _ _ h => h) (Or.inl ⟨by rfl, ?_⟩) ?_ ?_
    rotate_left
    · intro w'
      go_simp
      with_reducible rfl
    rotate_left
    · simp only [Act.put, List.setIfInBounds_toArray, List.set_cons_zero, List.set_cons_succ]
      rfl
    refine pure_ (i := 4) (N := some 7) (v := undef) (a' := ?_) #[true, true, true, true, true, false, false, false, false, false, false, false, false, false, false, false] rfl rfl (by kernel_rfl) (fun _ _ _ h => h) (Or.inr ⟨by rfl, rfl⟩) ?_ ?_
    rotate_left
    · simp only [Act.put, List.setIfInBounds_toArray, List.set_cons_zero, List.set_cons_succ]
      rfl
    refine pure_ (i := 5) (N := some 8) (v := undef) (a' := ?_) #[true, true, true, true, true, true, false, false, false, false, false, false, false, false, false, false] rfl rfl (by kernel_rfl) (fun _ _ _ h => h) (Or.inr ⟨by rfl, rfl⟩) ?_ ?_
    rotate_left
    · simp only [Act.put, List.setIfInBounds_toArray, List.set_cons_zero, List.set_cons_succ]
      rfl
    refine pure_ (i := 6) (N := some 9) (v := undef) (a' := ?_) #[true, true, true, true, true, true, true, false, false, false, false, false, false, false, false, false] rfl rfl (by kernel_rfl) (fun _ _ _ h => h) (Or.inr ⟨by rfl, rfl⟩) ?_ ?_
    rotate_left
    · simp only [Act.put, List.setIfInBounds_toArray, List.set_cons_zero, List.set_cons_succ]
      rfl
    refine pure_ (i := 7) (N := some 10) (v := undef) (a' := ?_) #[true, true, true, true, true, true, true, true, false, false, false, false, false, false, false, false] rfl rfl (by kernel_rfl) (fun _ _ _ h => h) (Or.inr ⟨by rfl, rfl⟩) ?_ ?_
    rotate_left
    · simp only [Act.put, List.setIfInBounds_toArray, List.set_cons_zero, List.set_cons_succ]
      rfl
    refine pure_ (i := 8) (N := some 11) (v := undef) (a' := ?_) #[true, true, true, true, true, true, true, true, true, false, false, false, false, false, false, false] rfl rfl (by kernel_rfl) (fun _ _ _ h => h) (Or.inr ⟨by rfl, rfl⟩) ?_ ?_
    rotate_left
    · simp only [Act.put, List.setIfInBounds_toArray, List.set_cons_zero, List.set_cons_succ]
      rfl
    refine pure_ (i := 9) (N := some 12) (v := undef) (a' := ?_) #[true, true, true, true, true, true, true, true, true, true, false, false, false, false, false, false] rfl rfl (by kernel_rfl) (fun _ _ _ h => h) (Or.inr ⟨by rfl, rfl⟩) ?_ ?_
    rotate_left
    · simp only [Act.put, List.setIfInBounds_toArray, List.set_cons_zero, List.set_cons_succ]
      rfl
    refine pure_ (i := 10) (N := some 13) (v := undef) (a' := ?_) #[true, true, true, true, true, true, true, true, true, true, true, false, false, false, false, false] rfl rfl (by kernel_rfl) (fun _ _ _ h => h) (Or.inr ⟨by rfl, rfl⟩) ?_ ?_
    rotate_left
    · simp only [Act.put, List.setIfInBounds_toArray, List.set_cons_zero, List.set_cons_succ]
      rfl
    refine pure_ (i := 11) (N := some 14) (v := undef) (a' := ?_) #[true, true, true, true, true, true, true, true, true, true, true, true, false, false, false, false] rfl rfl (by kernel_rfl) (fun _ _ _ h => h) (Or.inr ⟨by rfl, rfl⟩) ?_ ?_
    rotate_left
    · simp only [Act.put, List.setIfInBounds_toArray, List.set_cons_zero, List.set_cons_succ]
      rfl
    refine pure_ (i := 12) (N := some 15) (v := undef) (a' := ?_) #[true, true, true, true, true, true, true, true, true, true, true, true, true, false, false, false] rfl rfl (by kernel_rfl) (fun _ _ _ h => h) (Or.inr ⟨by rfl, rfl⟩) ?_ ?_
    rotate_left
    · simp only [Act.put, List.setIfInBounds_toArray, List.set_cons_zero, List.set_cons_succ]
      rfl
    refine pure_ (i := 13) (N := some 16) (v := undef) (a' := ?_) #[true, true, true, true, true, true, true, true, true, true, true, true, true, true, false, false] rfl rfl (by kernel_rfl) (fun _ _ _ h => h) (Or.inr ⟨by rfl, rfl⟩) ?_ ?_
    rotate_left
    · simp only [Act.put, List.setIfInBounds_toArray, List.set_cons_zero, List.set_cons_succ]
      rfl
    refine pure_ (i := 14) (N := some 17) (v := undef) (a' := ?_) #[true, true, true, true, true, true, true, true, true, true, true, true, true, true, true, false] rfl rfl (by kernel_rfl) (fun _ _ _ h => h) (Or.inr ⟨by rfl, rfl⟩) ?_ ?_
    rotate_left
    · simp only [Act.put, List.setIfInBounds_toArray, List.set_cons_zero, List.set_cons_succ]
      rfl
    refine pure_ (i := 15) (N := some 18) (v := ?_) (a' := ?_) #[true, true, true, true, true, true, true, true, true, true, true, true, true, true, true, true] rfl rfl (by kernel_rfl) (fun _ _ _ h => h) (Or.inl ⟨by rfl, ?_⟩) ?_ ?_
    rotate_left
    · intro w'
      go_simp
      with_reducible rfl
    rotate_left
    · simp only [Act.put, List.setIfInBounds_toArray, List.set_cons_zero, List.set_cons_succ]
      rfl
    refine done_ (by kernel_rfl) ?_
    go_wp2
    go_ret
    exact ⟨_, rfl, Kd.R_nil _ _ _ _ _, below_drew (Below.refl _ W)⟩
  · rw [hok] at OK0
    have OK := Aside0.mk OK0
    obtain ⟨Ab, cb, eb, hcb, hF⟩ := h.bx
    rw [eb] at hx5
    have HC := Aside0.mk (show _ ∧ _ from ⟨Kd.F_now hF, hbl⟩)
    clear h OK0 hok hF hbl eb
    cases ho : A.out
    · rw [ho] at hx2
      replace hx2 : W.cell? ⟨na, 2, none⟩ = some (.pointer (some ⟨gr, 3, none⟩)) := hx2
      clear ho
      have NEQ := Aside0.mk (neq_other (a := ⟨gr, 3, none⟩) (b := ⟨gr, 6, none⟩) W.drew (by intro e; injection e with _ e; cases e) H1.out.ring H1.out.ring)
      go_enter Try.func61, Try.ntmps61
      go_upto_region 1 with fail
      refine start_ (n := 16) (S := fun w' => w'.cell? ⟨na, 0, none⟩ = some (.pointer (some ⟨gr, 0, none⟩)) ∧ w'.cell? ⟨na, 2, none⟩ = some (.pointer (some ⟨gr, 3, none⟩))) (ds := []) #[false, false, false, false, false, false, false, false, false, false, false, false, false, false, false, false] (by kernel_rfl) rfl rfl ⟨hx0, hx2⟩ (fun hHeld => ?_)
      refine pure_ (i := 0) (N := some 3) (v := ?_) (a' := ?_) #[true, false, false, false, false, false, false, false, false, false, false, false, false, false, false, false] rfl rfl (by kernel_rfl) (fun _ _ _ h => h) (Or.inl ⟨by rfl, ?_⟩) ?_ ?_
      rotate_left
      · intro w'
        go_simp
        with_reducible rfl
      rotate_left
      · simp only [Act.put, List.setIfInBounds_toArray, List.set_cons_zero, List.set_cons_succ]
        rfl
      refine one_ (i := 1) (N := some 4) #[true, true, false, false, false, false, false, false, false, false, false, false, false, false, false, false] rfl rfl (by kernel_rfl) (by decide) (fun K hK => ?_)
      refine goes_ Try.func60 (by kernel_rfl) rfl #[.pointer (some ⟨na, 0, none⟩)] (by rfl) rfl rfl (by (try simp only [List.map_toArray, List.map_cons, List.map_nil]); first | done | rfl) ?_
      refine OK.out.mono ?_
      rintro e w4 ⟨rfl, rfl⟩
      refine ⟨_, rfl, ?_⟩
      refine hK.out _ _ hHeld (fun hHeld => ?_)
      clear hK K
      refine norm_ (a' := ?_) ?_ ?_
      rotate_left
      · show Act.put _ (some 4) _ = _
        simp only [Act.put, List.setIfInBounds_toArray, List.set_cons_zero, List.set_cons_succ]
        rfl
      refine pure_ (i := 2) (N := some 5) (v := ?_) (a' := ?_) #[true, true, true, false, false, false, false, false, false, false, false, false, false, false, false, false] rfl rfl (by kernel_rfl) (fun _ _ _ h => h) (Or.inl ⟨by rfl, ?_⟩) ?_ ?_
      rotate_left
      · intro w'
        go_simp
        with_reducible rfl
      rotate_left
      · simp only [Act.put, List.setIfInBounds_toArray, List.set_cons_zero, List.set_cons_succ]
        rfl
      refine pure_ (i := 3) (N := some 6) (v := ?_) (a' := ?_) #[true, true, true, true, false, false, false, false, false, false, false, false, false, false, false, false] rfl rfl (by kernel_rfl) (fun _ _ _ h => h) (Or.inl ⟨by rfl, ?_⟩) ?_ ?_
      rotate_left
      · intro w'
        go_simp
        with_reducible rfl
      rotate_left
      · simp only [Act.put, List.setIfInBounds_toArray, List.set_cons_zero, List.set_cons_succ]
        rfl
      refine pure_ (i := 4) (N := some 7) (v := ?_) (a' := ?_) #[true, true, true, true, true, false, false, false, false, false, false, false, false, false, false, false] rfl rfl (by kernel_rfl) (fun _ _ _ h => h) (Or.inl ⟨by rfl, ?_⟩) ?_ ?_
      rotate_left
      · intro w'
        go_simp
        with_reducible rfl
      rotate_left
      · simp only [Act.put, List.setIfInBounds_toArray, List.set_cons_zero, List.set_cons_succ]
        rfl
      refine pure_ (i := 5) (N := some 8) (v := ?_) (a' := ?_) #[true, true, true, true, true, true, false, false, false, false, false, false, false, false, false, false] rfl rfl (by kernel_rfl) (fun _ _ _ h => h) (Or.inl ⟨by rfl, ?_⟩) ?_ ?_
      rotate_left
      · intro w'
        go_simp
        with_reducible rfl
      rotate_left
      · simp only [Act.put, List.setIfInBounds_toArray, List.set_cons_zero, List.set_cons_succ]
        rfl
      refine pure_ (i := 6) (N := some 9) (v := ?_) (a' := ?_) #[true, true, true, true, true, true, true, false, false, false, false, false, false, false, false, false] rfl rfl (by kernel_rfl) (fun _ _ _ h => h) (Or.inl ⟨by rfl, ?_⟩) ?_ ?_
      rotate_left
      · intro w'
        go_simp
        with_reducible rfl
      rotate_left
      · simp only [Act.put, List.setIfInBounds_toArray, List.set_cons_zero, List.set_cons_succ]
        rfl
      refine take_ (i := 7) (N := some 10) (v := ?_) (a' := ?_) #[true, true, true, true, true, true, true, true, false, false, false, false, false, false, false, false] rfl rfl (by kernel_rfl) (fun _ _ _ h => h) (Or.inl ⟨by rfl, ?_⟩) hHeld ?_ ?_
      rotate_left
      · rintro w' ⟨s0, s1⟩
        go_simp
        with_reducible rfl
      rotate_left
      · simp only [Act.put, List.setIfInBounds_toArray, List.set_cons_zero, List.set_cons_succ]
        rfl
      refine pure_ (i := 8) (N := some 11) (v := ?_) (a' := ?_) #[true, true, true, true, true, true, true, true, true, false, false, false, false, false, false, false] rfl rfl (by kernel_rfl) (fun _ _ _ h => h) (Or.inl ⟨by rfl, ?_⟩) ?_ ?_
      rotate_left
      · intro w'
        go_simp
        with_reducible rfl
      rotate_left
      · simp only [Act.put, List.setIfInBounds_toArray, List.set_cons_zero, List.set_cons_succ]
        rfl
      refine pure_ (i := 9) (N := some 12) (v := ?_) (a' := ?_) #[true, true, true, true, true, true, true, true, true, true, false, false, false, false, false, false] rfl rfl (by kernel_rfl) (fun _ _ _ h => h) (Or.inl ⟨by rfl, ?_⟩) ?_ ?_
      rotate_left
      · intro w'
        go_simp
        with_reducible rfl
      rotate_left
      · simp only [Act.put, List.setIfInBounds_toArray, List.set_cons_zero, List.set_cons_succ]
        rfl
      refine pure_ (i := 10) (N := some 13) (v := ?_) (a' := ?_) #[true, true, true, true, true, true, true, true, true, true, true, false, false, false, false, false] rfl rfl (by kernel_rfl) (fun _ _ _ h => h) (Or.inl ⟨by rfl, ?_⟩) ?_ ?_
      rotate_left
      · intro w'
        go_simp
        with_reducible rfl
      rotate_left
      · simp only [Act.put, List.setIfInBounds_toArray, List.set_cons_zero, List.set_cons_succ]
        rfl
      refine take_ (i := 11) (N := some 14) (v := ?_) (a' := ?_) #[true, true, true, true, true, true, true, true, true, true, true, true, false, false, false, false] rfl rfl (by kernel_rfl) (fun _ _ _ h => h) (Or.inl ⟨by rfl, ?_⟩) hHeld ?_ ?_
      rotate_left
      · rintro w' ⟨s0, s1⟩
        go_simp
        with_reducible rfl
      rotate_left
      · simp only [Act.put, List.setIfInBounds_toArray, List.set_cons_zero, List.set_cons_succ]
        rfl
      refine pure_ (i := 12) (N := some 15) (v := ?_) (a' := ?_) #[true, true, true, true, true, true, true, true, true, true, true, true, true, false, false, false] rfl rfl (by kernel_rfl) (fun _ _ _ h => h) (Or.inl ⟨by rfl, ?_⟩) ?_ ?_
      rotate_left
      · intro w'
        go_simp
        with_reducible rfl
      rotate_left
      · simp only [Act.put, List.setIfInBounds_toArray, List.set_cons_zero, List.set_cons_succ]
        rfl
      refine pure_ (i := 13) (N := some 16) (v := ?_) (a' := ?_) #[true, true, true, true, true, true, true, true, true, true, true, true, true, true, false, false] rfl rfl (by kernel_rfl) (fun _ _ _ h => h) (Or.inl ⟨by rfl, ?_⟩) ?_ ?_
      rotate_left
      · intro w'
        go_simp
        with_reducible rfl
      rotate_left
      · simp only [Act.put, List.setIfInBounds_toArray, List.set_cons_zero, List.set_cons_succ]
        rfl
      refine one_ (i := 14) (N := some 17) #[true, true, true, true, true, true, true, true, true, true, true, true, true, true, true, false] rfl rfl (by kernel_rfl) (by decide) (fun K hK => ?_)
      refine event_step (by rfl) (v := .bool true) (w1 := W.drew) (by have h0 := NEQ.out; unfold execOp; go_simp) ?_
      refine hK.out _ _ hHeld (fun hHeld => ?_)
      clear hK K
      refine norm_ (a' := ?_) ?_ ?_
      rotate_left
      · show Act.put _ (some 17) _ = _
        simp only [Act.put, List.setIfInBounds_toArray, List.set_cons_zero, List.set_cons_succ]
        rfl
      refine pure_ (i := 15) (N := some 18) (v := ?_) (a' := ?_) #[true, true, true, true, true, true, true, true, true, true, true, true, true, true, true, true] rfl rfl (by kernel_rfl) (fun _ _ _ h => h) (Or.inl ⟨by rfl, ?_⟩) ?_ ?_
      rotate_left
      · intro w'
        go_simp
        with_reducible rfl
      rotate_left
      · simp only [Act.put, List.setIfInBounds_toArray, List.set_cons_zero, List.set_cons_succ]
        rfl
      refine done_ (by kernel_rfl) ?_
      go_wp2
      go_ret
      exact ⟨_, rfl, Kd.R_nil _ _ _ _ _, below_drew (Below.refl _ W)⟩
    · rw [ho] at hx2
      replace hx2 : W.cell? ⟨na, 2, none⟩ = some (.pointer (some ⟨gr, 6, none⟩)) := hx2
      clear ho
      have hrun := fun W : World => neq_same ⟨gr, 6, none⟩ W
      go_enter Try.func61, Try.ntmps61
      go_upto_region 1 with fail
      go_region_held3 (fun w' => w'.cell? ⟨na, 0, none⟩ = some (.pointer (some ⟨gr, 0, none⟩)) ∧ w'.cell? ⟨na, 2, none⟩ = some (.pointer (some ⟨gr, 6, none⟩)))
        (exact ⟨hx0, hx2⟩) (first | (go_at_call 60; ((with_reducible refine OK.out.mono ?_); rintro e w4 ⟨rfl, rfl⟩)))
      all_goals
        go_wp2_with (first | ((with_reducible refine gate_builtin (b := .append) (xs := #[.const (.slice none 0 0), .tmp 22]) rfl ?_); at_builtin; refine Kd.R_append_rows k143 (w0 := W) W.heap.size rfl (.const (.slice none 0 0)) (.tmp 22) 57 143 (.agg #[(.int .i64 0), (.int .u64 0), (.int .i64 0)]) 24 rfl Try.underlying57 info143 rfl (by decide) (by omega) (.slice none 0 0) [] bl Ab _ cb (fun _ => True) (fun _ => False) rfl rfl (Kd.R_nil _ _ _ _ _) (Kd.C_below HC.out.1 (below_drew (Below.refl _ W))) (fun _ _ h => h) (fun _ h => h.elim) (fun _ _ => trivial) (below_drew (Below.refl _ W)) (Nat.le_refl _) (by have := HC.out.2; simp only [List.length_nil]; omega) ?_; intro v2 w2 ho2 hb2 hg2 hat2; have HO2 := Aside0.mk ho2; have HB2 := Aside0.mk hb2; clear ho2 hb2 hg2 hat2))
        go_ret
        exact ⟨_, rfl, by have := HO2.out; rwa [List.nil_append] at this, HB2.out⟩
theorem right_C (size : Int) (hs : size = 1 ∨ size = 2 ∨ size = 4 ∨ size = 8 ∨ size = 16) : ring_Right.f size = some true := by
  rcases hs with rfl | rfl | rfl | rfl | rfl <;> decide +kernel
def RC.start (gm : Nat) (size : Int) : RC := ⟨gm, 1, size, 1, 0, .pointer none, 2, 0, .pointer none⟩
theorem RNew_C (size : Int) (gm : Nat) (hs : size = 1 ∨ size = 2 ∨ size = 4 ∨ size = 8 ∨ size = 16) (W : World) : Calls Try.prog 92 #[.pointer (some ⟨gm, 0, none⟩), .int .i64 1, .int .i64 1, .int .i64 size] W fun e w' => ∃ gr, e = .returned (.tuple #[.pointer (some ⟨gr, 0, none⟩), .int .i64 0]) ∧ W.heap.size ≤ gr ∧ RingAt w' gr (RC.start gm size) ∧ Below W.heap.size W w' := by
  have RT := Aside0.mk (right_C size hs)
  clear hs
  go_enter Try.func92, Try.ntmps92
  go_wp2_with (first | (go_at_call 111; ((with_reducible refine (ring_Right.calls size true _ RT.out).mono ?_); rintro e w2 ⟨rfl, ⟨nd, rfl⟩⟩)))
  ((try simp only [Exit.inBlock, Exit.then]); first | refine bodyPost_ret (results_tmp2 rfl _ _ _) rfl ?_ | refine bodyPost_end (results_tmp2 rfl _ _ _) rfl ?_)
  exact ⟨_, rfl, Nat.le_refl _, blk_new _ _, (pw_below_drewN (Below.refl _ W) nd).alloc (Nat.le_refl _) _⟩
def RingM (size : Nat) : MS := ⟨List.replicate 4 0, List.replicate (size + 2) [], List.replicate 0 (-1), fun _ => none, 0, []⟩
theorem rbegin_C (size : Nat) (hs : size = 1 ∨ size = 2 ∨ size = 4 ∨ size = 8 ∨ size = 16) (W : World) : Calls Try.prog 54 #[.int .i64 (size : Int)] W fun e w' => ∃ gm gr own, e = .returned (.tuple #[.pointer (some ⟨gm, 0, none⟩), .pointer (some ⟨gr, 0, none⟩)]) ∧ RB w' W.heap.size own gr (RingM size) (RC.start gm (size : Int)) ∧ (∀ k, own k → W.heap.size ≤ k) ∧ Below W.heap.size W w' := by
  have HS := Aside0.mk hs
  have hw : IntKind.i64.wrap ((size : Int) + 2) = ((size + 2 : Nat) : Int) := by rw [IntKind.wrap_i64]; omega
  clear hs
  go_enter Try.func54, Try.ntmps54
  go_wp2_with (first | (go_at_call 30; ((refine (New_C 4 (size + 2) 0 (by decide) (by have := HS.out; omega) (by decide) _).mono ?_); rintro e w1 ⟨g, own0, rfl, hm, hw0, hb⟩; have HM := Aside0.mk (show MemC w1 W.heap.size own0 g (RingM size) from hm); have HB := Aside0.mk hb; have HO := Aside0.mk hw0; clear hm hb hw0)) | (go_at_call 92; ((refine (RNew_C (size : Int) g (by have := HS.out; omega) w1).mono ?_); rintro e w2 ⟨gr, rfl, hge, hr, hb2⟩; have HR := Aside0.mk (show _ ∧ _ ∧ _ from ⟨hge, hr, hb2⟩); clear hge hr hb2)))
  ((try simp only [Exit.inBlock, Exit.then]); first | refine bodyPost_ret (results_tmp2 rfl _ _ _) rfl ?_ | refine bodyPost_end (results_tmp2 rfl _ _ _) rfl ?_)
  obtain ⟨hge, hr, hb2⟩ := HR.out
  exact ⟨g, gr, own0, rfl, ⟨HM.out.below hb2, hr, ⟨by have := HS.out; show (size : Int) = 1 ∨ (size : Int) = 2 ∨ (size : Int) = 4 ∨ (size : Int) = 8 ∨ (size : Int) = 16; omega, ⟨(by show (0 : Int) ≤ 1; decide), (by show (1 : Int) ≤ 1000000; decide)⟩, ⟨(by show (0 : Int) ≤ 0; decide), (by show (0 : Int) < 18446744073709551616; decide)⟩, ⟨(by show (0 : Int) ≤ 0; decide), (by show (0 : Int) < 18446744073709551616; decide)⟩⟩, fun ho => by have := HM.out.2 gr ho; omega, Nat.le_trans HB.out.size hge⟩, HO.out, below_step HB.out hb2⟩
end
set_option maxRecDepth 100000
theorem finish_gen {W : World} {na : Nat} (n : Nat) (hn : 1 ≤ n ∧ n ≤ 8) (St : Nat → World → Prop) (Fin : World → Prop) (h0 : St 0 W)
    (hs : ∀ i, i + 1 < n → ∀ w, St i w → Calls Try.prog 78 #[.pointer (some ⟨na, 0, none⟩)] w fun e w' => e = .returned (.bool false) ∧ St (i + 1) w')
    (he : ∀ i, i + 1 = n → ∀ w, St i w → Calls Try.prog 78 #[.pointer (some ⟨na, 0, none⟩)] w fun e w' => e = .returned (.bool true) ∧ Fin w')
    (hov : ∀ w, Fin w → Calls Try.prog 57 #[.pointer (some ⟨na, 0, none⟩)] w fun e w' => e = .returned (.bool true) ∧ w' = w) :
    Calls Try.prog 58 #[.pointer (some ⟨na, 0, none⟩)] W fun e w' => e = .returned (.bool true) ∧ Fin w' := by
  have HS := Aside0.mk hs
  have HE := Aside0.mk he
  have HOV := Aside0.mk hov
  have HN := Aside0.mk hn
  have H0 := Aside0.mk h0
  clear hs he hov hn h0
  go_enter Try.func58, Try.ntmps58
  go_wp2
  go_loopw [3] (fun v3 wr => ∃ i : Nat, v3 = .int .i64 (i : Int) ∧ Aside0 (i < n ∧ St i wr)) (fun v3 _ => (10 - intOf v3).toNat)
  case atStart => exact ⟨0, rfl, ⟨by have := HN.out; omega, H0.out⟩⟩
  case round =>
    obtain ⟨i, rfl, HI⟩ := hrel
    have d1 := decide_eq_true (show (i : Int) < 8 by have := HN.out; have := HI.out.1; omega)
    have hw : IntKind.i64.wrap ((i : Int) + 1) = (i : Int) + 1 := by rw [IntKind.wrap_i64]; have := HN.out; have := HI.out.1; omega
    by_cases hi : i + 1 = n
    · have HC := Aside0.mk (HE.out i hi _ HI.out.2)
      clear hi
      go_wp2_with (first | (go_at_call 78; ((with_reducible refine HC.out.mono ?_); rintro e w2 ⟨rfl, hf⟩; have HF := Aside0.mk hf; have HO := Aside0.mk (HOV.out _ hf); clear hf)) | (go_at_call 57; ((with_reducible refine HO.out.mono ?_); rintro e w3 ⟨rfl, hw3⟩; obtain rfl : w2 = w3 := hw3.symm)))
      go_ret
      exact ⟨rfl, HF.out⟩
    · have HC := Aside0.mk (HS.out i (by have := HI.out.1; omega) _ HI.out.2)
      have HLT := Aside0.mk (show i + 1 < n by have := HI.out.1; omega)
      clear hi
      go_wp2_with (first | (go_at_call 78; ((with_reducible refine HC.out.mono ?_); rintro e w2 ⟨rfl, hf⟩; have HF := Aside0.mk hf; clear hf)))
      go_roundw
      case rel => exact ⟨i + 1, by first | rfl | exact congrArg _ hw, ⟨HLT.out, HF.out⟩⟩
      case measure => have := HN.out; have := HLT.out; simp only [intOf]; omega
end Go.Proofs.Ytlcnckbmolefpaa.P
end
