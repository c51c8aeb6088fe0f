/- Walks and laws of several statements of this seat, joined into one text; no condition. -/
import Derived.Test.YtlcnckbmolefpaaProg
import Derived.Below
import Derived.Deep.Draws
import Derived.Deep.AppendLies
import Derived.Maps.AppendAt
import Derived.OwnWalk
import Derived.Laws.BytesArg
import Derived.Laws.MakeOwn
import Derived.Laws.OwnMore
import Derived.Deep.OwnRows
import Derived.Tactics
import Derived.Lib.ConvBytes
import Derived.Laws.Slices
import Derived.WalkKit
import Derived.KernelRfl
import Derived.RowKit3
import Derived.Deep.LoopGhost
import Derived.Deep.QuietTactic
import Derived.BigQuiet
import Derived.WideLaws
import Derived.Deep.DeepCutAuto
import Derived.Deep.CutBlock
import Derived.Deep.RegionHeld3
import Derived.Laws.Rows
import Derived.Lib.AppendStr
import Derived.ArgAppend
import Derived.Laws.IdiomCopy
import Derived.OrdersHeld
import Derived.Laws.BitsLemmas
import Derived.RowKit
import Derived.Laws.StructEq
import Derived.Maps.RangeWalk
import Derived.Maps.OwnRows
import Derived.Maps.Views
import Derived.Maps.OwnSet
import Derived.IntWalk
import Derived.Shelf.SlMaps.Clone
import Derived.Laws.CopyOwn
import Derived.Deep.RegionLaw
import Derived.LoopTactic
import Derived.Outline
import Derived.Lib.BufferMore
import Derived.Deep.CutRange
import Derived.Deep.Slices
import Derived.SizedLaws
import Derived.OpenShut
import Derived.Lib.SmallJoins
import Derived.Test.YtlcnckbmolefpaaMAa0
import Derived.Test.YtlcnckbmolefpaaMAa1
import Derived.Test.YtlcnckbmolefpaaMAa4
section
namespace Go.Proofs.Ytlcnckbmolefpaa.P
open Go.RowKit Go.Maps Go.Proofs.Ytlcnckbmolefpaa.CK Go.Proofs.YtlcnckbmolefpaaW.PrintWords Go.Proofs.YtlcnckbmolefpaaW.PrintLast Go.Proofs.YtlcnckbmolefpaaW.PrintMore
attribute [local go_sem] max2_int min2_int max_two min_two
set_option linter.unusedVariables false
set_option linter.unusedSimpArgs false
set_option maxRecDepth 100000
def RefTo (W w' : World) (base : Nat) (own : Nat → Prop) (g : Nat) (M : MS) (bd : List S28) : Prop := ∃ vw vb vl vd vo, RefV w' base own g vw vb vl vd vo M bd ∧ Kept W w' own ∧ Below base W w'
theorem info28 : (Try.prog.info? 28).map (fun i => (i.zero, i.size, i.bytes)) = some (some (.agg #[(.int .i64 0), (.int .i64 0)]), 2, 16) := by kernel_rfl
theorem Do_no_w (who kind at_ x : Int) (vB : Value) (hk : kind < 2) (W : World) {base : Nat} {own : Nat → Prop} {g : Nat} {vw vb vl vd vo : Value} {M : MS} {bd : List S28} (h : RefV W base own g vw vb vl vd vo M bd) (hbd : bd.length ≤ 1000000) (hq : M.fits who at_ (M.words.length : Int) = false) :
    Calls Try.prog 42 #[.pointer (some ⟨g, 0, none⟩), .int .i64 who, .int .i64 kind, .int .i64 at_, .int .u64 x, vB] W fun e w' => e = .returned (.tuple #[.int .u64 0, .slice none 0 0, .bool false]) ∧ w' = W := by
  obtain ⟨hx0, hx1, hx2, hx3, hx4, -, -⟩ := h.cell
  obtain ⟨A0, c0, rfl⟩ := Kd.R_slice h.hw
  obtain ⟨A1, c1, rfl⟩ := Kd.R_slice h.hb
  obtain ⟨A2, c2, rfl⟩ := Kd.R_slice h.hl
  have H := Aside0.mk h
  have HBD := Aside0.mk hbd
  have HQ := Aside0.mk hq
  clear h hbd hq
  have f1 := decide_eq_true hk
  go_enter Try.func42, Try.ntmps42
  by_cases h1 : who < 0
  · have e1 := decide_eq_true h1
    go_wp2
    ((try simp only [Exit.inBlock, Exit.then]); first | refine bodyPost_ret (results_tmp3 rfl _ _ _) rfl ?_ | refine bodyPost_end (results_tmp3 rfl _ _ _) rfl ?_)
    exact ⟨rfl, rfl⟩
  · have e1 := decide_eq_false h1
    by_cases h2 : at_ < 0
    · have e2 := decide_eq_true h2
      go_wp2
      ((try simp only [Exit.inBlock, Exit.then]); first | refine bodyPost_ret (results_tmp3 rfl _ _ _) rfl ?_ | refine bodyPost_end (results_tmp3 rfl _ _ _) rfl ?_)
      exact ⟨rfl, rfl⟩
    · have e2 := decide_eq_false h2
      by_cases h3 : (M.words.length : Int) ≤ at_
      · have e3 := decide_eq_true h3
        go_wp2
        ((try simp only [Exit.inBlock, Exit.then]); first | refine bodyPost_ret (results_tmp3 rfl _ _ _) rfl ?_ | refine bodyPost_end (results_tmp3 rfl _ _ _) rfl ?_)
        exact ⟨rfl, rfl⟩
      · have e3 := decide_eq_false h3
        have e4 : (M.beds who).isSome = true := by
          have hq := HQ.out
          unfold MS.fits at hq
          rw [decide_eq_true (show 0 ≤ who by omega), decide_eq_true (show 0 ≤ at_ by omega), decide_eq_true (show at_ < (M.words.length : Int) by omega)] at hq
          simpa using hq
        go_wp2_with (first | (go_at_call 45; ((with_reducible refine (rAsleep_V who W H.out HBD.out).mono ?_); rintro e w1 ⟨rfl, hw1⟩; obtain rfl : W = w1 := hw1.symm; simp only [e4])))
        ((try simp only [Exit.inBlock, Exit.then]); first | refine bodyPost_ret (results_tmp3 rfl _ _ _) rfl ?_ | refine bodyPost_end (results_tmp3 rfl _ _ _) rfl ?_)
        exact ⟨rfl, rfl⟩
theorem Do_no_b (who kind at_ x : Int) (vB : Value) (hk : ¬ kind < 2) (hk2 : kind < 4) (W : World) {base : Nat} {own : Nat → Prop} {g : Nat} {vw vb vl vd vo : Value} {M : MS} {bd : List S28} (h : RefV W base own g vw vb vl vd vo M bd) (hbd : bd.length ≤ 1000000) (hq : M.fits who at_ (M.boxes.length : Int) = false) :
    Calls Try.prog 42 #[.pointer (some ⟨g, 0, none⟩), .int .i64 who, .int .i64 kind, .int .i64 at_, .int .u64 x, vB] W fun e w' => e = .returned (.tuple #[.int .u64 0, .slice none 0 0, .bool false]) ∧ w' = W := by
  obtain ⟨hx0, hx1, hx2, hx3, hx4, -, -⟩ := h.cell
  obtain ⟨A0, c0, rfl⟩ := Kd.R_slice h.hw
  obtain ⟨A1, c1, rfl⟩ := Kd.R_slice h.hb
  obtain ⟨A2, c2, rfl⟩ := Kd.R_slice h.hl
  rw [List.length_map] at hx1
  have H := Aside0.mk h
  have HBD := Aside0.mk hbd
  have HQ := Aside0.mk hq
  clear h hbd hq
  have f1 := decide_eq_false hk
  have f2 := decide_eq_true hk2
  go_enter Try.func42, Try.ntmps42
  by_cases h1 : who < 0
  · have e1 := decide_eq_true h1
    go_wp2
    ((try simp only [Exit.inBlock, Exit.then]); first | refine bodyPost_ret (results_tmp3 rfl _ _ _) rfl ?_ | refine bodyPost_end (results_tmp3 rfl _ _ _) rfl ?_)
    exact ⟨rfl, rfl⟩
  · have e1 := decide_eq_false h1
    by_cases h2 : at_ < 0
    · have e2 := decide_eq_true h2
      go_wp2
      ((try simp only [Exit.inBlock, Exit.then]); first | refine bodyPost_ret (results_tmp3 rfl _ _ _) rfl ?_ | refine bodyPost_end (results_tmp3 rfl _ _ _) rfl ?_)
      exact ⟨rfl, rfl⟩
    · have e2 := decide_eq_false h2
      by_cases h3 : (M.boxes.length : Int) ≤ at_
      · have e3 := decide_eq_true h3
        go_wp2
        ((try simp only [Exit.inBlock, Exit.then]); first | refine bodyPost_ret (results_tmp3 rfl _ _ _) rfl ?_ | refine bodyPost_end (results_tmp3 rfl _ _ _) rfl ?_)
        exact ⟨rfl, rfl⟩
      · have e3 := decide_eq_false h3
        have e4 : (M.beds who).isSome = true := by
          have hq := HQ.out
          unfold MS.fits at hq
          rw [decide_eq_true (show 0 ≤ who by omega), decide_eq_true (show 0 ≤ at_ by omega), decide_eq_true (show at_ < (M.boxes.length : Int) by omega)] at hq
          simpa using hq
        go_wp2_with (first | (go_at_call 45; ((with_reducible refine (rAsleep_V who W H.out HBD.out).mono ?_); rintro e w1 ⟨rfl, hw1⟩; obtain rfl : W = w1 := hw1.symm; simp only [e4])))
        ((try simp only [Exit.inBlock, Exit.then]); first | refine bodyPost_ret (results_tmp3 rfl _ _ _) rfl ?_ | refine bodyPost_end (results_tmp3 rfl _ _ _) rfl ?_)
        exact ⟨rfl, rfl⟩
theorem Do_no_l (who kind at_ x : Int) (vB : Value) (hk2 : ¬ kind < 4) (W : World) {base : Nat} {own : Nat → Prop} {g : Nat} {vw vb vl vd vo : Value} {M : MS} {bd : List S28} (h : RefV W base own g vw vb vl vd vo M bd) (hbd : bd.length ≤ 1000000) (hq : M.fits who at_ (M.latches.length : Int) = false) :
    Calls Try.prog 42 #[.pointer (some ⟨g, 0, none⟩), .int .i64 who, .int .i64 kind, .int .i64 at_, .int .u64 x, vB] W fun e w' => e = .returned (.tuple #[.int .u64 0, .slice none 0 0, .bool false]) ∧ w' = W := by
  obtain ⟨hx0, hx1, hx2, hx3, hx4, -, -⟩ := h.cell
  obtain ⟨A0, c0, rfl⟩ := Kd.R_slice h.hw
  obtain ⟨A1, c1, rfl⟩ := Kd.R_slice h.hb
  obtain ⟨A2, c2, rfl⟩ := Kd.R_slice h.hl
  have H := Aside0.mk h
  have HBD := Aside0.mk hbd
  have HQ := Aside0.mk hq
  clear h hbd hq
  have f1 := decide_eq_false (show ¬ kind < 2 by omega)
  have f2 := decide_eq_false hk2
  go_enter Try.func42, Try.ntmps42
  by_cases h1 : who < 0
  · have e1 := decide_eq_true h1
    go_wp2
    ((try simp only [Exit.inBlock, Exit.then]); first | refine bodyPost_ret (results_tmp3 rfl _ _ _) rfl ?_ | refine bodyPost_end (results_tmp3 rfl _ _ _) rfl ?_)
    exact ⟨rfl, rfl⟩
  · have e1 := decide_eq_false h1
    by_cases h2 : at_ < 0
    · have e2 := decide_eq_true h2
      go_wp2
      ((try simp only [Exit.inBlock, Exit.then]); first | refine bodyPost_ret (results_tmp3 rfl _ _ _) rfl ?_ | refine bodyPost_end (results_tmp3 rfl _ _ _) rfl ?_)
      exact ⟨rfl, rfl⟩
    · have e2 := decide_eq_false h2
      by_cases h3 : (M.latches.length : Int) ≤ at_
      · have e3 := decide_eq_true h3
        go_wp2
        ((try simp only [Exit.inBlock, Exit.then]); first | refine bodyPost_ret (results_tmp3 rfl _ _ _) rfl ?_ | refine bodyPost_end (results_tmp3 rfl _ _ _) rfl ?_)
        exact ⟨rfl, rfl⟩
      · have e3 := decide_eq_false h3
        have e4 : (M.beds who).isSome = true := by
          have hq := HQ.out
          unfold MS.fits at hq
          rw [decide_eq_true (show 0 ≤ who by omega), decide_eq_true (show 0 ≤ at_ by omega), decide_eq_true (show at_ < (M.latches.length : Int) by omega)] at hq
          simpa using hq
        go_wp2_with (first | (go_at_call 45; ((with_reducible refine (rAsleep_V who W H.out HBD.out).mono ?_); rintro e w1 ⟨rfl, hw1⟩; obtain rfl : W = w1 := hw1.symm; simp only [e4])))
        ((try simp only [Exit.inBlock, Exit.then]); first | refine bodyPost_ret (results_tmp3 rfl _ _ _) rfl ?_ | refine bodyPost_end (results_tmp3 rfl _ _ _) rfl ?_)
        exact ⟨rfl, rfl⟩
theorem Do0 (who at_ : Int) (x : Int) (vB : Value) (W : World) {base : Nat} {own : Nat → Prop} {g : Nat} {vw vb vl vd vo : Value} {M : MS} {bd : List S28} (h : RefV W base own g vw vb vl vd vo M bd) (hf : ∀ k, W.heap.size ≤ k → own k) (hlog : M.log.length ≤ 1000000) (hbd : bd.length ≤ 1000000) (hq : M.fits who at_ (M.words.length : Int) = true)  :
    Calls Try.prog 42 #[.pointer (some ⟨g, 0, none⟩), .int .i64 who, .int .i64 0, .int .i64 at_, .int .u64 x, vB] W fun e w' => e = .returned (.tuple #[.int .u64 (rd M.words at_), .slice none 0 0, .bool true]) ∧ RefTo W w' base own g (M.note who 0 at_ true) bd := by
  obtain ⟨q0, q1, q2, q3⟩ := fits_at hq
  have hbase : base ≤ W.heap.size := Nat.le_trans h.bg (Nat.le_of_lt (blk_lt h.hg))
  obtain ⟨hx0, hx1, hx2, hx3, hx4, -, -⟩ := h.cell
  have e1 := decide_eq_false (show ¬ who < 0 by omega)
  have e2 := decide_eq_false (show ¬ at_ < 0 by omega)
  have e3 := decide_eq_false (show ¬ (M.words.length : Int) ≤ at_ by omega)
  obtain ⟨A2, c2, rfl⟩ := Kd.R_slice h.hl
  obtain ⟨gw, cw, rfl, -⟩ := Kd.R_form h.hw (by omega)
  obtain ⟨hc0, hz0⟩ := Kd.R_celln 0 h.hw at_ q1 q2
  replace hc0 : W.cell? ⟨gw, at_.toNat, none⟩ = some (.int .u64 (rd M.words at_)) := hc0
  have H := Aside0.mk h
  have HBD := Aside0.mk hbd
  have HF := Aside0.mk hf
  have HL := Aside0.mk hlog
  have HS := Aside0.mk hbase
  clear h hbd hf hlog hbase
  go_enter Try.func42, Try.ntmps42
  go_upto_region 41 with (first | (go_at_call 45; ((with_reducible refine (rAsleep_V who W H.out HBD.out).mono ?_); rintro e w1 ⟨rfl, hw1⟩; obtain rfl : W = w1 := hw1.symm; simp only [q3])))
  have HR := H
  have HK := Aside0.mk (Kept.refl W own)
  have HB := Aside0.mk (Below.refl base W)
  have HN := Aside0.mk (Kd.R_ne HR.out.ho HR.out.hg (by decide))
  have HF1 := Aside0.mk (show ∀ k, W.heap.size ≤ k → own k from fun k hk => HF.out k (Nat.le_trans HK.out.1 hk))
  go_wp2_with (at_builtin; (refine Kd.R_append k127 (w0 := W) base rfl (.tmp 199) (.tmp 205) 32 127 (.agg #[(.int .i64 0), (.int .i64 0), (.int .i64 0), (.bool false)]) 32 rfl Try.underlying32 info127 rfl (by decide) (by omega) _ (M.log.map lg) (⟨who, 0, at_, true⟩ : S127) [.int .i64 who, .int .i64 0, .int .i64 at_, .bool true] own (fun _ => False) rfl rfl (k127_mkM _ _ _ (⟨who, 0, at_, true⟩ : S127)) (fun _ hk => hk.elim) HF1.out HR.out.ho (Below.refl _ _) (Nat.le_trans HS.out HK.out.1) (by have := HL.out; rw [List.length_map]; omega) ?_; intro v9 w9 ho9 hb9 hg9 hat9; obtain ⟨A9, n9, c9, rfl⟩ := R_any ho9; have hg8 := blk_grown HR.out.hg hg9 HN.out; have hx9 : w9.cell? ⟨g, 4, none⟩ = some _ := (blk_cell hg8 4).trans rfl; have hz9 := blk_frozen hg8 4; have HG9 := Aside0.mk hg9; have HO9 := Aside0.mk ho9; have HB9 := Aside0.mk hb9; clear hx4 hg8 hg9 ho9 hb9 hat9))
  ((try simp only [Exit.inBlock, Exit.then]); first | refine bodyPost_ret (results_tmp3 rfl _ _ _) rfl ?_ | refine bodyPost_end (results_tmp3 rfl _ _ _) rfl ?_)
  refine ⟨rfl, _, _, _, _, _, HR.out.put_o (os := M.log ++ [⟨who, 0, at_, true⟩]) (by rw [List.map_append]; exact HO9.out) HG9.out, (HK.out.of_grown HG9.out (fun k hk => .inl (HR.out.ho.1 k hk))).setCell (.inl HR.out.og) _, (HB.out.trans HB9.out).setCell HR.out.bg _⟩
theorem Do1 (who at_ : Int) (x : Int) (vB : Value) (W : World) {base : Nat} {own : Nat → Prop} {g : Nat} {vw vb vl vd vo : Value} {M : MS} {bd : List S28} (h : RefV W base own g vw vb vl vd vo M bd) (hf : ∀ k, W.heap.size ≤ k → own k) (hlog : M.log.length ≤ 1000000) (hbd : bd.length ≤ 1000000) (hq : M.fits who at_ (M.words.length : Int) = true)  :
    Calls Try.prog 42 #[.pointer (some ⟨g, 0, none⟩), .int .i64 who, .int .i64 1, .int .i64 at_, .int .u64 x, vB] W fun e w' => e = .returned (.tuple #[.int .u64 0, .slice none 0 0, .bool true]) ∧ RefTo W w' base own g { M.note who 1 at_ true with words := M.words.set at_.toNat x } bd := by
  obtain ⟨q0, q1, q2, q3⟩ := fits_at hq
  have hbase : base ≤ W.heap.size := Nat.le_trans h.bg (Nat.le_of_lt (blk_lt h.hg))
  obtain ⟨hx0, hx1, hx2, hx3, hx4, -, -⟩ := h.cell
  have e1 := decide_eq_false (show ¬ who < 0 by omega)
  have e2 := decide_eq_false (show ¬ at_ < 0 by omega)
  have e3 := decide_eq_false (show ¬ (M.words.length : Int) ≤ at_ by omega)
  obtain ⟨A2, c2, rfl⟩ := Kd.R_slice h.hl
  obtain ⟨gw, cw, rfl, -⟩ := Kd.R_form h.hw (by omega)
  obtain ⟨hc0, hz0⟩ := Kd.R_celln 0 h.hw at_ q1 q2
  replace hc0 : W.cell? ⟨gw, at_.toNat, none⟩ = some (.int .u64 (rd M.words at_)) := hc0
  have H := Aside0.mk h
  have HBD := Aside0.mk hbd
  have HF := Aside0.mk hf
  have HL := Aside0.mk hlog
  have HS := Aside0.mk hbase
  clear h hbd hf hlog hbase
  have hp := Kd.R_putg H.out.hw at_ x
  have HR := Aside0.mk (H.out.put_w hp.1 hp.2)
  have HK := Aside0.mk ((Kept.refl W own).setCell (.inl (H.out.hw.1 gw rfl)) (p := ⟨gw, at_.toNat, none⟩) (.int .u64 x))
  have HB := Aside0.mk ((Below.refl base W).setCell (p := ⟨gw, at_.toNat, none⟩) (Kd.R_base H.out.hw gw rfl) (.int .u64 x))
  clear hp
  go_enter Try.func42, Try.ntmps42
  go_upto_region 41 with (first | (go_at_call 45; ((with_reducible refine (rAsleep_V who W H.out HBD.out).mono ?_); rintro e w1 ⟨rfl, hw1⟩; obtain rfl : W = w1 := hw1.symm; simp only [q3])))
  generalize World.setCell _ _ _ = w1 at HR HK HB ⊢
  obtain ⟨hy0, hy1, hy2, hy3, hy4, -, -⟩ := HR.out.cell
  have HN := Aside0.mk (Kd.R_ne HR.out.ho HR.out.hg (by decide))
  have HF1 := Aside0.mk (show ∀ k, w1.heap.size ≤ k → own k from fun k hk => HF.out k (Nat.le_trans HK.out.1 hk))
  go_wp2_with (at_builtin; (refine Kd.R_append k127 (w0 := w1) base rfl (.tmp 199) (.tmp 205) 32 127 (.agg #[(.int .i64 0), (.int .i64 0), (.int .i64 0), (.bool false)]) 32 rfl Try.underlying32 info127 rfl (by decide) (by omega) _ (M.log.map lg) (⟨who, 1, at_, true⟩ : S127) [.int .i64 who, .int .i64 1, .int .i64 at_, .bool true] own (fun _ => False) rfl rfl (k127_mkM _ _ _ (⟨who, 1, at_, true⟩ : S127)) (fun _ hk => hk.elim) HF1.out HR.out.ho (Below.refl _ _) (Nat.le_trans HS.out HK.out.1) (by have := HL.out; rw [List.length_map]; omega) ?_; intro v9 w9 ho9 hb9 hg9 hat9; obtain ⟨A9, n9, c9, rfl⟩ := R_any ho9; have hg8 := blk_grown HR.out.hg hg9 HN.out; have hx9 : w9.cell? ⟨g, 4, none⟩ = some _ := (blk_cell hg8 4).trans rfl; have hz9 := blk_frozen hg8 4; have HG9 := Aside0.mk hg9; have HO9 := Aside0.mk ho9; have HB9 := Aside0.mk hb9; clear hy4 hg8 hg9 ho9 hb9 hat9))
  ((try simp only [Exit.inBlock, Exit.then]); first | refine bodyPost_ret (results_tmp3 rfl _ _ _) rfl ?_ | refine bodyPost_end (results_tmp3 rfl _ _ _) rfl ?_)
  refine ⟨rfl, _, _, _, _, _, HR.out.put_o (os := M.log ++ [⟨who, 1, at_, true⟩]) (by rw [List.map_append]; exact HO9.out) HG9.out, (HK.out.of_grown HG9.out (fun k hk => .inl (HR.out.ho.1 k hk))).setCell (.inl HR.out.og) _, (HB.out.trans HB9.out).setCell HR.out.bg _⟩
theorem Do4n (who at_ : Int) (x : Int) (vB : Value) (W : World) {base : Nat} {own : Nat → Prop} {g : Nat} {vw vb vl vd vo : Value} {M : MS} {bd : List S28} (h : RefV W base own g vw vb vl vd vo M bd) (hf : ∀ k, W.heap.size ≤ k → own k) (hlog : M.log.length ≤ 1000000) (hbd : bd.length ≤ 1000000) (hq : M.fits who at_ (M.latches.length : Int) = true) (hr : rd M.latches at_ ≠ -1) :
    Calls Try.prog 42 #[.pointer (some ⟨g, 0, none⟩), .int .i64 who, .int .i64 4, .int .i64 at_, .int .u64 x, vB] W fun e w' => e = .returned (.tuple #[.int .u64 0, .slice none 0 0, .bool false]) ∧ RefTo W w' base own g (M.note who 4 at_ false) bd := by
  obtain ⟨q0, q1, q2, q3⟩ := fits_at hq
  have hbase : base ≤ W.heap.size := Nat.le_trans h.bg (Nat.le_of_lt (blk_lt h.hg))
  obtain ⟨hx0, hx1, hx2, hx3, hx4, -, -⟩ := h.cell
  have e1 := decide_eq_false (show ¬ who < 0 by omega)
  have e2 := decide_eq_false (show ¬ at_ < 0 by omega)
  have e3 := decide_eq_false (show ¬ (M.latches.length : Int) ≤ at_ by omega)
  obtain ⟨gw, cw, rfl, -⟩ := Kd.R_form h.hl (by omega)
  obtain ⟨hc0, hz0⟩ := Kd.R_celln 0 h.hl at_ q1 q2
  replace hc0 : W.cell? ⟨gw, at_.toNat, none⟩ = some (.int .i64 (rd M.latches at_)) := hc0
  have d0 : (rd M.latches at_ == -1) = false := beq_false_of_ne hr
  have H := Aside0.mk h
  have HBD := Aside0.mk hbd
  have HF := Aside0.mk hf
  have HL := Aside0.mk hlog
  have HS := Aside0.mk hbase
  clear h hbd hf hlog hbase
  clear hr
  go_enter Try.func42, Try.ntmps42
  go_upto_region 41 with (first | (go_at_call 45; ((with_reducible refine (rAsleep_V who W H.out HBD.out).mono ?_); rintro e w1 ⟨rfl, hw1⟩; obtain rfl : W = w1 := hw1.symm; simp only [q3])))
  have HR := H
  have HK := Aside0.mk (Kept.refl W own)
  have HB := Aside0.mk (Below.refl base W)
  have HN := Aside0.mk (Kd.R_ne HR.out.ho HR.out.hg (by decide))
  have HF1 := Aside0.mk (show ∀ k, W.heap.size ≤ k → own k from fun k hk => HF.out k (Nat.le_trans HK.out.1 hk))
  go_wp2_with (at_builtin; (refine Kd.R_append k127 (w0 := W) base rfl (.tmp 199) (.tmp 205) 32 127 (.agg #[(.int .i64 0), (.int .i64 0), (.int .i64 0), (.bool false)]) 32 rfl Try.underlying32 info127 rfl (by decide) (by omega) _ (M.log.map lg) (⟨who, 4, at_, false⟩ : S127) [.int .i64 who, .int .i64 4, .int .i64 at_, .bool false] own (fun _ => False) rfl rfl (k127_mkM _ _ _ (⟨who, 4, at_, false⟩ : S127)) (fun _ hk => hk.elim) HF1.out HR.out.ho (Below.refl _ _) (Nat.le_trans HS.out HK.out.1) (by have := HL.out; rw [List.length_map]; omega) ?_; intro v9 w9 ho9 hb9 hg9 hat9; obtain ⟨A9, n9, c9, rfl⟩ := R_any ho9; have hg8 := blk_grown HR.out.hg hg9 HN.out; have hx9 : w9.cell? ⟨g, 4, none⟩ = some _ := (blk_cell hg8 4).trans rfl; have hz9 := blk_frozen hg8 4; have HG9 := Aside0.mk hg9; have HO9 := Aside0.mk ho9; have HB9 := Aside0.mk hb9; clear hx4 hg8 hg9 ho9 hb9 hat9))
  ((try simp only [Exit.inBlock, Exit.then]); first | refine bodyPost_ret (results_tmp3 rfl _ _ _) rfl ?_ | refine bodyPost_end (results_tmp3 rfl _ _ _) rfl ?_)
  refine ⟨rfl, _, _, _, _, _, HR.out.put_o (os := M.log ++ [⟨who, 4, at_, false⟩]) (by rw [List.map_append]; exact HO9.out) HG9.out, (HK.out.of_grown HG9.out (fun k hk => .inl (HR.out.ho.1 k hk))).setCell (.inl HR.out.og) _, (HB.out.trans HB9.out).setCell HR.out.bg _⟩
theorem Do4y (who at_ : Int) (x : Int) (vB : Value) (W : World) {base : Nat} {own : Nat → Prop} {g : Nat} {vw vb vl vd vo : Value} {M : MS} {bd : List S28} (h : RefV W base own g vw vb vl vd vo M bd) (hf : ∀ k, W.heap.size ≤ k → own k) (hlog : M.log.length ≤ 1000000) (hbd : bd.length ≤ 1000000) (hq : M.fits who at_ (M.latches.length : Int) = true) (hr : rd M.latches at_ = -1) :
    Calls Try.prog 42 #[.pointer (some ⟨g, 0, none⟩), .int .i64 who, .int .i64 4, .int .i64 at_, .int .u64 x, vB] W fun e w' => e = .returned (.tuple #[.int .u64 0, .slice none 0 0, .bool true]) ∧ RefTo W w' base own g { M.note who 4 at_ true with latches := M.latches.set at_.toNat who } bd := by
  obtain ⟨q0, q1, q2, q3⟩ := fits_at hq
  have hbase : base ≤ W.heap.size := Nat.le_trans h.bg (Nat.le_of_lt (blk_lt h.hg))
  obtain ⟨hx0, hx1, hx2, hx3, hx4, -, -⟩ := h.cell
  have e1 := decide_eq_false (show ¬ who < 0 by omega)
  have e2 := decide_eq_false (show ¬ at_ < 0 by omega)
  have e3 := decide_eq_false (show ¬ (M.latches.length : Int) ≤ at_ by omega)
  obtain ⟨gw, cw, rfl, -⟩ := Kd.R_form h.hl (by omega)
  obtain ⟨hc0, hz0⟩ := Kd.R_celln 0 h.hl at_ q1 q2
  replace hc0 : W.cell? ⟨gw, at_.toNat, none⟩ = some (.int .i64 (rd M.latches at_)) := hc0
  have d0 : (rd M.latches at_ == -1) = true := beq_iff_eq.2 hr
  have H := Aside0.mk h
  have HBD := Aside0.mk hbd
  have HF := Aside0.mk hf
  have HL := Aside0.mk hlog
  have HS := Aside0.mk hbase
  clear h hbd hf hlog hbase
  have hp := Kd.R_putg H.out.hl at_ who
  have HR := Aside0.mk (H.out.put_l hp.1 hp.2)
  have HK := Aside0.mk ((Kept.refl W own).setCell (.inl (H.out.hl.1 gw rfl)) (p := ⟨gw, at_.toNat, none⟩) (.int .i64 who))
  have HB := Aside0.mk ((Below.refl base W).setCell (p := ⟨gw, at_.toNat, none⟩) (Kd.R_base H.out.hl gw rfl) (.int .i64 who))
  clear hp
  clear hr
  go_enter Try.func42, Try.ntmps42
  go_upto_region 41 with (first | (go_at_call 45; ((with_reducible refine (rAsleep_V who W H.out HBD.out).mono ?_); rintro e w1 ⟨rfl, hw1⟩; obtain rfl : W = w1 := hw1.symm; simp only [q3])))
  generalize World.setCell _ _ _ = w1 at HR HK HB ⊢
  obtain ⟨hy0, hy1, hy2, hy3, hy4, -, -⟩ := HR.out.cell
  have HN := Aside0.mk (Kd.R_ne HR.out.ho HR.out.hg (by decide))
  have HF1 := Aside0.mk (show ∀ k, w1.heap.size ≤ k → own k from fun k hk => HF.out k (Nat.le_trans HK.out.1 hk))
  go_wp2_with (at_builtin; (refine Kd.R_append k127 (w0 := w1) base rfl (.tmp 199) (.tmp 205) 32 127 (.agg #[(.int .i64 0), (.int .i64 0), (.int .i64 0), (.bool false)]) 32 rfl Try.underlying32 info127 rfl (by decide) (by omega) _ (M.log.map lg) (⟨who, 4, at_, true⟩ : S127) [.int .i64 who, .int .i64 4, .int .i64 at_, .bool true] own (fun _ => False) rfl rfl (k127_mkM _ _ _ (⟨who, 4, at_, true⟩ : S127)) (fun _ hk => hk.elim) HF1.out HR.out.ho (Below.refl _ _) (Nat.le_trans HS.out HK.out.1) (by have := HL.out; rw [List.length_map]; omega) ?_; intro v9 w9 ho9 hb9 hg9 hat9; obtain ⟨A9, n9, c9, rfl⟩ := R_any ho9; have hg8 := blk_grown HR.out.hg hg9 HN.out; have hx9 : w9.cell? ⟨g, 4, none⟩ = some _ := (blk_cell hg8 4).trans rfl; have hz9 := blk_frozen hg8 4; have HG9 := Aside0.mk hg9; have HO9 := Aside0.mk ho9; have HB9 := Aside0.mk hb9; clear hy4 hg8 hg9 ho9 hb9 hat9))
  ((try simp only [Exit.inBlock, Exit.then]); first | refine bodyPost_ret (results_tmp3 rfl _ _ _) rfl ?_ | refine bodyPost_end (results_tmp3 rfl _ _ _) rfl ?_)
  refine ⟨rfl, _, _, _, _, _, HR.out.put_o (os := M.log ++ [⟨who, 4, at_, true⟩]) (by rw [List.map_append]; exact HO9.out) HG9.out, (HK.out.of_grown HG9.out (fun k hk => .inl (HR.out.ho.1 k hk))).setCell (.inl HR.out.og) _, (HB.out.trans HB9.out).setCell HR.out.bg _⟩
theorem Do5n (who at_ : Int) (x : Int) (vB : Value) (W : World) {base : Nat} {own : Nat → Prop} {g : Nat} {vw vb vl vd vo : Value} {M : MS} {bd : List S28} (h : RefV W base own g vw vb vl vd vo M bd) (hf : ∀ k, W.heap.size ≤ k → own k) (hlog : M.log.length ≤ 1000000) (hbd : bd.length ≤ 1000000) (hq : M.fits who at_ (M.latches.length : Int) = true) (hr : rd M.latches at_ ≠ who) :
    Calls Try.prog 42 #[.pointer (some ⟨g, 0, none⟩), .int .i64 who, .int .i64 5, .int .i64 at_, .int .u64 x, vB] W fun e w' => e = .returned (.tuple #[.int .u64 0, .slice none 0 0, .bool false]) ∧ RefTo W w' base own g (M.note who 5 at_ false) bd := by
  obtain ⟨q0, q1, q2, q3⟩ := fits_at hq
  have hbase : base ≤ W.heap.size := Nat.le_trans h.bg (Nat.le_of_lt (blk_lt h.hg))
  obtain ⟨hx0, hx1, hx2, hx3, hx4, -, -⟩ := h.cell
  have e1 := decide_eq_false (show ¬ who < 0 by omega)
  have e2 := decide_eq_false (show ¬ at_ < 0 by omega)
  have e3 := decide_eq_false (show ¬ (M.latches.length : Int) ≤ at_ by omega)
  obtain ⟨gw, cw, rfl, -⟩ := Kd.R_form h.hl (by omega)
  obtain ⟨hc0, hz0⟩ := Kd.R_celln 0 h.hl at_ q1 q2
  replace hc0 : W.cell? ⟨gw, at_.toNat, none⟩ = some (.int .i64 (rd M.latches at_)) := hc0
  have d0 : (rd M.latches at_ == who) = false := beq_false_of_ne hr
  have H := Aside0.mk h
  have HBD := Aside0.mk hbd
  have HF := Aside0.mk hf
  have HL := Aside0.mk hlog
  have HS := Aside0.mk hbase
  clear h hbd hf hlog hbase
  clear hr
  go_enter Try.func42, Try.ntmps42
  go_upto_region 41 with (first | (go_at_call 45; ((with_reducible refine (rAsleep_V who W H.out HBD.out).mono ?_); rintro e w1 ⟨rfl, hw1⟩; obtain rfl : W = w1 := hw1.symm; simp only [q3])))
  have HR := H
  have HK := Aside0.mk (Kept.refl W own)
  have HB := Aside0.mk (Below.refl base W)
  have HN := Aside0.mk (Kd.R_ne HR.out.ho HR.out.hg (by decide))
  have HF1 := Aside0.mk (show ∀ k, W.heap.size ≤ k → own k from fun k hk => HF.out k (Nat.le_trans HK.out.1 hk))
  go_wp2_with (at_builtin; (refine Kd.R_append k127 (w0 := W) base rfl (.tmp 199) (.tmp 205) 32 127 (.agg #[(.int .i64 0), (.int .i64 0), (.int .i64 0), (.bool false)]) 32 rfl Try.underlying32 info127 rfl (by decide) (by omega) _ (M.log.map lg) (⟨who, 5, at_, false⟩ : S127) [.int .i64 who, .int .i64 5, .int .i64 at_, .bool false] own (fun _ => False) rfl rfl (k127_mkM _ _ _ (⟨who, 5, at_, false⟩ : S127)) (fun _ hk => hk.elim) HF1.out HR.out.ho (Below.refl _ _) (Nat.le_trans HS.out HK.out.1) (by have := HL.out; rw [List.length_map]; omega) ?_; intro v9 w9 ho9 hb9 hg9 hat9; obtain ⟨A9, n9, c9, rfl⟩ := R_any ho9; have hg8 := blk_grown HR.out.hg hg9 HN.out; have hx9 : w9.cell? ⟨g, 4, none⟩ = some _ := (blk_cell hg8 4).trans rfl; have hz9 := blk_frozen hg8 4; have HG9 := Aside0.mk hg9; have HO9 := Aside0.mk ho9; have HB9 := Aside0.mk hb9; clear hx4 hg8 hg9 ho9 hb9 hat9))
  ((try simp only [Exit.inBlock, Exit.then]); first | refine bodyPost_ret (results_tmp3 rfl _ _ _) rfl ?_ | refine bodyPost_end (results_tmp3 rfl _ _ _) rfl ?_)
  refine ⟨rfl, _, _, _, _, _, HR.out.put_o (os := M.log ++ [⟨who, 5, at_, false⟩]) (by rw [List.map_append]; exact HO9.out) HG9.out, (HK.out.of_grown HG9.out (fun k hk => .inl (HR.out.ho.1 k hk))).setCell (.inl HR.out.og) _, (HB.out.trans HB9.out).setCell HR.out.bg _⟩
theorem Do5y (who at_ : Int) (x : Int) (vB : Value) (W : World) {base : Nat} {own : Nat → Prop} {g : Nat} {vw vb vl vd vo : Value} {M : MS} {bd : List S28} (h : RefV W base own g vw vb vl vd vo M bd) (hf : ∀ k, W.heap.size ≤ k → own k) (hlog : M.log.length ≤ 1000000) (hbd : bd.length ≤ 1000000) (hq : M.fits who at_ (M.latches.length : Int) = true) (hr : rd M.latches at_ = who) :
    Calls Try.prog 42 #[.pointer (some ⟨g, 0, none⟩), .int .i64 who, .int .i64 5, .int .i64 at_, .int .u64 x, vB] W fun e w' => e = .returned (.tuple #[.int .u64 0, .slice none 0 0, .bool true]) ∧ RefTo W w' base own g { M.note who 5 at_ true with latches := M.latches.set at_.toNat (-1) } bd := by
  obtain ⟨q0, q1, q2, q3⟩ := fits_at hq
  have hbase : base ≤ W.heap.size := Nat.le_trans h.bg (Nat.le_of_lt (blk_lt h.hg))
  obtain ⟨hx0, hx1, hx2, hx3, hx4, -, -⟩ := h.cell
  have e1 := decide_eq_false (show ¬ who < 0 by omega)
  have e2 := decide_eq_false (show ¬ at_ < 0 by omega)
  have e3 := decide_eq_false (show ¬ (M.latches.length : Int) ≤ at_ by omega)
  obtain ⟨gw, cw, rfl, -⟩ := Kd.R_form h.hl (by omega)
  obtain ⟨hc0, hz0⟩ := Kd.R_celln 0 h.hl at_ q1 q2
  replace hc0 : W.cell? ⟨gw, at_.toNat, none⟩ = some (.int .i64 (rd M.latches at_)) := hc0
  have d0 : (rd M.latches at_ == who) = true := beq_iff_eq.2 hr
  have H := Aside0.mk h
  have HBD := Aside0.mk hbd
  have HF := Aside0.mk hf
  have HL := Aside0.mk hlog
  have HS := Aside0.mk hbase
  clear h hbd hf hlog hbase
  have hp := Kd.R_putg H.out.hl at_ (-1)
  have HR := Aside0.mk (H.out.put_l hp.1 hp.2)
  have HK := Aside0.mk ((Kept.refl W own).setCell (.inl (H.out.hl.1 gw rfl)) (p := ⟨gw, at_.toNat, none⟩) (.int .i64 (-1)))
  have HB := Aside0.mk ((Below.refl base W).setCell (p := ⟨gw, at_.toNat, none⟩) (Kd.R_base H.out.hl gw rfl) (.int .i64 (-1)))
  clear hp
  clear hr
  go_enter Try.func42, Try.ntmps42
  go_upto_region 41 with (first | (go_at_call 45; ((with_reducible refine (rAsleep_V who W H.out HBD.out).mono ?_); rintro e w1 ⟨rfl, hw1⟩; obtain rfl : W = w1 := hw1.symm; simp only [q3])))
  generalize World.setCell _ _ _ = w1 at HR HK HB ⊢
  obtain ⟨hy0, hy1, hy2, hy3, hy4, -, -⟩ := HR.out.cell
  have HN := Aside0.mk (Kd.R_ne HR.out.ho HR.out.hg (by decide))
  have HF1 := Aside0.mk (show ∀ k, w1.heap.size ≤ k → own k from fun k hk => HF.out k (Nat.le_trans HK.out.1 hk))
  go_wp2_with (at_builtin; (refine Kd.R_append k127 (w0 := w1) base rfl (.tmp 199) (.tmp 205) 32 127 (.agg #[(.int .i64 0), (.int .i64 0), (.int .i64 0), (.bool false)]) 32 rfl Try.underlying32 info127 rfl (by decide) (by omega) _ (M.log.map lg) (⟨who, 5, at_, true⟩ : S127) [.int .i64 who, .int .i64 5, .int .i64 at_, .bool true] own (fun _ => False) rfl rfl (k127_mkM _ _ _ (⟨who, 5, at_, true⟩ : S127)) (fun _ hk => hk.elim) HF1.out HR.out.ho (Below.refl _ _) (Nat.le_trans HS.out HK.out.1) (by have := HL.out; rw [List.length_map]; omega) ?_; intro v9 w9 ho9 hb9 hg9 hat9; obtain ⟨A9, n9, c9, rfl⟩ := R_any ho9; have hg8 := blk_grown HR.out.hg hg9 HN.out; have hx9 : w9.cell? ⟨g, 4, none⟩ = some _ := (blk_cell hg8 4).trans rfl; have hz9 := blk_frozen hg8 4; have HG9 := Aside0.mk hg9; have HO9 := Aside0.mk ho9; have HB9 := Aside0.mk hb9; clear hy4 hg8 hg9 ho9 hb9 hat9))
  ((try simp only [Exit.inBlock, Exit.then]); first | refine bodyPost_ret (results_tmp3 rfl _ _ _) rfl ?_ | refine bodyPost_end (results_tmp3 rfl _ _ _) rfl ?_)
  refine ⟨rfl, _, _, _, _, _, HR.out.put_o (os := M.log ++ [⟨who, 5, at_, true⟩]) (by rw [List.map_append]; exact HO9.out) HG9.out, (HK.out.of_grown HG9.out (fun k hk => .inl (HR.out.ho.1 k hk))).setCell (.inl HR.out.og) _, (HB.out.trans HB9.out).setCell HR.out.bg _⟩
theorem Do6n (who at_ : Int) (x : Int) (vB : Value) (W : World) {base : Nat} {own : Nat → Prop} {g : Nat} {vw vb vl vd vo : Value} {M : MS} {bd : List S28} (h : RefV W base own g vw vb vl vd vo M bd) (hf : ∀ k, W.heap.size ≤ k → own k) (hlog : M.log.length ≤ 1000000) (hbd : bd.length ≤ 1000000) (hq : M.fits who at_ (M.latches.length : Int) = true) (hr : rd M.latches at_ ≠ who) :
    Calls Try.prog 42 #[.pointer (some ⟨g, 0, none⟩), .int .i64 who, .int .i64 6, .int .i64 at_, .int .u64 x, vB] W fun e w' => e = .returned (.tuple #[.int .u64 0, .slice none 0 0, .bool false]) ∧ RefTo W w' base own g (M.note who 6 at_ false) bd := by
  obtain ⟨q0, q1, q2, q3⟩ := fits_at hq
  have hbase : base ≤ W.heap.size := Nat.le_trans h.bg (Nat.le_of_lt (blk_lt h.hg))
  obtain ⟨hx0, hx1, hx2, hx3, hx4, -, -⟩ := h.cell
  have e1 := decide_eq_false (show ¬ who < 0 by omega)
  have e2 := decide_eq_false (show ¬ at_ < 0 by omega)
  have e3 := decide_eq_false (show ¬ (M.latches.length : Int) ≤ at_ by omega)
  obtain ⟨gw, cw, rfl, -⟩ := Kd.R_form h.hl (by omega)
  obtain ⟨hc0, hz0⟩ := Kd.R_celln 0 h.hl at_ q1 q2
  replace hc0 : W.cell? ⟨gw, at_.toNat, none⟩ = some (.int .i64 (rd M.latches at_)) := hc0
  have d0 : (rd M.latches at_ == who) = false := beq_false_of_ne hr
  have H := Aside0.mk h
  have HBD := Aside0.mk hbd
  have HF := Aside0.mk hf
  have HL := Aside0.mk hlog
  have HS := Aside0.mk hbase
  clear h hbd hf hlog hbase
  clear hr
  go_enter Try.func42, Try.ntmps42
  go_upto_region 41 with (first | (go_at_call 45; ((with_reducible refine (rAsleep_V who W H.out HBD.out).mono ?_); rintro e w1 ⟨rfl, hw1⟩; obtain rfl : W = w1 := hw1.symm; simp only [q3])))
  have HR := H
  have HK := Aside0.mk (Kept.refl W own)
  have HB := Aside0.mk (Below.refl base W)
  have HN := Aside0.mk (Kd.R_ne HR.out.ho HR.out.hg (by decide))
  have HF1 := Aside0.mk (show ∀ k, W.heap.size ≤ k → own k from fun k hk => HF.out k (Nat.le_trans HK.out.1 hk))
  go_wp2_with (at_builtin; (refine Kd.R_append k127 (w0 := W) base rfl (.tmp 199) (.tmp 205) 32 127 (.agg #[(.int .i64 0), (.int .i64 0), (.int .i64 0), (.bool false)]) 32 rfl Try.underlying32 info127 rfl (by decide) (by omega) _ (M.log.map lg) (⟨who, 6, at_, false⟩ : S127) [.int .i64 who, .int .i64 6, .int .i64 at_, .bool false] own (fun _ => False) rfl rfl (k127_mkM _ _ _ (⟨who, 6, at_, false⟩ : S127)) (fun _ hk => hk.elim) HF1.out HR.out.ho (Below.refl _ _) (Nat.le_trans HS.out HK.out.1) (by have := HL.out; rw [List.length_map]; omega) ?_; intro v9 w9 ho9 hb9 hg9 hat9; obtain ⟨A9, n9, c9, rfl⟩ := R_any ho9; have hg8 := blk_grown HR.out.hg hg9 HN.out; have hx9 : w9.cell? ⟨g, 4, none⟩ = some _ := (blk_cell hg8 4).trans rfl; have hz9 := blk_frozen hg8 4; have HG9 := Aside0.mk hg9; have HO9 := Aside0.mk ho9; have HB9 := Aside0.mk hb9; clear hx4 hg8 hg9 ho9 hb9 hat9))
  ((try simp only [Exit.inBlock, Exit.then]); first | refine bodyPost_ret (results_tmp3 rfl _ _ _) rfl ?_ | refine bodyPost_end (results_tmp3 rfl _ _ _) rfl ?_)
  refine ⟨rfl, _, _, _, _, _, HR.out.put_o (os := M.log ++ [⟨who, 6, at_, false⟩]) (by rw [List.map_append]; exact HO9.out) HG9.out, (HK.out.of_grown HG9.out (fun k hk => .inl (HR.out.ho.1 k hk))).setCell (.inl HR.out.og) _, (HB.out.trans HB9.out).setCell HR.out.bg _⟩
theorem Do6y (who at_ : Int) (x : Int) (vB : Value) (W : World) {base : Nat} {own : Nat → Prop} {g : Nat} {vw vb vl vd vo : Value} {M : MS} {bd : List S28} (h : RefV W base own g vw vb vl vd vo M bd) (hf : ∀ k, W.heap.size ≤ k → own k) (hlog : M.log.length ≤ 1000000) (hbd : bd.length ≤ 1000000) (hq : M.fits who at_ (M.latches.length : Int) = true) (hr : rd M.latches at_ = who) :
    Calls Try.prog 42 #[.pointer (some ⟨g, 0, none⟩), .int .i64 who, .int .i64 6, .int .i64 at_, .int .u64 x, vB] W fun e w' => e = .returned (.tuple #[.int .u64 0, .slice none 0 0, .bool true]) ∧ RefTo W w' base own g { M.note who 6 at_ true with latches := M.latches.set at_.toNat (-1), beds := upd M.beds who (some at_), nb := M.nb + 1 } (bd ++ [⟨who, at_⟩]) := by
  obtain ⟨q0, q1, q2, q3⟩ := fits_at hq
  have hbase : base ≤ W.heap.size := Nat.le_trans h.bg (Nat.le_of_lt (blk_lt h.hg))
  obtain ⟨hx0, hx1, hx2, hx3, hx4, -, -⟩ := h.cell
  have e1 := decide_eq_false (show ¬ who < 0 by omega)
  have e2 := decide_eq_false (show ¬ at_ < 0 by omega)
  have e3 := decide_eq_false (show ¬ (M.latches.length : Int) ≤ at_ by omega)
  obtain ⟨gw, cw, rfl, -⟩ := Kd.R_form h.hl (by omega)
  obtain ⟨hc0, hz0⟩ := Kd.R_celln 0 h.hl at_ q1 q2
  replace hc0 : W.cell? ⟨gw, at_.toNat, none⟩ = some (.int .i64 (rd M.latches at_)) := hc0
  have d0 : (rd M.latches at_ == who) = true := beq_iff_eq.2 hr
  have H := Aside0.mk h
  have HBD := Aside0.mk hbd
  have HF := Aside0.mk hf
  have HL := Aside0.mk hlog
  have HS := Aside0.mk hbase
  clear h hbd hf hlog hbase
  have hp := Kd.R_putg H.out.hl at_ (-1)
  have HR := Aside0.mk (H.out.put_l hp.1 hp.2)
  have HK := Aside0.mk ((Kept.refl W own).setCell (.inl (H.out.hl.1 gw rfl)) (p := ⟨gw, at_.toNat, none⟩) (.int .i64 (-1)))
  have HB := Aside0.mk ((Below.refl base W).setCell (p := ⟨gw, at_.toNat, none⟩) (Kd.R_base H.out.hl gw rfl) (.int .i64 (-1)))
  clear hp
  clear hr
  go_enter Try.func42, Try.ntmps42
  go_upto_region 30 with (first | (go_at_call 45; ((with_reducible refine (rAsleep_V who W H.out HBD.out).mono ?_); rintro e w1 ⟨rfl, hw1⟩; obtain rfl : W = w1 := hw1.symm; simp only [q3])))
  generalize World.setCell _ _ _ = w1 at HR HK HB ⊢
  obtain ⟨hy0, hy1, hy2, hy3, hy4, -, -⟩ := HR.out.cell
  have HN2 := Aside0.mk (Kd.R_ne HR.out.hd HR.out.hg (by decide))
  have HF2 := Aside0.mk (show ∀ k, w1.heap.size ≤ k → own k from fun k hk => HF.out k (Nat.le_trans HK.out.1 hk))
  go_upto_region 41 with (at_builtin; (refine Kd.R_append k28 (w0 := w1) base rfl (.tmp 138) (.tmp 142) 74 28 (.agg #[(.int .i64 0), (.int .i64 0)]) 16 rfl Try.underlying74 info28 rfl (by decide) (by omega) vd bd (⟨who, at_⟩ : S28) [.int .i64 who, .int .i64 at_] own (fun _ => False) rfl rfl (k28_mkM _ _ _ (⟨who, at_⟩ : S28)) (fun _ hk => hk.elim) HF2.out HR.out.hd (Below.refl _ _) (Nat.le_trans HS.out HK.out.1) (by have := HBD.out; omega) ?_; intro v8 w8 ho9 hb9 hg9 hat9; obtain ⟨A8, n8, c8, rfl⟩ := R_any ho9; have hg8 := blk_grown HR.out.hg hg9 HN2.out; have hx9 : w8.cell? ⟨g, 3, none⟩ = some vd := (blk_cell hg8 3).trans rfl; have hz9 := blk_frozen hg8 3; have HG8 := Aside0.mk hg9; have HO8 := Aside0.mk ho9; have HB8 := Aside0.mk hb9; clear hy3 hg8 hg9 ho9 hb9 hat9))
  have HR3 := Aside0.mk (HR.out.put_d (n := M.nb + 1) HO8.out HG8.out (HR.out.hm.snoc who at_ q3))
  have HK3 := Aside0.mk ((HK.out.of_grown HG8.out (fun k hk => .inl (HR.out.hd.1 k hk))).setCell (.inl HR.out.og) (p := ⟨g, 3, none⟩) (.slice A8 n8 c8))
  have HB3 := Aside0.mk ((HB.out.trans HB8.out).setCell (p := ⟨g, 3, none⟩) HR.out.bg (.slice A8 n8 c8))
  clear HR HK HB hx9 hz9
  have HR := HR3
  have HK := HK3
  have HB := HB3
  clear HR3 HK3 HB3 hy0 hy1 hy2 hy4 HF2
  generalize World.setCell _ _ _ = w3 at HR HK HB ⊢
  obtain ⟨hy0, hy1, hy2, hy3, hy4, -, -⟩ := HR.out.cell
  have HN := Aside0.mk (Kd.R_ne HR.out.ho HR.out.hg (by decide))
  have HF1 := Aside0.mk (show ∀ k, w3.heap.size ≤ k → own k from fun k hk => HF.out k (Nat.le_trans HK.out.1 hk))
  go_wp2_with (at_builtin; (refine Kd.R_append k127 (w0 := w3) base rfl (.tmp 199) (.tmp 205) 32 127 (.agg #[(.int .i64 0), (.int .i64 0), (.int .i64 0), (.bool false)]) 32 rfl Try.underlying32 info127 rfl (by decide) (by omega) _ (M.log.map lg) (⟨who, 6, at_, true⟩ : S127) [.int .i64 who, .int .i64 6, .int .i64 at_, .bool true] own (fun _ => False) rfl rfl (k127_mkM _ _ _ (⟨who, 6, at_, true⟩ : S127)) (fun _ hk => hk.elim) HF1.out HR.out.ho (Below.refl _ _) (Nat.le_trans HS.out HK.out.1) (by have := HL.out; rw [List.length_map]; omega) ?_; intro v9 w9 ho9 hb9 hg9 hat9; obtain ⟨A9, n9, c9, rfl⟩ := R_any ho9; have hg8 := blk_grown HR.out.hg hg9 HN.out; have hx9 : w9.cell? ⟨g, 4, none⟩ = some _ := (blk_cell hg8 4).trans rfl; have hz9 := blk_frozen hg8 4; have HG9 := Aside0.mk hg9; have HO9 := Aside0.mk ho9; have HB9 := Aside0.mk hb9; clear hy4 hg8 hg9 ho9 hb9 hat9))
  ((try simp only [Exit.inBlock, Exit.then]); first | refine bodyPost_ret (results_tmp3 rfl _ _ _) rfl ?_ | refine bodyPost_end (results_tmp3 rfl _ _ _) rfl ?_)
  refine ⟨rfl, _, _, _, _, _, HR.out.put_o (os := M.log ++ [⟨who, 6, at_, true⟩]) (by rw [List.map_append]; exact HO9.out) HG9.out, (HK.out.of_grown HG9.out (fun k hk => .inl (HR.out.ho.1 k hk))).setCell (.inl HR.out.og) _, (HB.out.trans HB9.out).setCell HR.out.bg _⟩
set_option maxRecDepth 100000
theorem rd_bx (bs : List (List S143)) (i : Int) : rd_L11 (bs.map bx) i = bx (rdB bs i) := by
  unfold rd_L11 rdB
  rw [List.getD_eq_getElem?_getD, List.getD_eq_getElem?_getD, List.getElem?_map]
  cases bs[i.toNat]? <;> rfl
theorem add_at (gw n : Nat) : (⟨gw, 0, none⟩ : Addr).add n = ⟨gw, n, none⟩ := by
  unfold Addr.add
  split <;> simp_all
theorem R_lit0 {base : Nat} {own : Nat → Prop} (W : World) (hbase : base ≤ W.heap.size) (hf : own W.heap.size) : Kd.R k140 140 (W.alloc (.cells #[] 140)) base own (.slice (some ⟨W.heap.size, 0, none⟩) 0 0) ([] : List S140) := by
  refine ⟨fun k hk => ?_, [], ?_, Reps.none _ _⟩
  · have : W.heap.size = k := by simpa [Value.ownBlock] using hk
    subst this
    exact hf
  · have h2 := World.ownsRow_lit (base := base) (e := 140) (size := k140.sz) W #[] 0 hbase (by simp [maxLen]) (by simp)
    simpa using h2
theorem rbox_slot {w : World} {base : Nat} {own : Nat → Prop} {gw n cw : Nat} {xs : List (List S140)} (h : Kd.R (Kd.slice 140 k140) 51 w base own (.slice (some ⟨gw, 0, none⟩) n cw) xs) (i : Int) (h0 : 0 ≤ i) (h1 : i < n) :
    ∃ old, w.cell? ⟨gw, i.toNat, none⟩ = some old ∧ w.frozen? ⟨gw, i.toNat, none⟩ = false ∧ ∀ (w' : World) (v : Value) (b : List S140), Below w.heap.size w w' → Kd.R k140 140 w' base (fun k => own k ∧ k ≠ gw) v b → Kd.R (Kd.slice 140 k140) 51 (w'.setCell ⟨gw, i.toNat, none⟩ v) base own (.slice (some ⟨gw, 0, none⟩) n cw) (xs.set i.toNat b) ∧ w'.grownBy (w'.setCell ⟨gw, i.toNat, none⟩ v) (some gw) := by
  obtain ⟨c, hcl, -, hcc, hfz⟩ := Kd.R_elem h ([] : List S140) i h0 h1
  have hcl' : c.length = 1 := hcl
  obtain ⟨old, rfl⟩ := List.length_eq_one_iff.1 hcl'
  have hcc0 : w.cell? ⟨gw, i.toNat * 1 + 0, none⟩ = some old := hcc 0 old rfl
  have hfz0 : w.frozen? ⟨gw, i.toNat * 1 + 0, none⟩ = false := hfz 0
  rw [Nat.mul_one, Nat.add_zero] at hcc0 hfz0
  refine ⟨old, hcc0, hfz0, fun w' v b hb hR => ?_⟩
  have hgw : gw < w.heap.size := Kd.R_lt h gw rfl
  have hs := Kd.R_seg (d := Kd.slice 140 k140) (Kd.R_below h hb) i h0 h1 (c := [old]) (seg := [v]) (j := 0) rfl (fun j u hu => by
    have e : w'.cell? ⟨gw, i.toNat * (Kd.slice 140 k140).sz + j, none⟩ = w.cell? ⟨gw, i.toNat * (Kd.slice 140 k140).sz + j, none⟩ := hb.cell (p := ⟨gw, _, none⟩) hgw
    rw [e]; exact hcc j u hu) (Nat.le_refl _) (x' := b) (okp := fun k => own k ∧ k ≠ gw) ⟨v, rfl, hR⟩ (fun k hk => hk)
  have e : w'.setCells gw (i.toNat * (Kd.slice 140 k140).sz + 0) [v] = w'.setCell ⟨gw, i.toNat, none⟩ v := by
    show w'.setCells gw (i.toNat * 1 + 0) [v] = _
    rw [Nat.mul_one, Nat.add_zero]; rfl
  rw [e] at hs
  exact hs
theorem Do2 (who at_ : Int) (x : Int) (vB : Value) (W : World) {base : Nat} {own : Nat → Prop} {g : Nat} {vw vb vl vd vo : Value} {M : MS} {bd : List S28} (h : RefV W base own g vw vb vl vd vo M bd) (hf : ∀ k, W.heap.size ≤ k → own k) (hlog : M.log.length ≤ 1000000) (hbd : bd.length ≤ 1000000) (hq : M.fits who at_ (M.boxes.length : Int) = true)  :
    Calls Try.prog 42 #[.pointer (some ⟨g, 0, none⟩), .int .i64 who, .int .i64 2, .int .i64 at_, .int .u64 x, vB] W fun e w' => ∃ A c, e = .returned (.tuple #[.int .u64 0, .slice A (bx (rdB M.boxes at_)).length c, .bool true]) ∧ (bx (rdB M.boxes at_)).length ≤ c ∧ Kd.C k140 w' A (bx (rdB M.boxes at_)).length (bx (rdB M.boxes at_)) ∧ RefTo W w' base own g (M.note who 2 at_ true) bd := by
  obtain ⟨q0, q1, q2, q3⟩ := fits_at hq
  have hbase : base ≤ W.heap.size := Nat.le_trans h.bg (Nat.le_of_lt (blk_lt h.hg))
  obtain ⟨hx0, hx1, hx2, hx3, hx4, -, -⟩ := h.cell
  have e1 := decide_eq_false (show ¬ who < 0 by omega)
  have e2 := decide_eq_false (show ¬ at_ < 0 by omega)
  have e3 := decide_eq_false (show ¬ (M.boxes.length : Int) ≤ at_ by omega)
  obtain ⟨A2, c2, rfl⟩ := Kd.R_slice h.hl
  have hbl : (M.boxes.map bx).length = M.boxes.length := List.length_map ..
  obtain ⟨gw, cw, rfl, -⟩ := Kd.R_form h.hb (by omega)
  obtain ⟨ad, A3, c3, had, hc0, hle3, hC3⟩ := at_L11 (Kd.R_reads' h.hb).2.2 at_ q1 (by omega)
  obtain rfl : ad = ⟨gw, 0, none⟩ := (Option.some.inj had).symm
  rw [rd_bx] at hc0 hle3 hC3
  replace hc0 : W.cell? ⟨gw, at_.toNat, none⟩ = some (.slice A3 (bx (rdB M.boxes at_)).length c3) := by rw [← add_at]; exact hc0
  obtain ⟨bcells, hbc⟩ := Kd.R_typed h.hb gw rfl
  have HBC := Aside0.mk hbc
  have HLE := Aside0.mk hle3
  rw [hbl] at hx1
  clear had hbc hC3 hle3
  have H := Aside0.mk h
  have HBD := Aside0.mk hbd
  have HF := Aside0.mk hf
  have HL := Aside0.mk hlog
  have HS := Aside0.mk hbase
  clear h hbd hf hlog hbase
  go_enter Try.func42, Try.ntmps42
  go_upto_region 41 with (first | (go_at_call 45; ((with_reducible refine (rAsleep_V who W H.out HBD.out).mono ?_); rintro e w1 ⟨rfl, hw1⟩; obtain rfl : W = w1 := hw1.symm; simp only [q3])))
  have HR := H
  have HK := Aside0.mk (Kept.refl W own)
  have HB := Aside0.mk (Below.refl base W)
  have HN := Aside0.mk (Kd.R_ne HR.out.ho HR.out.hg (by decide))
  have HF1 := Aside0.mk (show ∀ k, W.heap.size ≤ k → own k from fun k hk => HF.out k (Nat.le_trans HK.out.1 hk))
  go_wp2_with (at_builtin; (refine Kd.R_append k127 (w0 := W) base rfl (.tmp 199) (.tmp 205) 32 127 (.agg #[(.int .i64 0), (.int .i64 0), (.int .i64 0), (.bool false)]) 32 rfl Try.underlying32 info127 rfl (by decide) (by omega) _ (M.log.map lg) (⟨who, 2, at_, true⟩ : S127) [.int .i64 who, .int .i64 2, .int .i64 at_, .bool true] own (fun _ => False) rfl rfl (k127_mkM _ _ _ (⟨who, 2, at_, true⟩ : S127)) (fun _ hk => hk.elim) HF1.out HR.out.ho (Below.refl _ _) (Nat.le_trans HS.out HK.out.1) (by have := HL.out; rw [List.length_map]; omega) ?_; intro v9 w9 ho9 hb9 hg9 hat9; obtain ⟨A9, n9, c9, rfl⟩ := R_any ho9; have hg8 := blk_grown HR.out.hg hg9 HN.out; have hx9 : w9.cell? ⟨g, 4, none⟩ = some _ := (blk_cell hg8 4).trans rfl; have hz9 := blk_frozen hg8 4; have HG9 := Aside0.mk hg9; have HO9 := Aside0.mk ho9; have HB9 := Aside0.mk hb9; clear hx4 hg8 hg9 ho9 hb9 hat9))
  ((try simp only [Exit.inBlock, Exit.then]); first | refine bodyPost_ret (results_tmp3 rfl _ _ _) rfl ?_ | refine bodyPost_end (results_tmp3 rfl _ _ _) rfl ?_)
  have HR9 := HR.out.put_o (os := M.log ++ [⟨who, 2, at_, true⟩]) (by rw [List.map_append]; exact HO9.out) HG9.out
  have hb9 := blk_grown HBC.out HG9.out (Kd.R_ne HR.out.ho HBC.out (by decide))
  have hne : gw ≠ g := fun e => by have h1 := HBC.out; rw [e, HR.out.hg] at h1; injection h1 with h1; injection h1 with _ h2; exact absurd h2 (by decide)
  have hb8 := blk_far hb9 hne (p := ⟨g, 4, none⟩) (.slice A9 n9 c9)
  obtain ⟨ad, A4, c4, had, hc4, hle4, hC4⟩ := at_L11 (Kd.R_reads' HR9.hb).2.2 at_ q1 (by show at_ < (((M.boxes.map bx).length : Nat) : Int); omega)
  obtain rfl : ad = ⟨gw, 0, none⟩ := (Option.some.inj had).symm
  rw [rd_bx] at hc4 hle4 hC4
  replace hc4 : (w9.setCell ⟨g, 4, none⟩ (.slice A9 n9 c9)).cell? ⟨gw, at_.toNat, none⟩ = some (.slice A4 (bx (rdB M.boxes at_)).length c4) := by have h9 := hc4; rw [add_at] at h9; exact h9
  rw [blk_cell hb8, ← blk_cell HBC.out, hc0] at hc4
  injection hc4 with hc4
  injection hc4 with e4 e5 e6
  subst e4 e6
  refine ⟨A3, c3, rfl, HLE.out, hC4, _, _, _, _, _, HR9, (HK.out.of_grown HG9.out (fun k hk => .inl (HR.out.ho.1 k hk))).setCell (.inl HR.out.og) _, (HB.out.trans HB9.out).setCell HR.out.bg _⟩
theorem Do3 (who at_ : Int) (x : Int) (A : Option Addr) (cb : Nat) (b : List S143) (W : World) {base : Nat} {own : Nat → Prop} {g : Nat} {vw vb vl vd vo : Value} {M : MS} {bd : List S28} (h : RefV W base own g vw vb vl vd vo M bd) (hf : ∀ k, W.heap.size ≤ k → own k) (hlog : M.log.length ≤ 1000000) (hbd : bd.length ≤ 1000000) (hq : M.fits who at_ (M.boxes.length : Int) = true) (hC : Kd.C k140 W A (bx b).length (bx b)) (hbL : (bx b).length ≤ 1000000) :
    Calls Try.prog 42 #[.pointer (some ⟨g, 0, none⟩), .int .i64 who, .int .i64 3, .int .i64 at_, .int .u64 x, .slice A (bx b).length cb] W fun e w' => e = .returned (.tuple #[.int .u64 0, .slice none 0 0, .bool true]) ∧ RefTo W w' base own g { M.note who 3 at_ true with boxes := M.boxes.set at_.toNat b } bd := by
  obtain ⟨q0, q1, q2, q3⟩ := fits_at hq
  have hbase : base ≤ W.heap.size := Nat.le_trans h.bg (Nat.le_of_lt (blk_lt h.hg))
  obtain ⟨hx0, hx1, hx2, hx3, hx4, -, -⟩ := h.cell
  have e1 := decide_eq_false (show ¬ who < 0 by omega)
  have e2 := decide_eq_false (show ¬ at_ < 0 by omega)
  have e3 := decide_eq_false (show ¬ (M.boxes.length : Int) ≤ at_ by omega)
  obtain ⟨A2, c2, rfl⟩ := Kd.R_slice h.hl
  have hbl : (M.boxes.map bx).length = M.boxes.length := List.length_map ..
  obtain ⟨gw, cw, rfl, -⟩ := Kd.R_form h.hb (by omega)
  obtain ⟨old, hc0, hz0, hst⟩ := rbox_slot h.hb at_ q1 (by omega)
  rw [hbl] at hx1
  have HST := Aside0.mk hst
  have HC := Aside0.mk hC
  have HBL := Aside0.mk hbL
  have HGW := Aside0.mk (show gw < W.heap.size from Kd.R_lt h.hb gw rfl)
  have HG0 := Aside0.mk (blk_lt h.hg)
  have HNE := Aside0.mk (show g ≠ gw from fun e => Kd.R_ne h.hb h.hg (by decide) (congrArg some e))
  clear hst hC hbL
  have H := Aside0.mk h
  have HBD := Aside0.mk hbd
  have HF := Aside0.mk hf
  have HL := Aside0.mk hlog
  have HS := Aside0.mk hbase
  clear h hbd hf hlog hbase
  go_enter Try.func42, Try.ntmps42
  go_upto_region 19 with (first | (go_at_call 45; ((with_reducible refine (rAsleep_V who W H.out HBD.out).mono ?_); rintro e w1 ⟨rfl, hw1⟩; obtain rfl : W = w1 := hw1.symm; simp only [q3])))
  go_region_held3 (fun w' => w'.cell? ⟨g, 1, none⟩ = some (.slice (some ⟨gw, 0, none⟩) M.boxes.length cw))
    (first | exact hx1 | exact hN3 | (rw [blk_cell (blk_far hG3 HNE.out _) 1, ← hbl]; rfl) | exact (World.cell?_alloc_lt _ _ _ HG0.out).trans hx1)
    (first | (refine Kd.R_append_rows_step k140 (w0 := W) W.heap.size (by rfl) (.tmp 91) (.tmp 92) 51 140 (.agg #[(.int .i64 0), (.int .u64 0), (.int .i64 0)]) 24 rfl Try.underlying51 info140 rfl (by decide) (by omega) (.slice (some ⟨W.heap.size, 0, none⟩) 0 0) [] (bx b) A _ cb (fun k => own k ∧ k ≠ gw) (fun _ => False) rfl rfl (R_lit0 W.drew (Nat.le_refl _) ⟨HF.out _ (Nat.le_refl _), Nat.ne_of_gt HGW.out⟩) (Kd.C_below HC.out ((below_drew (Below.refl _ W)).alloc (Nat.le_refl _) _)) (fun _ _ h => h) (fun _ h => h.elim) (fun k hk => (by have hk : W.heap.size + 1 ≤ k := (by simpa using hk); exact ⟨HF.out k (by omega), by have := HGW.out; omega⟩)) ((below_drew (Below.refl _ W)).alloc (Nat.le_refl _) _) (by simp) (by have := HBL.out; simp only [List.length_nil]; omega) ?_; intro v3 w3 hr3 hb3 hg3 hat3; obtain ⟨A3, n3, c3, rfl⟩ := R_any hr3; have hN3 := show w3.cell? ⟨g, 1, none⟩ = some (.slice (some ⟨gw, 0, none⟩) M.boxes.length cw) from (hb3.cell (p := ⟨g, 1, none⟩) HG0.out).trans hx1; have hG3 := blk_below H.out.hg hb3; have hc3 : w3.cell? ⟨gw, at_.toNat, none⟩ = some old := (hb3.cell (p := ⟨gw, at_.toNat, none⟩) HGW.out).trans hc0; have hz3 : w3.frozen? ⟨gw, at_.toNat, none⟩ = false := (hb3.frozen (p := ⟨gw, at_.toNat, none⟩) HGW.out).trans hz0))
  all_goals
    have hR3 : Kd.R k140 140 w3 base (fun k => own k ∧ k ≠ gw) (.slice A3 n3 c3) (bx b) := Kd.R_lower (by rw [List.nil_append] at hr3; exact hr3) HS.out
    obtain ⟨hs1, hs2⟩ := HST.out w3 _ (bx b) hb3 hR3
    have HR := Aside0.mk ((H.out.step (fun k _ hk => hb3.block k hk)).put_b (bs := M.boxes.set at_.toNat b) (by rw [List.map_set]; exact hs1) hs2)
    have HK := Aside0.mk (((Kept.refl W own).below hb3).setCell (.inl (H.out.hb.1 gw rfl)) (p := ⟨gw, at_.toNat, none⟩) (.slice A3 n3 c3))
    have HB := Aside0.mk ((below_then (Below.refl base W) HS.out hb3).setCell (p := ⟨gw, at_.toNat, none⟩) (Kd.R_base H.out.hb gw rfl) (.slice A3 n3 c3))
    clear hr3 hb3 hg3 hat3 hN3 hc3 hz3 hG3 hR3 hs1 hs2
    generalize World.setCell _ _ _ = w1 at HR HK HB ⊢
    obtain ⟨hy0, hy1, hy2, hy3, hy4, -, -⟩ := HR.out.cell
    have HN := Aside0.mk (Kd.R_ne HR.out.ho HR.out.hg (by decide))
    have HF1 := Aside0.mk (show ∀ k, w1.heap.size ≤ k → own k from fun k hk => HF.out k (Nat.le_trans HK.out.1 hk))
    go_wp2_with (at_builtin; (refine Kd.R_append k127 (w0 := w1) base rfl (.tmp 199) (.tmp 205) 32 127 (.agg #[(.int .i64 0), (.int .i64 0), (.int .i64 0), (.bool false)]) 32 rfl Try.underlying32 info127 rfl (by decide) (by omega) _ (M.log.map lg) (⟨who, 3, at_, true⟩ : S127) [.int .i64 who, .int .i64 3, .int .i64 at_, .bool true] own (fun _ => False) rfl rfl (k127_mkM _ _ _ (⟨who, 3, at_, true⟩ : S127)) (fun _ hk => hk.elim) HF1.out HR.out.ho (Below.refl _ _) (Nat.le_trans HS.out HK.out.1) (by have := HL.out; rw [List.length_map]; omega) ?_; intro v9 w9 ho9 hb9 hg9 hat9; obtain ⟨A9, n9, c9, rfl⟩ := R_any ho9; have hg8 := blk_grown HR.out.hg hg9 HN.out; have hx9 : w9.cell? ⟨g, 4, none⟩ = some _ := (blk_cell hg8 4).trans rfl; have hz9 := blk_frozen hg8 4; have HG9 := Aside0.mk hg9; have HO9 := Aside0.mk ho9; have HB9 := Aside0.mk hb9; clear hy4 hg8 hg9 ho9 hb9 hat9))
    ((try simp only [Exit.inBlock, Exit.then]); first | refine bodyPost_ret (results_tmp3 rfl _ _ _) rfl ?_ | refine bodyPost_end (results_tmp3 rfl _ _ _) rfl ?_)
    refine ⟨rfl, _, _, _, _, _, HR.out.put_o (os := M.log ++ [⟨who, 3, at_, true⟩]) (by rw [List.map_append]; exact HO9.out) HG9.out, (HK.out.of_grown HG9.out (fun k hk => .inl (HR.out.ho.1 k hk))).setCell (.inl HR.out.og) _, (HB.out.trans HB9.out).setCell HR.out.bg _⟩
set_option maxRecDepth 100000
def leftB (b : Bool) (at_ : Int) (l : List S28) : List S28 := l.filter (fun e => !(b && e.f1 == at_))
def woke (b : Bool) (at_ : Int) (l : List S28) : Nat := (l.filter (fun e => b && e.f1 == at_)).length
theorem rd28_at {bd : List S28} {i : Nat} (hi : i < bd.length) : rd_T28 bd (i : Int) = bd[i] := by unfold rd_T28; rw [Int.toNat_natCast, List.getD_eq_getElem?_getD, List.getElem?_eq_getElem hi]; rfl
theorem take_at {bd : List S28} {i : Nat} (hi : i < bd.length) : bd.take (i + 1) = bd.take i ++ [rd_T28 bd (i : Int)] := by rw [rd28_at hi, List.take_append_getElem]
theorem leftB_yes {b : Bool} {at_ : Int} {bd : List S28} {i : Nat} (hi : i < bd.length) (h : (b && (rd_T28 bd (i : Int)).f1 == at_) = true) : leftB b at_ (bd.take (i + 1)) = leftB b at_ (bd.take i) ∧ woke b at_ (bd.take (i + 1)) = woke b at_ (bd.take i) + 1 := by
  unfold leftB woke
  rw [take_at hi, List.filter_append, List.filter_append, List.length_append]
  simp only [List.filter_cons, List.filter_nil, h, Bool.not_true, Bool.not_false, if_true, Bool.false_eq_true, if_false, List.append_nil, List.length_nil, List.length_cons, Nat.add_zero, Nat.zero_add, and_self]
theorem leftB_no {b : Bool} {at_ : Int} {bd : List S28} {i : Nat} (hi : i < bd.length) (h : (b && (rd_T28 bd (i : Int)).f1 == at_) = false) : leftB b at_ (bd.take (i + 1)) = leftB b at_ (bd.take i) ++ [rd_T28 bd (i : Int)] ∧ woke b at_ (bd.take (i + 1)) = woke b at_ (bd.take i) := by
  unfold leftB woke
  rw [take_at hi, List.filter_append, List.filter_append, List.length_append]
  simp only [List.filter_cons, List.filter_nil, h, Bool.not_true, Bool.not_false, if_true, Bool.false_eq_true, if_false, List.append_nil, List.length_nil, List.length_cons, Nat.add_zero, Nat.zero_add, and_self]
theorem woke_le (b : Bool) (at_ : Int) (l : List S28) : woke b at_ l ≤ l.length := List.length_filter_le _ _
theorem leftB_le (b : Bool) (at_ : Int) (l : List S28) : (leftB b at_ l).length ≤ l.length := List.length_filter_le _ _
theorem meas_step {i n : Nat} (h : i < n) (hn : n ≤ 1000000) : (1000000 - ((i : Int) + 1)).toNat < (1000000 - (i : Int)).toNat := by omega
theorem leftB_false (at_ : Int) (l : List S28) : leftB false at_ l = l := by unfold leftB; simp
set_option maxHeartbeats 1000000 in
theorem Do7y (who at_ : Int) (x : Int) (vB : Value) (W : World) {base : Nat} {own : Nat → Prop} {g : Nat} {vw vb vl vd vo : Value} {M : MS} {bd : List S28} (h : RefV W base own g vw vb vl vd vo M bd) (hf : ∀ k, W.heap.size ≤ k → own k) (hlog : M.log.length ≤ 1000000) (hbd : bd.length ≤ 1000000) (hq : M.fits who at_ (M.latches.length : Int) = true) (hr : rd M.latches at_ = who) :
    Calls Try.prog 42 #[.pointer (some ⟨g, 0, none⟩), .int .i64 who, .int .i64 7, .int .i64 at_, .int .u64 x, vB] W fun e w' => e = .returned (.tuple #[.int .u64 ((woke true at_ bd : Nat) : Int), .slice none 0 0, .bool true]) ∧ RefTo W w' base own g { M.note who 7 at_ true with beds := M.up at_ } (leftB true at_ bd) := by
  obtain ⟨q0, q1, q2, q3⟩ := fits_at hq
  have hbase : base ≤ W.heap.size := Nat.le_trans h.bg (Nat.le_of_lt (blk_lt h.hg))
  obtain ⟨hx0, hx1, hx2, hx3, hx4, -, -⟩ := h.cell
  have e1 := decide_eq_false (show ¬ who < 0 by omega)
  have e2 := decide_eq_false (show ¬ at_ < 0 by omega)
  have e3 := decide_eq_false (show ¬ (M.latches.length : Int) ≤ at_ by omega)
  obtain ⟨gw, cw, rfl, -⟩ := Kd.R_form h.hl (by omega)
  obtain ⟨hc0, hz0⟩ := Kd.R_celln 0 h.hl at_ q1 q2
  replace hc0 : W.cell? ⟨gw, at_.toNat, none⟩ = some (.int .i64 (rd M.latches at_)) := hc0
  have d0 : (rd M.latches at_ == who) = true := beq_iff_eq.2 hr
  obtain ⟨A3, c3, rfl⟩ := Kd.R_slice h.hd
  have HD := Aside0.mk (Kd.R_reads' h.hd).2.2
  have HG0 := Aside0.mk (blk_lt h.hg)
  have HZ3 := Aside0.mk (blk_frozen h.hg 3)
  clear hr
  have H := Aside0.mk h
  have HBD := Aside0.mk hbd
  have HF := Aside0.mk hf
  have HL := Aside0.mk hlog
  have HS := Aside0.mk hbase
  clear h hbd hf hlog hbase
  go_enter Try.func42, Try.ntmps42
  go_wp2_with (first | (go_at_call 45; ((with_reducible refine (rAsleep_V who W H.out HBD.out).mono ?_); rintro e w1 ⟨rfl, hw1⟩; obtain rfl : W = w1 := hw1.symm; simp only [q3])))
  go_loopw [17, 19, 20] (fun v17 v19 v20 wr => ∃ i : Nat, v20 = .int .i64 (i : Int) ∧ v17 = .int .u64 ((woke true at_ (bd.take i) : Nat) : Int) ∧ Aside0 (i ≤ bd.length ∧ Kd.R k28 28 wr W.heap.size (fun _ => True) v19 (leftB true at_ (bd.take i)) ∧ Below W.heap.size W wr)) (fun _ _ v20 _ => (1000000 - intOf v20).toNat)
  case atStart => exact ⟨0, rfl, rfl, ⟨by omega, Kd.R_nil _ _ _ _ _, Below.refl _ _⟩⟩
  case round =>
    obtain ⟨i, rfl, rfl, HI⟩ := hrel
    rename_i v19 wr
    obtain ⟨A7, c7, rfl⟩ := Kd.R_slice HI.out.2.1
    have hx3' : wr.cell? ⟨g, 3, none⟩ = _ := (HI.out.2.2.cell (p := ⟨g, 3, none⟩) HG0.out).trans hx3
    by_cases hi : i < bd.length
    · have d1 := decide_eq_true (show (i : Int) < (bd.length : Int) by omega)
      have q5 : (0 : Int) ≤ (i : Int) := by omega
      have q6 : (i : Int) < (bd.length : Int) := by omega
      obtain ⟨ad, rfl, hy, hy1⟩ := at_T28 (Kd.C_below HD.out HI.out.2.2) (i : Int) q5 q6
      rw [Int.toNat_natCast] at hy hy1
      have hw : IntKind.i64.wrap ((i : Int) + 1) = (i : Int) + 1 := by rw [IntKind.wrap_i64]; have := HBD.out; omega
      have HWK := Aside0.mk (woke_le true at_ (bd.take i))
      have HLE := Aside0.mk (leftB_le true at_ (bd.take i))
      have hw2 : IntKind.u64.wrap (((woke true at_ (bd.take i) : Nat) : Int) + 1) = ((woke true at_ (bd.take i) : Nat) : Int) + 1 := by have h1 := HWK.out; have h2 := HBD.out; rw [List.length_take] at h1; rw [IntKind.wrap_u64]; omega
      by_cases he : (rd_T28 bd (i : Int)).f1 = at_
      · have d2 : ((rd_T28 bd (i : Int)).f1 == at_) = true := beq_iff_eq.2 he
        have hno := leftB_yes (b := true) (at_ := at_) hi (by rw [d2]; rfl)
        go_wp2
        go_roundw
        case rel => exact ⟨i + 1, by first | rfl | exact congrArg _ hw, by rw [hno.2]; exact congrArg (Value.int .u64) (show ((woke true at_ (bd.take i) : Nat) : Int) + 1 = ((woke true at_ (bd.take i) + 1 : Nat) : Int) by omega), ⟨by omega, by rw [hno.1]; exact HI.out.2.1, HI.out.2.2⟩⟩
        case measure => exact meas_step hi HBD.out
      · have d2 : ((rd_T28 bd (i : Int)).f1 == at_) = false := beq_false_of_ne he
        have hno := leftB_no (b := true) (at_ := at_) hi (by first | rfl | (rw [d2]; rfl))
        go_wp2_with (at_builtin; (refine Kd.R_append k28 (w0 := W) W.heap.size rfl (.tmp 181) (.tmp 189) 74 28 (.agg #[(.int .i64 0), (.int .i64 0)]) 16 rfl Try.underlying74 info28 rfl (by decide) (by omega) _ (leftB true at_ (bd.take i)) (rd_T28 bd (i : Int)) [.int .i64 (rd_T28 bd (i : Int)).f0, .int .i64 (rd_T28 bd (i : Int)).f1] (fun _ => True) (fun _ => False) rfl rfl (k28_mkM _ _ _ (rd_T28 bd (i : Int))) (fun _ hk => hk.elim) (fun _ _ => trivial) HI.out.2.1 HI.out.2.2 (below_size HI.out.2.2) (by have h1 := HLE.out; have h2 := HBD.out; rw [List.length_take] at h1; omega) ?_; intro v9 w9 ho9 hb9 hg9 hat9; have HO9 := Aside0.mk ho9; have HB9 := Aside0.mk hb9; clear ho9 hb9 hg9 hat9))
        go_roundw
        case rel => exact ⟨i + 1, by first | rfl | exact congrArg _ hw, by rw [hno.2], ⟨by omega, by rw [hno.1]; exact HO9.out, HB9.out⟩⟩
        case measure => exact meas_step hi HBD.out
    · have d1 := decide_eq_false (show ¬ (i : Int) < (bd.length : Int) by omega)
      obtain rfl : i = bd.length := by have := HI.out.1; omega
      have HI2 := HI.out
      rw [List.take_length] at HI2
      have HI := Aside0.mk HI2
      clear HI2
      have hz3 : wr.frozen? ⟨g, 3, none⟩ = false := (HI.out.2.2.frozen (p := ⟨g, 3, none⟩) HG0.out).trans HZ3.out
      rw [List.take_length]
      go_upto_region 41 with fail
      have HR := Aside0.mk ((H.out.step (fun k _ hk => HI.out.2.2.block k hk)).put_d (n := M.nb) (Kd.R_lower (Kd.R_mono (Kd.R_bound HI.out.2.1) (fun k hk => HF.out k hk.2.1)) HS.out) (World.grownBy.refl wr _) (H.out.hm.up at_))
      have HK := Aside0.mk (((Kept.refl W own).below HI.out.2.2).setCell (.inl H.out.og) (p := ⟨g, 3, none⟩) (.slice A7 (leftB true at_ bd).length c7))
      have HB := Aside0.mk ((below_then (Below.refl base W) HS.out HI.out.2.2).setCell (p := ⟨g, 3, none⟩) H.out.bg (.slice A7 (leftB true at_ bd).length c7))
      clear HI hx3' hz3
      generalize World.setCell _ _ _ = w1 at HR HK HB ⊢
      obtain ⟨hy0, hy1, hy2, hy3, hy4, -, -⟩ := HR.out.cell
      have HN := Aside0.mk (Kd.R_ne HR.out.ho HR.out.hg (by decide))
      have HF1 := Aside0.mk (show ∀ k, w1.heap.size ≤ k → own k from fun k hk => HF.out k (Nat.le_trans HK.out.1 hk))
      go_wp2_with (at_builtin; (refine Kd.R_append k127 (w0 := w1) base rfl (.tmp 199) (.tmp 205) 32 127 (.agg #[(.int .i64 0), (.int .i64 0), (.int .i64 0), (.bool false)]) 32 rfl Try.underlying32 info127 rfl (by decide) (by omega) _ (M.log.map lg) (⟨who, 7, at_, true⟩ : S127) [.int .i64 who, .int .i64 7, .int .i64 at_, .bool true] own (fun _ => False) rfl rfl (k127_mkM _ _ _ (⟨who, 7, at_, true⟩ : S127)) (fun _ hk => hk.elim) HF1.out HR.out.ho (Below.refl _ _) (Nat.le_trans HS.out HK.out.1) (by have := HL.out; rw [List.length_map]; omega) ?_; intro v9 w9 ho9 hb9 hg9 hat9; obtain ⟨A9, n9, c9, rfl⟩ := R_any ho9; have hg8 := blk_grown HR.out.hg hg9 HN.out; have hx9 : w9.cell? ⟨g, 4, none⟩ = some _ := (blk_cell hg8 4).trans rfl; have hz9 := blk_frozen hg8 4; have HG9 := Aside0.mk hg9; have HO9 := Aside0.mk ho9; have HB9 := Aside0.mk hb9; clear hy4 hg8 hg9 ho9 hb9 hat9))
      ((try simp only [Exit.inBlock, Exit.then]); first | refine bodyPost_ret (results_tmp3 rfl _ _ _) rfl ?_ | refine bodyPost_end (results_tmp3 rfl _ _ _) rfl ?_)
      refine ⟨rfl, _, _, _, _, _, HR.out.put_o (os := M.log ++ [⟨who, 7, at_, true⟩]) (by rw [List.map_append]; exact HO9.out) HG9.out, (HK.out.of_grown HG9.out (fun k hk => .inl (HR.out.ho.1 k hk))).setCell (.inl HR.out.og) _, (HB.out.trans HB9.out).setCell HR.out.bg _⟩
set_option maxHeartbeats 1000000 in
theorem Do7n (who at_ : Int) (x : Int) (vB : Value) (W : World) {base : Nat} {own : Nat → Prop} {g : Nat} {vw vb vl vd vo : Value} {M : MS} {bd : List S28} (h : RefV W base own g vw vb vl vd vo M bd) (hf : ∀ k, W.heap.size ≤ k → own k) (hlog : M.log.length ≤ 1000000) (hbd : bd.length ≤ 1000000) (hq : M.fits who at_ (M.latches.length : Int) = true) (hr : rd M.latches at_ ≠ who) :
    Calls Try.prog 42 #[.pointer (some ⟨g, 0, none⟩), .int .i64 who, .int .i64 7, .int .i64 at_, .int .u64 x, vB] W fun e w' => e = .returned (.tuple #[.int .u64 ((woke false at_ bd : Nat) : Int), .slice none 0 0, .bool false]) ∧ RefTo W w' base own g (M.note who 7 at_ false) (leftB false at_ bd) := by
  obtain ⟨q0, q1, q2, q3⟩ := fits_at hq
  have hbase : base ≤ W.heap.size := Nat.le_trans h.bg (Nat.le_of_lt (blk_lt h.hg))
  obtain ⟨hx0, hx1, hx2, hx3, hx4, -, -⟩ := h.cell
  have e1 := decide_eq_false (show ¬ who < 0 by omega)
  have e2 := decide_eq_false (show ¬ at_ < 0 by omega)
  have e3 := decide_eq_false (show ¬ (M.latches.length : Int) ≤ at_ by omega)
  obtain ⟨gw, cw, rfl, -⟩ := Kd.R_form h.hl (by omega)
  obtain ⟨hc0, hz0⟩ := Kd.R_celln 0 h.hl at_ q1 q2
  replace hc0 : W.cell? ⟨gw, at_.toNat, none⟩ = some (.int .i64 (rd M.latches at_)) := hc0
  have d0 : (rd M.latches at_ == who) = false := beq_false_of_ne hr
  obtain ⟨A3, c3, rfl⟩ := Kd.R_slice h.hd
  have HD := Aside0.mk (Kd.R_reads' h.hd).2.2
  have HG0 := Aside0.mk (blk_lt h.hg)
  have HZ3 := Aside0.mk (blk_frozen h.hg 3)
  clear hr
  have H := Aside0.mk h
  have HBD := Aside0.mk hbd
  have HF := Aside0.mk hf
  have HL := Aside0.mk hlog
  have HS := Aside0.mk hbase
  clear h hbd hf hlog hbase
  go_enter Try.func42, Try.ntmps42
  go_wp2_with (first | (go_at_call 45; ((with_reducible refine (rAsleep_V who W H.out HBD.out).mono ?_); rintro e w1 ⟨rfl, hw1⟩; obtain rfl : W = w1 := hw1.symm; simp only [q3])))
  go_loopw [17, 19, 20] (fun v17 v19 v20 wr => ∃ i : Nat, v20 = .int .i64 (i : Int) ∧ v17 = .int .u64 ((woke false at_ (bd.take i) : Nat) : Int) ∧ Aside0 (i ≤ bd.length ∧ Kd.R k28 28 wr W.heap.size (fun _ => True) v19 (leftB false at_ (bd.take i)) ∧ Below W.heap.size W wr)) (fun _ _ v20 _ => (1000000 - intOf v20).toNat)
  case atStart => exact ⟨0, rfl, rfl, ⟨by omega, Kd.R_nil _ _ _ _ _, Below.refl _ _⟩⟩
  case round =>
    obtain ⟨i, rfl, rfl, HI⟩ := hrel
    rename_i v19 wr
    obtain ⟨A7, c7, rfl⟩ := Kd.R_slice HI.out.2.1
    have hx3' : wr.cell? ⟨g, 3, none⟩ = _ := (HI.out.2.2.cell (p := ⟨g, 3, none⟩) HG0.out).trans hx3
    by_cases hi : i < bd.length
    · have d1 := decide_eq_true (show (i : Int) < (bd.length : Int) by omega)
      have q5 : (0 : Int) ≤ (i : Int) := by omega
      have q6 : (i : Int) < (bd.length : Int) := by omega
      obtain ⟨ad, rfl, hy, hy1⟩ := at_T28 (Kd.C_below HD.out HI.out.2.2) (i : Int) q5 q6
      rw [Int.toNat_natCast] at hy hy1
      have hw : IntKind.i64.wrap ((i : Int) + 1) = (i : Int) + 1 := by rw [IntKind.wrap_i64]; have := HBD.out; omega
      have HWK := Aside0.mk (woke_le false at_ (bd.take i))
      have HLE := Aside0.mk (leftB_le false at_ (bd.take i))
      have hw2 : IntKind.u64.wrap (((woke false at_ (bd.take i) : Nat) : Int) + 1) = ((woke false at_ (bd.take i) : Nat) : Int) + 1 := by have h1 := HWK.out; have h2 := HBD.out; rw [List.length_take] at h1; rw [IntKind.wrap_u64]; omega
      have hno := leftB_no (b := false) (at_ := at_) hi (by first | rfl | (rw [d2]; rfl))
      go_wp2_with (at_builtin; (refine Kd.R_append k28 (w0 := W) W.heap.size rfl (.tmp 181) (.tmp 189) 74 28 (.agg #[(.int .i64 0), (.int .i64 0)]) 16 rfl Try.underlying74 info28 rfl (by decide) (by omega) _ (leftB false at_ (bd.take i)) (rd_T28 bd (i : Int)) [.int .i64 (rd_T28 bd (i : Int)).f0, .int .i64 (rd_T28 bd (i : Int)).f1] (fun _ => True) (fun _ => False) rfl rfl (k28_mkM _ _ _ (rd_T28 bd (i : Int))) (fun _ hk => hk.elim) (fun _ _ => trivial) HI.out.2.1 HI.out.2.2 (below_size HI.out.2.2) (by have h1 := HLE.out; have h2 := HBD.out; rw [List.length_take] at h1; omega) ?_; intro v9 w9 ho9 hb9 hg9 hat9; have HO9 := Aside0.mk ho9; have HB9 := Aside0.mk hb9; clear ho9 hb9 hg9 hat9))
      go_roundw
      case rel => exact ⟨i + 1, by first | rfl | exact congrArg _ hw, by rw [hno.2], ⟨by omega, by rw [hno.1]; exact HO9.out, HB9.out⟩⟩
      case measure => exact meas_step hi HBD.out
    · have d1 := decide_eq_false (show ¬ (i : Int) < (bd.length : Int) by omega)
      obtain rfl : i = bd.length := by have := HI.out.1; omega
      have HI2 := HI.out
      rw [List.take_length] at HI2
      have HI := Aside0.mk HI2
      clear HI2
      have hz3 : wr.frozen? ⟨g, 3, none⟩ = false := (HI.out.2.2.frozen (p := ⟨g, 3, none⟩) HG0.out).trans HZ3.out
      rw [List.take_length]
      go_upto_region 41 with fail
      have HR := Aside0.mk ((H.out.step (fun k _ hk => HI.out.2.2.block k hk)).put_d (n := M.nb) (Kd.R_lower (Kd.R_mono (Kd.R_bound HI.out.2.1) (fun k hk => HF.out k hk.2.1)) HS.out) (World.grownBy.refl wr _) (by rw [leftB_false]; exact H.out.hm))
      have HK := Aside0.mk (((Kept.refl W own).below HI.out.2.2).setCell (.inl H.out.og) (p := ⟨g, 3, none⟩) (.slice A7 (leftB false at_ bd).length c7))
      have HB := Aside0.mk ((below_then (Below.refl base W) HS.out HI.out.2.2).setCell (p := ⟨g, 3, none⟩) H.out.bg (.slice A7 (leftB false at_ bd).length c7))
      clear HI hx3' hz3
      generalize World.setCell _ _ _ = w1 at HR HK HB ⊢
      obtain ⟨hy0, hy1, hy2, hy3, hy4, -, -⟩ := HR.out.cell
      have HN := Aside0.mk (Kd.R_ne HR.out.ho HR.out.hg (by decide))
      have HF1 := Aside0.mk (show ∀ k, w1.heap.size ≤ k → own k from fun k hk => HF.out k (Nat.le_trans HK.out.1 hk))
      go_wp2_with (at_builtin; (refine Kd.R_append k127 (w0 := w1) base rfl (.tmp 199) (.tmp 205) 32 127 (.agg #[(.int .i64 0), (.int .i64 0), (.int .i64 0), (.bool false)]) 32 rfl Try.underlying32 info127 rfl (by decide) (by omega) _ (M.log.map lg) (⟨who, 7, at_, false⟩ : S127) [.int .i64 who, .int .i64 7, .int .i64 at_, .bool false] own (fun _ => False) rfl rfl (k127_mkM _ _ _ (⟨who, 7, at_, false⟩ : S127)) (fun _ hk => hk.elim) HF1.out HR.out.ho (Below.refl _ _) (Nat.le_trans HS.out HK.out.1) (by have := HL.out; rw [List.length_map]; omega) ?_; intro v9 w9 ho9 hb9 hg9 hat9; obtain ⟨A9, n9, c9, rfl⟩ := R_any ho9; have hg8 := blk_grown HR.out.hg hg9 HN.out; have hx9 : w9.cell? ⟨g, 4, none⟩ = some _ := (blk_cell hg8 4).trans rfl; have hz9 := blk_frozen hg8 4; have HG9 := Aside0.mk hg9; have HO9 := Aside0.mk ho9; have HB9 := Aside0.mk hb9; clear hy4 hg8 hg9 ho9 hb9 hat9))
      ((try simp only [Exit.inBlock, Exit.then]); first | refine bodyPost_ret (results_tmp3 rfl _ _ _) rfl ?_ | refine bodyPost_end (results_tmp3 rfl _ _ _) rfl ?_)
      refine ⟨rfl, _, _, _, _, _, HR.out.put_o (os := M.log ++ [⟨who, 7, at_, false⟩]) (by rw [List.map_append]; exact HO9.out) HG9.out, (HK.out.of_grown HG9.out (fun k hk => .inl (HR.out.ho.1 k hk))).setCell (.inl HR.out.og) _, (HB.out.trans HB9.out).setCell HR.out.bg _⟩
set_option maxRecDepth 100000
def rAct (t7 x1 x3 x5 t15 t16 : Value) : Act := { tmps := #[.int .i64 4, .int .i64 3, .int .i64 3, undef, undef, undef, .pointer none, t7, undef, .int .i64 4, x1, .int .i64 3, x3, .int .i64 3, x5, t15, t16, undef, undef, undef, undef, undef, undef, undef, undef, undef, undef, undef, undef], defers := [] }
theorem rop1 {o : Oper} (h : (opsOf Try.f40 1)[1]? = some o) : o.dst = some 10 ∧ o.op = .makeSlice 44 (.tmp 9) (.tmp 9) ∧ o.guard = none := ⟨at_of (f := fun o => o.dst) h (by kernel_rfl), at_of (f := fun o => o.op) h (by kernel_rfl), at_of (f := fun o => o.guard) h (by kernel_rfl)⟩
theorem rop3 {o : Oper} (h : (opsOf Try.f40 1)[3]? = some o) : o.dst = some 12 ∧ o.op = .makeSlice 45 (.tmp 11) (.tmp 11) ∧ o.guard = none := ⟨at_of (f := fun o => o.dst) h (by kernel_rfl), at_of (f := fun o => o.op) h (by kernel_rfl), at_of (f := fun o => o.guard) h (by kernel_rfl)⟩
theorem rop5 {o : Oper} (h : (opsOf Try.f40 1)[5]? = some o) : o.dst = some 14 ∧ o.op = .makeSlice 25 (.tmp 13) (.tmp 13) ∧ o.guard = none := ⟨at_of (f := fun o => o.dst) h (by kernel_rfl), at_of (f := fun o => o.op) h (by kernel_rfl), at_of (f := fun o => o.guard) h (by kernel_rfl)⟩
theorem rop6 {o : Oper} (h : (opsOf Try.f40 1)[6]? = some o) : o.dst = some 15 ∧ o.op = .build 76 #[(0, .tmp 10), (1, .tmp 12), (2, .tmp 14)] ∧ o.guard = none ∧ o.type = 76 := ⟨at_of (f := fun o => o.dst) h (by kernel_rfl), at_of (f := fun o => o.op) h (by kernel_rfl), at_of (f := fun o => o.guard) h (by kernel_rfl), at_of (f := fun o => o.type) h (by kernel_rfl)⟩
theorem rop7 {o : Oper} (h : (opsOf Try.f40 1)[7]? = some o) : o.dst = some 16 ∧ o.op = .box 76 (.tmp 15) ∧ o.guard = none ∧ o.type = 65 := ⟨at_of (f := fun o => o.dst) h (by kernel_rfl), at_of (f := fun o => o.op) h (by kernel_rfl), at_of (f := fun o => o.guard) h (by kernel_rfl), at_of (f := fun o => o.type) h (by kernel_rfl)⟩
theorem rop8 {o : Oper} (h : (opsOf Try.f40 1)[8]? = some o) : o.dst = some 7 ∧ o.op = .assign (.tmp 16) ∧ o.guard = none ∧ o.type = 65 := ⟨at_of (f := fun o => o.dst) h (by kernel_rfl), at_of (f := fun o => o.op) h (by kernel_rfl), at_of (f := fun o => o.guard) h (by kernel_rfl), at_of (f := fun o => o.type) h (by kernel_rfl)⟩
theorem rnew_ready : ∀ f1 f3 f5 : Bool, ¬ (f1 = true ∧ f3 = true ∧ f5 = true) → Region.ready .any (opsOf Try.f40 1) #[true, f1, true, f3, true, f5, false, false, false] = (if f1 then [] else [1]) ++ ((if f3 then [] else [3]) ++ (if f5 then [] else [5])) := by
  intro f1 f3 f5 h2
  cases f1 <;> cases f3 <;> cases f5 <;> first | (simp at h2; done) | kernel_rfl
theorem rnew_ne : ∀ f1 f3 f5 : Bool, ¬ (f1 = true ∧ f3 = true ∧ f5 = true) → ((if f1 then [] else [1]) ++ ((if f3 then [] else [3]) ++ (if f5 then [] else [5])) : List Nat) ≠ [] := by decide
structure RNewI (W w : World) (f1 f3 f5 : Bool) (x1 x3 x5 : Value) : Prop where
  bel : Below W.heap.size W w
  p1 : f1 = true → Kd.R (Kd.int .u64) 29 w W.heap.size (fun _ => True) x1 (List.replicate 4 0)
  p3 : f3 = true → Kd.R (Kd.slice 140 k140) 51 w W.heap.size (fun _ => True) x3 (List.replicate 3 [])
  p5 : f5 = true → Kd.R (Kd.int .i64) 3 w W.heap.size (fun _ => True) x5 (List.replicate 3 0)
theorem RNewI.below {W w w' : World} {f1 f3 f5 : Bool} {x1 x3 x5 : Value} (h : RNewI W w f1 f3 f5 x1 x3 x5) (hb : Below w.heap.size w w') : RNewI W w' f1 f3 f5 x1 x3 x5 :=
  ⟨below_step h.bel hb, fun e => Kd.R_below (h.p1 e) hb, fun e => Kd.R_below (h.p3 e) hb, fun e => Kd.R_below (h.p5 e) hb⟩
theorem info51 : (Try.prog.info? 51).map (fun i => (i.zero, i.size, i.bytes)) = some (some (.slice none 0 0), 1, 24) := by kernel_rfl
section
variable {W w : World} {f1 f3 f5 : Bool} {x1 x3 x5 : Value} {Q : Exit → Act → World → Prop} {K : Act → World → Prop}
theorem rnew1 {o : Oper} (no : (opsOf Try.f40 1)[1]? = some o) (h : RNewI W w f1 f3 f5 x1 x3 x5) (hK : ∀ y w', RNewI W w' true f3 f5 y x3 x5 → K (rAct undef y x3 x5 undef undef) w') :
    if Region.wanted o (yielded (opsOf Try.f40 1) (rAct undef x1 x3 x5 undef undef).tmps) = true then Oper.wp Try.prog o (rAct undef x1 x3 x5 undef undef) w K Q else K ((rAct undef x1 x3 x5 undef undef).put o.dst undef) w := by
  refine Kd.R_make_step (Kd.int .u64) (w0 := w) w.heap.size 29 (wanted_none (rop1 no).2.2) (rop1 no).1 44 (.tmp 9) (.tmp 9) (rop1 no).2.1 (4 : Int) rfl rfl Try.underlying44 (.int .u64 0) 8 info29 rfl (by decide) (by omega) 0 (ok := fun _ => True) (okp := fun _ => True) rfl (fun _ h => h) trivial (by omega) (by omega) (Below.refl _ _) (Nat.le_refl _) ?_
  intro v1 w1 hr hb _ _
  rw [(rop1 no).1]
  have h2 := h.below hb
  exact hK v1 w1 ⟨h2.bel, fun _ => Kd.R_lower hr (below_size h.bel), h2.p3, h2.p5⟩
theorem rnew3 {o : Oper} (no : (opsOf Try.f40 1)[3]? = some o) (h : RNewI W w f1 f3 f5 x1 x3 x5) (hK : ∀ y w', RNewI W w' f1 true f5 x1 y x5 → K (rAct undef x1 y x5 undef undef) w') :
    if Region.wanted o (yielded (opsOf Try.f40 1) (rAct undef x1 x3 x5 undef undef).tmps) = true then Oper.wp Try.prog o (rAct undef x1 x3 x5 undef undef) w K Q else K ((rAct undef x1 x3 x5 undef undef).put o.dst undef) w := by
  refine Kd.R_make_step (Kd.slice 140 k140) (w0 := w) w.heap.size 51 (wanted_none (rop3 no).2.2) (rop3 no).1 45 (.tmp 11) (.tmp 11) (rop3 no).2.1 (3 : Int) rfl rfl Try.underlying45 (.slice none 0 0) 24 info51 rfl (by decide) (by omega) ([] : List S140) (ok := fun _ => True) (okp := fun _ => True) ⟨_, rfl, Kd.R_nil _ _ _ _ _⟩ (fun _ h => h) trivial (by omega) (by omega) (Below.refl _ _) (Nat.le_refl _) ?_
  intro v1 w1 hr hb _ _
  rw [(rop3 no).1]
  have h2 := h.below hb
  exact hK v1 w1 ⟨h2.bel, h2.p1, fun _ => Kd.R_lower hr (below_size h.bel), h2.p5⟩
theorem rnew5 {o : Oper} (no : (opsOf Try.f40 1)[5]? = some o) (h : RNewI W w f1 f3 f5 x1 x3 x5) (hK : ∀ y w', RNewI W w' f1 f3 true x1 x3 y → K (rAct undef x1 x3 y undef undef) w') :
    if Region.wanted o (yielded (opsOf Try.f40 1) (rAct undef x1 x3 x5 undef undef).tmps) = true then Oper.wp Try.prog o (rAct undef x1 x3 x5 undef undef) w K Q else K ((rAct undef x1 x3 x5 undef undef).put o.dst undef) w := by
  refine Kd.R_make_step (Kd.int .i64) (w0 := w) w.heap.size 3 (wanted_none (rop5 no).2.2) (rop5 no).1 25 (.tmp 13) (.tmp 13) (rop5 no).2.1 (3 : Int) rfl rfl Try.underlying25 (.int .i64 0) 8 info3 rfl (by decide) (by omega) 0 (ok := fun _ => True) (okp := fun _ => True) rfl (fun _ h => h) trivial (by omega) (by omega) (Below.refl _ _) (Nat.le_refl _) ?_
  intro v1 w1 hr hb _ _
  rw [(rop5 no).1]
  have h2 := h.below hb
  exact hK v1 w1 ⟨h2.bel, h2.p1, h2.p3, fun _ => Kd.R_lower hr (below_size h.bel)⟩
theorem rnew_all (hE : ∀ x1 x3 x5 w, RNewI W w true true true x1 x3 x5 → wpAnyLast Try.prog .any (opsOf Try.f40 1) Q (fun _ => True) [] 3 #[true, true, true, true, true, true, false, false, false] (rAct undef x1 x3 x5 undef undef) w) :
    ∀ (n : Nat) (f1 f3 f5 : Bool) (x1 x3 x5 : Value) (w : World), (if f1 then 0 else 1) + ((if f3 then 0 else 1) + (if f5 then 0 else 1)) = n → RNewI W w f1 f3 f5 x1 x3 x5 →
      wpAnyLast Try.prog .any (opsOf Try.f40 1) Q (fun _ => True) [] (n + 3) #[true, f1, true, f3, true, f5, false, false, false] (rAct undef x1 x3 x5 undef undef) w := by
  intro n
  induction n with
  | zero =>
    intro f1 f3 f5 x1 x3 x5 w hn hI
    cases f1 <;> cases f3 <;> cases f5 <;> first | exact hE _ _ _ _ hI | (simp at hn; done)
  | succ n ih =>
    intro f1 f3 f5 x1 x3 x5 w hn hI
    have hnot : ¬ (f1 = true ∧ f3 = true ∧ f5 = true) := by
      rintro ⟨rfl, rfl, rfl⟩
      simp at hn
    have hr := rnew_ready f1 f3 f5 hnot
    show wpAnyLast _ _ _ _ _ _ ((n + 3) + 1) _ _ _
    refine ⟨fun h0 => absurd (hr.symm.trans h0) (rnew_ne f1 f3 f5 hnot), fun i hi => ?_⟩
    · rw [hr] at hi
      have e1 : ∀ i, i < 9 → ∃ o, (opsOf Try.f40 1)[i]? = some o := fun i h => ⟨_, Array.getElem?_eq_getElem (by rw [show (opsOf Try.f40 1).size = 9 by kernel_rfl]; exact h)⟩
      rcases List.mem_append.1 hi with hi | hi
      · cases f1
        · obtain rfl : i = 1 := by simpa using hi
          obtain ⟨o, no⟩ := e1 1 (by omega)
          refine wpOp_step no fun K hK => rnew1 no hI fun y w' h' => hK _ _ ⟨fun _ _ => trivial, ?_⟩
          exact ih true f3 f5 y x3 x5 w' (by simp at hn ⊢; omega) h'
        · simp at hi
      · rcases List.mem_append.1 hi with hi | hi
        · cases f3
          · obtain rfl : i = 3 := by simpa using hi
            obtain ⟨o, no⟩ := e1 3 (by omega)
            refine wpOp_step no fun K hK => rnew3 no hI fun y w' h' => hK _ _ ⟨fun _ _ => trivial, ?_⟩
            exact ih f1 true f5 x1 y x5 w' (by simp at hn ⊢; omega) h'
          · simp at hi
        · cases f5
          · obtain rfl : i = 5 := by simpa using hi
            obtain ⟨o, no⟩ := e1 5 (by omega)
            refine wpOp_step no fun K hK => rnew5 no hI fun y w' h' => hK _ _ ⟨fun _ _ => trivial, ?_⟩
            exact ih f1 f3 true x1 x3 y w' (by simp at hn ⊢; omega) h'
          · simp at hi
theorem rnew_op (i : Nat) (h : i < 9) : ∃ o, (opsOf Try.f40 1)[i]? = some o := ⟨_, Array.getElem?_eq_getElem (by rw [show (opsOf Try.f40 1).size = 9 by kernel_rfl]; exact h)⟩
theorem rnew_one {n i : Nat} {l l' : Array Bool} {o : Oper} {act : Act} {v : Value} {w w1 : World} (hr : Region.ready .any (opsOf Try.f40 1) l = [i]) (hl : l.setIfInBounds i true = l') (no : (opsOf Try.f40 1)[i]? = some o) (hg : o.guard = none) (hrun : (execOp act.eval o).run Try.prog w = .ok (.value v) w1) {act' : Act} (ha : act.put o.dst v = act')
    (h : wpAnyLast Try.prog .any (opsOf Try.f40 1) Q (fun _ => True) [] n l' act' w1) : wpAnyLast Try.prog .any (opsOf Try.f40 1) Q (fun _ => True) [] (n + 1) l act w := by
  subst hl
  subst ha
  refine ⟨fun h0 => (by rw [hr] at h0; cases h0), fun j hj => ?_⟩
  rw [hr] at hj
  obtain rfl : j = i := by simpa using hj
  exact wpOp_step no fun K hK => event_step (wanted_none hg) hrun (hK _ _ ⟨fun _ _ => trivial, h⟩)
def ActM (ls : List Int) : MS := ⟨List.replicate 4 0, List.replicate 3 [], ls, fun _ => none, 0, []⟩
theorem rnew_end (hI : RNewI W w true true true x1 x3 x5) (hQ : ∀ x1 x3 x5 x15 g w', RefV w' W.heap.size (fun k => W.heap.size ≤ k) g x1 x3 x5 (.slice none 0 0) (.slice none 0 0) (ActM (List.replicate 3 0)) [] → Below W.heap.size W w' → Q .normal (rAct (.pointer (some ⟨g, 0, none⟩)) x1 x3 x5 x15 (.pointer (some ⟨g, 0, none⟩))) w') :
    wpAnyLast Try.prog .any (opsOf Try.f40 1) Q (fun _ => True) [] 3 #[true, true, true, true, true, true, false, false, false] (rAct undef x1 x3 x5 undef undef) w := by
  obtain ⟨A1, n1, c1, e1⟩ := R_any (hI.p1 rfl)
  obtain ⟨A3, n3, c3, e3⟩ := R_any (hI.p3 rfl)
  obtain ⟨A5, n5, c5, e5⟩ := R_any (hI.p5 rfl)
  subst e1 e3 e5
  obtain ⟨o6, no6⟩ := rnew_op 6 (by omega)
  obtain ⟨o7, no7⟩ := rnew_op 7 (by omega)
  obtain ⟨o8, no8⟩ := rnew_op 8 (by omega)
  refine rnew_one (i := 6) (l' := #[true, true, true, true, true, true, true, false, false]) (v := (.agg #[.slice A1 n1 c1, .slice A3 n3 c3, .slice A5 n5 c5, .slice none 0 0, .slice none 0 0])) (w1 := w) (by kernel_rfl) (by kernel_rfl) no6 (rop6 no6).2.2.1 (by unfold execOp; rw [(rop6 no6).2.1]; simp only [rAct]; go_simp) (act' := rAct undef (.slice A1 n1 c1) (.slice A3 n3 c3) (.slice A5 n5 c5) (.agg #[.slice A1 n1 c1, .slice A3 n3 c3, .slice A5 n5 c5, .slice none 0 0, .slice none 0 0]) undef) (by rw [(rop6 no6).1]; rfl) ?_
  refine rnew_one (i := 7) (l' := #[true, true, true, true, true, true, true, true, false]) (v := (.pointer (some ⟨w.heap.size, 0, none⟩))) (w1 := w.alloc (.cells #[.slice A1 n1 c1, .slice A3 n3 c3, .slice A5 n5 c5, .slice none 0 0, .slice none 0 0] 76)) (by kernel_rfl) (by kernel_rfl) no7 (rop7 no7).2.2.1 (by unfold execOp; rw [(rop7 no7).2.1]; simp only [rAct]; go_simp) (act' := rAct undef (.slice A1 n1 c1) (.slice A3 n3 c3) (.slice A5 n5 c5) (.agg #[.slice A1 n1 c1, .slice A3 n3 c3, .slice A5 n5 c5, .slice none 0 0, .slice none 0 0]) (.pointer (some ⟨w.heap.size, 0, none⟩))) (by rw [(rop7 no7).1]; rfl) ?_
  refine rnew_one (i := 8) (l' := #[true, true, true, true, true, true, true, true, true]) (v := (.pointer (some ⟨w.heap.size, 0, none⟩))) (w1 := w.alloc (.cells #[.slice A1 n1 c1, .slice A3 n3 c3, .slice A5 n5 c5, .slice none 0 0, .slice none 0 0] 76)) (by kernel_rfl) (by kernel_rfl) no8 (rop8 no8).2.2.1 (by unfold execOp; rw [(rop8 no8).2.1]; simp only [rAct]; go_simp) (act' := rAct (.pointer (some ⟨w.heap.size, 0, none⟩)) (.slice A1 n1 c1) (.slice A3 n3 c3) (.slice A5 n5 c5) (.agg #[.slice A1 n1 c1, .slice A3 n3 c3, .slice A5 n5 c5, .slice none 0 0, .slice none 0 0]) (.pointer (some ⟨w.heap.size, 0, none⟩))) (by rw [(rop8 no8).1]; rfl) ?_
  have hb := below_alloc (Below.refl w.heap.size w) (.cells #[.slice A1 n1 c1, .slice A3 n3 c3, .slice A5 n5 c5, .slice none 0 0, .slice none 0 0] 76)
  have h2 := hI.below hb
  have hs := hI.bel.size
  refine ⟨by kernel_rfl, hQ _ _ _ _ w.heap.size _ ⟨blk_new _ _, hs, hs, ?_, ?_, ?_, Kd.R_nil _ _ _ _ _, Kd.R_nil _ _ _ _ _, BedL.empty⟩ h2.bel⟩
  · exact Kd.R_mono (Kd.R_bound (h2.p1 rfl)) (fun k hk => hk.2.1)
  · exact Kd.R_mono (Kd.R_bound (h2.p3 rfl)) (fun k hk => hk.2.1)
  · exact Kd.R_mono (Kd.R_bound (h2.p5 rfl)) (fun k hk => hk.2.1)
end
def lat (i : Nat) : List Int := List.replicate i (-1) ++ List.replicate (3 - i) 0
theorem lat_set : ∀ i, i < 3 → (lat i).set i (-1) = lat (i + 1) := by decide
theorem lat_len : ∀ i, i ≤ 3 → (lat i).length = 3 := by decide
theorem meas3 {i : Nat} (h : i < 3) : (10 - ((i : Int) + 1)).toNat < (10 - (i : Int)).toNat := by omega
theorem rNew_ok (W : World) : Calls Try.prog 40 #[.int .i64 4, .int .i64 3, .int .i64 3] W fun e w' => ∃ g vw vb vl vd vo, e = .returned (.pointer (some ⟨g, 0, none⟩)) ∧ RefV w' W.heap.size (fun k => W.heap.size ≤ k) g vw vb vl vd vo (ActM (List.replicate 3 (-1))) [] ∧ Below W.heap.size W w' := by
  go_enter Try.func40, Try.ntmps40
  go_upto_region 1 with fail
  refine start_ (n := 9) (S := fun _ => True) (ds := []) #[false, false, false, false, false, false, false, false, false] (by kernel_rfl) rfl rfl trivial (fun hHeld => ?_)
  refine pure_ (i := 0) (N := some 9) (v := ?_) (a' := ?_) #[true, false, false, false, false, false, false, false, false] rfl rfl (by kernel_rfl) (fun _ _ _ h => h) (Or.inl ⟨by rfl, ?_⟩) ?_ ?_
  rotate_left
  · intro w'
    go_simp
    with_reducible rfl
  rotate_left
  · simp only [Act.put, List.setIfInBounds_toArray, List.set_cons_zero, List.set_cons_succ]
    rfl
  refine pure_ (i := 2) (N := some 11) (v := ?_) (a' := ?_) #[true, false, true, false, false, false, false, false, false] rfl rfl (by kernel_rfl) (fun _ _ _ h => h) (Or.inl ⟨by rfl, ?_⟩) ?_ ?_
  rotate_left
  · intro w'
    go_simp
    with_reducible rfl
  rotate_left
  · simp only [Act.put, List.setIfInBounds_toArray, List.set_cons_zero, List.set_cons_succ]
    rfl
  refine pure_ (i := 4) (N := some 13) (v := ?_) (a' := ?_) #[true, false, true, false, true, false, false, false, false] rfl rfl (by kernel_rfl) (fun _ _ _ h => h) (Or.inl ⟨by rfl, ?_⟩) ?_ ?_
  rotate_left
  · intro w'
    go_simp
    with_reducible rfl
  rotate_left
  · simp only [Act.put, List.setIfInBounds_toArray, List.set_cons_zero, List.set_cons_succ]
    rfl
  refine rnew_all (W := W) (Q := _) (fun x1 x3 x5 w hI => rnew_end hI ?_) 3 false false false undef undef undef _ rfl ⟨below_drew (Below.refl _ _), by simp, by simp, by simp⟩
  intro x1' x3' x5' x15 g w' hm hb
  clear hI x1 x3 x5 w
  have HM := Aside0.mk hm
  have HB := Aside0.mk hb
  clear hm hb
  simp only [rAct]
  go_wp2
  go_loopw [8] (fun v8 wr => ∃ i : Nat, v8 = .int .i64 (i : Int) ∧ Aside0 (i ≤ 3 ∧ RefV wr W.heap.size (fun k => W.heap.size ≤ k) g x1' x3' x5' (.slice none 0 0) (.slice none 0 0) (ActM (lat i)) [] ∧ Below W.heap.size W wr)) (fun v8 _ => (10 - intOf v8).toNat)
  case atStart => exact ⟨0, rfl, ⟨by omega, HM.out, HB.out⟩⟩
  case round =>
    clear HM HB
    obtain ⟨i, rfl, HI⟩ := hrel
    by_cases hi : i < 3
    · have d1 := decide_eq_true (show (i : Int) < 3 by omega)
      have q0 : (0 : Int) ≤ (i : Int) := by omega
      have hll := lat_len i (by omega)
      have hx2 := HI.out.2.1.cell.2.2.1
      obtain ⟨gw, cw, rfl, -⟩ := Kd.R_form HI.out.2.1.hl (by show 0 < (lat i).length; omega)
      obtain ⟨hc0, hz0⟩ := Kd.R_celln 0 HI.out.2.1.hl (i : Int) q0 (by show (i : Int) < (((lat i).length : Nat) : Int); omega)
      rw [Int.toNat_natCast] at hc0 hz0
      have hw : IntKind.i64.wrap ((i : Int) + 1) = (i : Int) + 1 := by rw [IntKind.wrap_i64]; omega
      have e3 : (i : Int) < (((ActM (lat i)).latches.length : Nat) : Int) := by show (i : Int) < (((lat i).length : Nat) : Int); omega
      go_wp2
      go_roundw
      case rel =>
        have hp := Kd.R_putg HI.out.2.1.hl (i : Int) (-1)
        rw [Int.toNat_natCast] at hp
        refine ⟨i + 1, by first | rfl | exact congrArg _ hw, ⟨by omega, ?_, HI.out.2.2.setCell (p := ⟨gw, i, none⟩) (Kd.R_base HI.out.2.1.hl gw rfl) _⟩⟩
        have h2 := HI.out.2.1.put_l hp.1 hp.2
        have e : (ActM (lat i)).latches.set i (-1) = lat (i + 1) := lat_set i hi
        rw [e] at h2
        exact h2
      case measure => exact meas3 hi
    · have d1 := decide_eq_false (show ¬ (i : Int) < 3 by omega)
      obtain rfl : i = 3 := by have := HI.out.1; omega
      go_wp2
      go_ret
      exact ⟨g, _, _, _, _, _, rfl, HI.out.2.1, HI.out.2.2⟩
def RefC (w : World) (B : Nat) (own : Nat → Prop) (g : Nat) (M : MS) (bd : List S28) : Prop := (∃ vw vb vl vd vo, RefV w B own g vw vb vl vd vo M bd) ∧ ∀ k, own k → k < w.heap.size
def RefNext (w w' : World) (B : Nat) (own : Nat → Prop) (g : Nat) (M : MS) (bd : List S28) : Prop := (∃ own', RefC w' B own' g M bd ∧ ∀ k, own' k → own k ∨ w.heap.size ≤ k) ∧ Kept w w' own ∧ Below B w w'
theorem RefTo.next {w w' : World} {B : Nat} {own : Nat → Prop} {g : Nat} {M : MS} {bd : List S28} (h : RefTo w w' B (fun k => own k ∨ w.heap.size ≤ k) g M bd) : RefNext w w' B own g M bd := by
  obtain ⟨vw, vb, vl, vd, vo, hm, hk, hb⟩ := h
  exact ⟨⟨_, ⟨⟨_, _, _, _, _, hm.bound⟩, fun k hk => hk.2⟩, fun k hk => hk.1⟩, ⟨hk.1, fun i hi hn => hk.2 i hi (fun hs => hs.elim hn (fun h => by omega))⟩, hb⟩
theorem RefC.grown {w : World} {B : Nat} {own : Nat → Prop} {g : Nat} {M : MS} {bd : List S28} (h : RefC w B own g M bd) : ∃ vw vb vl vd vo, RefV w B (fun k => own k ∨ w.heap.size ≤ k) g vw vb vl vd vo M bd := by
  obtain ⟨vw, vb, vl, vd, vo, h⟩ := h.1
  exact ⟨vw, vb, vl, vd, vo, h.mono (fun k hk => .inl hk)⟩
theorem RefC.below {w w' : World} {B : Nat} {own : Nat → Prop} {g : Nat} {M : MS} {bd : List S28} (h : RefC w B own g M bd) (hb : Below w.heap.size w w') : RefC w' B own g M bd := by
  obtain ⟨⟨vw, vb, vl, vd, vo, h1⟩, h2⟩ := h
  exact ⟨⟨vw, vb, vl, vd, vo, h1.step (fun k _ hk => hb.block k hk)⟩, fun k hk => Nat.lt_of_lt_of_le (h2 k hk) hb.size⟩
theorem RefC.kept {w w' : World} {B : Nat} {own S : Nat → Prop} {g : Nat} {M : MS} {bd : List S28} (h : RefC w B own g M bd) (hk : Kept w w' S) (hne : ∀ k, own k → ¬ S k) : RefC w' B own g M bd := by
  obtain ⟨⟨vw, vb, vl, vd, vo, h1⟩, h2⟩ := h
  exact ⟨⟨vw, vb, vl, vd, vo, h1.step (fun k ho hlt => hk.2 k hlt (hne k ho))⟩, fun k ho => Nat.lt_of_lt_of_le (h2 k ho) hk.1⟩
theorem RefNext.same {w : World} {B : Nat} {own : Nat → Prop} {g : Nat} {M : MS} {bd : List S28} (h : RefC w B own g M bd) : RefNext w w B own g M bd := ⟨⟨own, h, fun k hk => .inl hk⟩, Kept.refl _ _, Below.refl _ _⟩
theorem rNew_C (W : World) : Calls Try.prog 40 #[.int .i64 4, .int .i64 3, .int .i64 3] W fun e w' => ∃ g own, e = .returned (.pointer (some ⟨g, 0, none⟩)) ∧ RefC w' W.heap.size own g (ActM (List.replicate 3 (-1))) [] ∧ (∀ k, own k → W.heap.size ≤ k) ∧ Below W.heap.size W w' := by
  refine (rNew_ok W).mono ?_
  rintro e w' ⟨g, vw, vb, vl, vd, vo, rfl, hm, hb⟩
  exact ⟨g, _, rfl, ⟨⟨_, _, _, _, _, hm.bound⟩, fun k hk => hk.2⟩, fun k hk => hk.1, hb⟩
set_option maxRecDepth 100000
def MS.act (M : MS) (kk : Nat) (who at_ x : Int) (b : List S143) : MS :=
  if kk = 0 then M.loadTo who at_ else if kk = 1 then M.store who at_ x else if kk = 2 then M.getTo who at_ else if kk = 3 then M.set_ who at_ b else if kk = 4 then M.pass who 4 at_ (-1) who else if kk = 5 then M.pass who 5 at_ who (-1) else if kk = 6 then M.sleep who at_ else M.wake who at_
def MS.ansX (M : MS) (bd : List S28) (kk : Nat) (who at_ : Int) : Int :=
  if kk = 0 then M.load who at_ else if kk = 7 then (if M.passB who at_ who = true then ((woke true at_ bd : Nat) : Int) else 0) else 0
def MS.ansB (M : MS) (kk : Nat) (who at_ : Int) : List S143 := if kk = 2 then M.get who at_ else []
def MS.ansOk (M : MS) (kk : Nat) (who at_ : Int) : Bool := M.passB who at_ (if kk = 4 then -1 else who)
def DoPost (w : World) (B : Nat) (own : Nat → Prop) (g : Nat) (M : MS) (bd : List S28) (kk : Nat) (who at_ x : Int) (b : List S143) (e : Ending) (w' : World) : Prop :=
  ∃ A c ok bd', e = .returned (.tuple #[.int .u64 (M.ansX bd kk who at_), .slice A (bx (M.ansB kk who at_)).length c, .bool ok]) ∧ (bx (M.ansB kk who at_)).length ≤ c ∧ Kd.C k140 w' A (bx (M.ansB kk who at_)).length (bx (M.ansB kk who at_)) ∧ (4 ≤ kk → kk ≤ 6 → ok = M.ansOk kk who at_) ∧ RefNext w w' B own g (M.act kk who at_ x b) bd' ∧ bd'.length ≤ bd.length + 1
section
variable {w : World} {B : Nat} {own : Nat → Prop} {g : Nat} {M : MS} {bd : List S28} {kk : Nat} {who at_ x : Int} {b : List S143}
theorem C_nil140 (w : World) : Kd.C k140 w none 0 ([] : List S140) := (Kd.R_reads' (Kd.R_nil k140 140 w 0 (fun _ => True))).2.2
theorem DoPost.no (h : RefC w B own g M bd) (hA : M.act kk who at_ x b = M) (hX : M.ansX bd kk who at_ = 0) (hB : M.ansB kk who at_ = []) (hO : 4 ≤ kk → kk ≤ 6 → M.ansOk kk who at_ = false) {e : Ending} {w' : World} (he : e = .returned (.tuple #[.int .u64 0, .slice none 0 0, .bool false])) (hw : w' = w) : DoPost w B own g M bd kk who at_ x b e w' := by
  subst hw
  unfold DoPost
  rw [hA, hX, hB]
  exact ⟨none, 0, false, bd, he, Nat.le_refl _, C_nil140 _, fun h1 h2 => (hO h1 h2).symm, .same h, by omega⟩
theorem DoPost.yes {M' : MS} {x0 : Int} {ok : Bool} {bd' : List S28} (hA : M.act kk who at_ x b = M') (hX : M.ansX bd kk who at_ = x0) (hB : M.ansB kk who at_ = []) (hO : 4 ≤ kk → kk ≤ 6 → ok = M.ansOk kk who at_) {e : Ending} {w' : World} (he : e = .returned (.tuple #[.int .u64 x0, .slice none 0 0, .bool ok])) (hT : RefTo w w' B (fun k => own k ∨ w.heap.size ≤ k) g M' bd') (hl : bd'.length ≤ bd.length + 1) : DoPost w B own g M bd kk who at_ x b e w' := by
  unfold DoPost
  rw [hA, hX, hB]
  exact ⟨none, 0, ok, bd', he, Nat.le_refl _, C_nil140 _, hO, hT.next, hl⟩
theorem passB_no {fr : Int} (hq : M.fits who at_ (M.latches.length : Int) = false) : M.passB who at_ fr = false := by unfold MS.passB; rw [hq]; rfl
theorem passB_eq {fr : Int} (hq : M.fits who at_ (M.latches.length : Int) = true) (hr : rd M.latches at_ = fr) : M.passB who at_ fr = true := by unfold MS.passB; rw [hq, decide_eq_true hr]; rfl
theorem passB_ne {fr : Int} (hq : M.fits who at_ (M.latches.length : Int) = true) (hr : rd M.latches at_ ≠ fr) : M.passB who at_ fr = false := by unfold MS.passB; rw [hq, decide_eq_false hr]; rfl
theorem set_same {l : List Int} {i : Int} {y : Int} (h0 : 0 ≤ i) (h1 : i < (l.length : Int)) (h : rd l i = y) : l.set i.toNat y = l := by
  have h2 : i.toNat < l.length := by omega
  have e : l[i.toNat] = y := by rw [← h]; unfold rd; rw [List.getD_eq_getElem?_getD, List.getElem?_eq_getElem h2]; rfl
  rw [← e]
  exact List.set_getElem_self h2
theorem woke_false (at_ : Int) (l : List S28) : woke false at_ l = 0 := by unfold woke; simp
theorem rDo_C (hk : kk < 8) (A : Option Addr) (cb : Nat) (h : RefC w B own g M bd) (hlog : M.log.length ≤ 1000000) (hbd : bd.length ≤ 1000000) (hC : Kd.C k140 w A (bx b).length (bx b)) (hbL : (bx b).length ≤ 1000000) :
    Calls Try.prog 42 #[.pointer (some ⟨g, 0, none⟩), .int .i64 who, .int .i64 (kk : Int), .int .i64 at_, .int .u64 x, .slice A (bx b).length cb] w (DoPost w B own g M bd kk who at_ x b) := by
  obtain ⟨vw, vb, vl, vd, vo, hv⟩ := h.grown
  have hf : ∀ k, w.heap.size ≤ k → (fun k => own k ∨ w.heap.size ≤ k) k := fun k hk => .inr hk
  have hk8 : kk = 0 ∨ kk = 1 ∨ kk = 2 ∨ kk = 3 ∨ kk = 4 ∨ kk = 5 ∨ kk = 6 ∨ kk = 7 := by omega
  rcases hk8 with rfl | rfl | rfl | rfl | rfl | rfl | rfl | rfl
  · cases hq : M.fits who at_ (M.words.length : Int)
    · exact (Do_no_w who 0 at_ x _ (by omega) w hv hbd hq).mono (fun e w' hh => .no h (by show M.loadTo who at_ = M; unfold MS.loadTo; rw [if_neg (by rw [hq]; decide)]) (by show M.load who at_ = 0; unfold MS.load; rw [if_neg (by rw [hq]; decide)]) (rfl) (fun h1 h2 => absurd h1 (by omega)) hh.1 hh.2)
    · exact (Do0 who at_ x _ w hv hf hlog hbd hq).mono (fun e w' hh => .yes (by show M.loadTo who at_ = _; unfold MS.loadTo; rw [if_pos hq]) (by show M.load who at_ = _; unfold MS.load; rw [if_pos hq]) rfl (fun h1 h2 => absurd h1 (by omega)) hh.1 hh.2 (by omega))
  · cases hq : M.fits who at_ (M.words.length : Int)
    · exact (Do_no_w who 1 at_ x _ (by omega) w hv hbd hq).mono (fun e w' hh => .no h (by show M.store who at_ x = M; unfold MS.store; rw [if_neg (by rw [hq]; decide)]) (rfl) (rfl) (fun h1 h2 => absurd h1 (by omega)) hh.1 hh.2)
    · exact (Do1 who at_ x _ w hv hf hlog hbd hq).mono (fun e w' hh => .yes (by show M.store who at_ x = _; unfold MS.store; rw [if_pos hq]) rfl rfl (fun h1 h2 => absurd h1 (by omega)) hh.1 hh.2 (by omega))
  · cases hq : M.fits who at_ (M.boxes.length : Int)
    · exact (Do_no_b who 2 at_ x _ (by omega) (by omega) w hv hbd hq).mono (fun e w' hh => .no h (by show M.getTo who at_ = M; unfold MS.getTo; rw [if_neg (by rw [hq]; decide)]) (rfl) (by show M.get who at_ = []; unfold MS.get; rw [if_neg (by rw [hq]; decide)]) (fun h1 h2 => absurd h1 (by omega)) hh.1 hh.2)
    · refine (Do2 who at_ x _ w hv hf hlog hbd hq).mono ?_
      rintro e w' ⟨A1, c1, he, hle, hC1, hT⟩
      unfold DoPost
      rw [show M.act 2 who at_ x b = M.note who 2 at_ true by show M.getTo who at_ = _; unfold MS.getTo; rw [if_pos hq], show M.ansB 2 who at_ = rdB M.boxes at_ by show M.get who at_ = _; unfold MS.get; rw [if_pos hq]]
      exact ⟨A1, c1, true, bd, he, hle, hC1, fun h1 h2 => absurd h1 (by omega), hT.next, by omega⟩
  · cases hq : M.fits who at_ (M.boxes.length : Int)
    · exact (Do_no_b who 3 at_ x _ (by omega) (by omega) w hv hbd hq).mono (fun e w' hh => .no h (by show M.set_ who at_ b = M; unfold MS.set_; rw [if_neg (by rw [hq]; decide)]) (rfl) (rfl) (fun h1 h2 => absurd h1 (by omega)) hh.1 hh.2)
    · exact (Do3 who at_ x A cb b w hv hf hlog hbd hq hC hbL).mono (fun e w' hh => .yes (by show M.set_ who at_ b = _; unfold MS.set_; rw [if_pos hq]) rfl rfl (fun h1 h2 => absurd h1 (by omega)) hh.1 hh.2 (by omega))
  · cases hq : M.fits who at_ (M.latches.length : Int)
    · exact (Do_no_l who 4 at_ x _ (by omega) w hv hbd hq).mono (fun e w' hh => .no h (by show M.pass who 4 at_ (-1) who = M; unfold MS.pass; rw [if_neg (by rw [hq]; decide)]) (rfl) (rfl) (fun h1 h2 => passB_no hq) hh.1 hh.2)
    · by_cases hr : rd M.latches at_ = -1
      · exact (Do4y who at_ x _ w hv hf hlog hbd hq hr).mono (fun e w' hh => .yes (by show M.pass who 4 at_ (-1) who = _; unfold MS.pass; rw [if_pos hq, if_pos hr]) rfl rfl (fun h1 h2 => (passB_eq hq hr).symm) hh.1 hh.2 (by omega))
      · exact (Do4n who at_ x _ w hv hf hlog hbd hq hr).mono (fun e w' hh => .yes (by show M.pass who 4 at_ (-1) who = _; unfold MS.pass; rw [if_pos hq, if_neg hr]) rfl rfl (fun h1 h2 => (passB_ne hq hr).symm) hh.1 hh.2 (by omega))
  · cases hq : M.fits who at_ (M.latches.length : Int)
    · exact (Do_no_l who 5 at_ x _ (by omega) w hv hbd hq).mono (fun e w' hh => .no h (by show M.pass who 5 at_ who (-1) = M; unfold MS.pass; rw [if_neg (by rw [hq]; decide)]) (rfl) (rfl) (fun h1 h2 => passB_no hq) hh.1 hh.2)
    · by_cases hr : rd M.latches at_ = who
      · exact (Do5y who at_ x _ w hv hf hlog hbd hq hr).mono (fun e w' hh => .yes (by show M.pass who 5 at_ who (-1) = _; unfold MS.pass; rw [if_pos hq, if_pos hr]) rfl rfl (fun h1 h2 => (passB_eq hq hr).symm) hh.1 hh.2 (by omega))
      · exact (Do5n who at_ x _ w hv hf hlog hbd hq hr).mono (fun e w' hh => .yes (by show M.pass who 5 at_ who (-1) = _; unfold MS.pass; rw [if_pos hq, if_neg hr]) rfl rfl (fun h1 h2 => (passB_ne hq hr).symm) hh.1 hh.2 (by omega))
  · cases hq : M.fits who at_ (M.latches.length : Int)
    · exact (Do_no_l who 6 at_ x _ (by omega) w hv hbd hq).mono (fun e w' hh => .no h (by show M.sleep who at_ = M; unfold MS.sleep MS.pass; rw [if_neg (by rw [passB_no hq]; decide), if_neg (by rw [hq]; decide)]) (rfl) (rfl) (fun h1 h2 => passB_no hq) hh.1 hh.2)
    · by_cases hr : rd M.latches at_ = who
      · exact (Do6y who at_ x _ w hv hf hlog hbd hq hr).mono (fun e w' hh => .yes (by show M.sleep who at_ = _; unfold MS.sleep MS.pass; rw [if_pos (passB_eq hq hr), if_pos hq, if_pos hr]) rfl rfl (fun h1 h2 => (passB_eq hq hr).symm) hh.1 hh.2 (by simp))
      · exact (Do6n who at_ x _ w hv hf hlog hbd hq hr).mono (fun e w' hh => .yes (by show M.sleep who at_ = _; unfold MS.sleep MS.pass; rw [if_neg (by rw [passB_ne hq hr]; decide), if_pos hq, if_neg hr]) rfl rfl (fun h1 h2 => (passB_ne hq hr).symm) hh.1 hh.2 (by omega))
  · cases hq : M.fits who at_ (M.latches.length : Int)
    · exact (Do_no_l who 7 at_ x _ (by omega) w hv hbd hq).mono (fun e w' hh => .no h (by show M.wake who at_ = M; unfold MS.wake MS.pass; rw [if_neg (by rw [passB_no hq]; decide), if_neg (by rw [hq]; decide)]) (by show (if M.passB who at_ who = true then _ else _) = _; rw [if_neg (by rw [passB_no hq]; decide)]) (rfl) (fun h1 h2 => absurd h2 (by omega)) hh.1 hh.2)
    · obtain ⟨q0, q1, q2, -⟩ := fits_at hq
      by_cases hr : rd M.latches at_ = who
      · exact (Do7y who at_ x _ w hv hf hlog hbd hq hr).mono (fun e w' hh => .yes (by show M.wake who at_ = _; unfold MS.wake MS.pass; rw [if_pos (passB_eq hq hr), if_pos hq, if_pos hr, set_same q1 q2 hr]; rfl) (by show (if M.passB who at_ who = true then _ else _) = _; rw [if_pos (passB_eq hq hr)]) rfl (fun h1 h2 => absurd h2 (by omega)) hh.1 hh.2 (Nat.le_succ_of_le (leftB_le _ _ _)))
      · exact (Do7n who at_ x _ w hv hf hlog hbd hq hr).mono (fun e w' hh => .yes (by show M.wake who at_ = _; unfold MS.wake MS.pass; rw [if_neg (by rw [passB_ne hq hr]; decide), if_pos hq, if_neg hr]) (by show (if M.passB who at_ who = true then _ else _) = _; rw [if_neg (by rw [passB_ne hq hr]; decide), woke_false]; rfl) rfl (fun h1 h2 => absurd h2 (by omega)) hh.1 hh.2 (Nat.le_succ_of_le (leftB_le _ _ _)))
end
set_option maxRecDepth 100000
def MPost (w : World) (B : Nat) (own : Nat → Prop) (g : Nat) (M : MS) (bd : List S28) (kk : Nat) (who at_ x : Int) (b : List S143) (e : Ending) (w' : World) : Prop :=
  ∃ v ok own', e = .returned (.tuple #[.int .u64 (M.ansX bd kk who at_), v, .bool ok]) ∧ Kd.R k143 143 w' w.heap.size (fun k => ¬ own' k) v (M.ansB kk who at_) ∧ (4 ≤ kk → kk ≤ 6 → ok = M.ansOk kk who at_) ∧ MemC w' B own' g (M.act kk who at_ x b) ∧ (∀ k, own' k → own k ∨ w.heap.size ≤ k) ∧ Kept w w' own ∧ Below B w w'
section
variable {w w1 w' : World} {B : Nat} {own : Nat → Prop} {g : Nat} {M : MS} {bd : List S28} {kk : Nat} {who at_ x : Int} {b : List S143}
theorem cell_eq {w w' : World} {k i : Nat} (h : w'.heap[k]? = w.heap[k]?) : w'.cell? ⟨k, i, none⟩ = w.cell? ⟨k, i, none⟩ := by
  unfold World.cell?
  simp only [h]
theorem kept_of (hb : Below w.heap.size w w1) (hk : Kept w1 w' own) : Kept w w' own :=
  ⟨Nat.le_trans hb.size hk.1, fun i hi hn => (hk.2 i (Nat.lt_of_lt_of_le hi hb.size) hn).trans (hb.block i hi)⟩
theorem MPost.of {M' : MS} {x0 : Int} {ok : Bool} (h : MemC w B own g M) (hb : Below w.heap.size w w1) (hn : MemNext w1 w' B own g M') (hA : M.act kk who at_ x b = M') (hX : M.ansX bd kk who at_ = x0) (hB : M.ansB kk who at_ = []) (hO : 4 ≤ kk → kk ≤ 6 → ok = M.ansOk kk who at_) {e : Ending} (he : e = .returned (.tuple #[.int .u64 x0, .slice none 0 0, .bool ok])) : MPost w B own g M bd kk who at_ x b e w' := by
  obtain ⟨⟨own', hc, hs⟩, hk, hb2⟩ := hn
  unfold MPost
  rw [hA, hX, hB]
  have hbw : Below B w w' := below_then (Below.refl B w) h.size hb |>.trans hb2
  exact ⟨_, ok, own', he, Kd.R_nil _ _ _ _ _, hO, hc, fun k hk => (hs k hk).imp id (Nat.le_trans hb.size), kept_of hb hk, hbw⟩
end
theorem woken_len {M : MS} {bd : List S28} {who at_ : Int} {V : List Int} (h : BedL M.beds bd ∧ bd.length ≤ 1000000) (hV : V.Nodup) (hm : ∀ x, x ∈ V ↔ M.passB who at_ who = true ∧ M.beds x = some at_) : ((V.length : Nat) : Int) = M.ansX bd 7 who at_ ∧ V.length ≤ 1000000 := by
  have e : M.ansX bd 7 who at_ = if M.passB who at_ who = true then ((woke true at_ bd : Nat) : Int) else 0 := rfl
  by_cases hp : M.passB who at_ who = true
  · rw [e, if_pos hp]
    have h1 := h.1.woken at_ hV (fun x => by rw [hm x]; simp [hp])
    have h2 : (bd.filter (fun e => e.f1 == at_)).length ≤ bd.length := List.length_filter_le _ _
    refine ⟨?_, by have := h.2; omega⟩
    rw [h1]
    unfold woke
    simp
  · rw [e, if_neg hp]
    have : V = [] := List.eq_nil_iff_forall_not_mem.2 (fun x hx => hp ((hm x).1 hx).1)
    subst this
    exact ⟨rfl, by simp⟩
theorem do0 (who at_ x : Int) (A : Option Addr) (cb : Nat) (b : List S143) (w : World) {B : Nat} {own : Nat → Prop} {g : Nat} {M : MS} {bd : List S28} (h : MemC w B own g M) (hwho : (Lit.int .i64 who).wf = true) (hat : (Lit.int .i64 at_).wf = true) (hlog : M.log.length ≤ 1000000) (hnb : M.nb ≤ 1000000) (hbox : ∀ b ∈ M.boxes, b.length ≤ 1000000) (hbl : BedL M.beds bd ∧ bd.length ≤ 1000000) (hb : b.length ≤ 1000) (hC : Kd.C k140 w A (bx b).length (bx b)) (hc : (bx b).length ≤ cb) :
    Calls Try.prog 41 #[.pointer (some ⟨g, 0, none⟩), .agg #[.int .i64 who, .int .i64 0, .int .i64 at_, .int .u64 x, .slice A (bx b).length cb]] w (MPost w B own g M bd 0 who at_ x b) := by
  have HM := Aside0.mk (h.below (below_alloc (Below.refl w.heap.size w) (.cells #[.int .i64 who, .int .i64 0, .int .i64 at_, .int .u64 x, .slice A (bx b).length cb] 68)))
  have H0 := Aside0.mk h
  have HB1 := Aside0.mk (below_alloc (Below.refl w.heap.size w) (.cells #[.int .i64 who, .int .i64 0, .int .i64 at_, .int .u64 x, .slice A (bx b).length cb] 68))
  have hblk := blk_new w (.cells #[.int .i64 who, .int .i64 0, .int .i64 at_, .int .u64 x, .slice A (bx b).length cb] 68)
  have HW := Aside0.mk (show _ ∧ _ ∧ _ ∧ _ ∧ _ from ⟨hwho, hat, hlog, hnb, hbox⟩)
  have HBL := Aside0.mk hbl
  have HC := Aside0.mk (show _ ∧ _ ∧ _ from ⟨hC, hc, hb⟩)
  clear h hwho hat hlog hnb hbox hbl hb hC hc
  go_enter Try.func41, Try.ntmps41
  go_upto_region 1 with fail
  generalize ew1 : World.alloc w _ = w1 at HM HB1 hblk ⊢
  have hx0 : w1.cell? ⟨w.heap.size, 0, none⟩ = some (.int .i64 who) := (blk_cell hblk 0).trans rfl
  have hx1 : w1.cell? ⟨w.heap.size, 1, none⟩ = some (.int .i64 0) := (blk_cell hblk 1).trans rfl
  have hx2 : w1.cell? ⟨w.heap.size, 2, none⟩ = some (.int .i64 at_) := (blk_cell hblk 2).trans rfl
  have hx3 : w1.cell? ⟨w.heap.size, 3, none⟩ = some (.int .u64 x) := (blk_cell hblk 3).trans rfl
  have hx4 : w1.cell? ⟨w.heap.size, 4, none⟩ = some (.slice A (bx b).length cb) := (blk_cell hblk 4).trans rfl
  have HG := Aside0.mk (blk_lt hblk)
  clear hblk ew1
  generalize hn0 : w.heap.size = n at HG hx0 hx1 hx2 hx3 hx4 ⊢
  go_wp2_with (first | (go_at_call 36; (with_reducible refine (Load_C who at_ HW.out.1 HM.out HW.out.2.2.1).mono ?_); rintro e w2 ⟨rfl, hn⟩; have HN := Aside0.mk hn; clear hn))
  ((try simp only [Exit.inBlock, Exit.then]); first | refine bodyPost_ret (results_tmp3 rfl _ _ _) rfl ?_ | refine bodyPost_end (results_tmp3 rfl _ _ _) rfl ?_)
  subst hn0
  exact MPost.of H0.out HB1.out HN.out rfl rfl rfl (fun h1 h2 => absurd h1 (by omega)) rfl
theorem do1 (who at_ x : Int) (A : Option Addr) (cb : Nat) (b : List S143) (w : World) {B : Nat} {own : Nat → Prop} {g : Nat} {M : MS} {bd : List S28} (h : MemC w B own g M) (hwho : (Lit.int .i64 who).wf = true) (hat : (Lit.int .i64 at_).wf = true) (hlog : M.log.length ≤ 1000000) (hnb : M.nb ≤ 1000000) (hbox : ∀ b ∈ M.boxes, b.length ≤ 1000000) (hbl : BedL M.beds bd ∧ bd.length ≤ 1000000) (hb : b.length ≤ 1000) (hC : Kd.C k140 w A (bx b).length (bx b)) (hc : (bx b).length ≤ cb) :
    Calls Try.prog 41 #[.pointer (some ⟨g, 0, none⟩), .agg #[.int .i64 who, .int .i64 1, .int .i64 at_, .int .u64 x, .slice A (bx b).length cb]] w (MPost w B own g M bd 1 who at_ x b) := by
  have HM := Aside0.mk (h.below (below_alloc (Below.refl w.heap.size w) (.cells #[.int .i64 who, .int .i64 1, .int .i64 at_, .int .u64 x, .slice A (bx b).length cb] 68)))
  have H0 := Aside0.mk h
  have HB1 := Aside0.mk (below_alloc (Below.refl w.heap.size w) (.cells #[.int .i64 who, .int .i64 1, .int .i64 at_, .int .u64 x, .slice A (bx b).length cb] 68))
  have hblk := blk_new w (.cells #[.int .i64 who, .int .i64 1, .int .i64 at_, .int .u64 x, .slice A (bx b).length cb] 68)
  have HW := Aside0.mk (show _ ∧ _ ∧ _ ∧ _ ∧ _ from ⟨hwho, hat, hlog, hnb, hbox⟩)
  have HBL := Aside0.mk hbl
  have HC := Aside0.mk (show _ ∧ _ ∧ _ from ⟨hC, hc, hb⟩)
  clear h hwho hat hlog hnb hbox hbl hb hC hc
  go_enter Try.func41, Try.ntmps41
  go_upto_region 1 with fail
  generalize ew1 : World.alloc w _ = w1 at HM HB1 hblk ⊢
  have hx0 : w1.cell? ⟨w.heap.size, 0, none⟩ = some (.int .i64 who) := (blk_cell hblk 0).trans rfl
  have hx1 : w1.cell? ⟨w.heap.size, 1, none⟩ = some (.int .i64 1) := (blk_cell hblk 1).trans rfl
  have hx2 : w1.cell? ⟨w.heap.size, 2, none⟩ = some (.int .i64 at_) := (blk_cell hblk 2).trans rfl
  have hx3 : w1.cell? ⟨w.heap.size, 3, none⟩ = some (.int .u64 x) := (blk_cell hblk 3).trans rfl
  have hx4 : w1.cell? ⟨w.heap.size, 4, none⟩ = some (.slice A (bx b).length cb) := (blk_cell hblk 4).trans rfl
  have HG := Aside0.mk (blk_lt hblk)
  clear hblk ew1
  generalize hn0 : w.heap.size = n at HG hx0 hx1 hx2 hx3 hx4 ⊢
  go_wp2_with (first | (go_at_call 32; (with_reducible refine (Store_C who at_ x HW.out.1 HM.out HW.out.2.2.1).mono ?_); rintro e w2 ⟨rfl, hn⟩; have HN := Aside0.mk hn; clear hn))
  ((try simp only [Exit.inBlock, Exit.then]); first | refine bodyPost_ret (results_tmp3 rfl _ _ _) rfl ?_ | refine bodyPost_end (results_tmp3 rfl _ _ _) rfl ?_)
  subst hn0
  exact MPost.of H0.out HB1.out HN.out rfl rfl rfl (fun h1 h2 => absurd h1 (by omega)) rfl
theorem do2 (who at_ x : Int) (A : Option Addr) (cb : Nat) (b : List S143) (w : World) {B : Nat} {own : Nat → Prop} {g : Nat} {M : MS} {bd : List S28} (h : MemC w B own g M) (hwho : (Lit.int .i64 who).wf = true) (hat : (Lit.int .i64 at_).wf = true) (hlog : M.log.length ≤ 1000000) (hnb : M.nb ≤ 1000000) (hbox : ∀ b ∈ M.boxes, b.length ≤ 1000000) (hbl : BedL M.beds bd ∧ bd.length ≤ 1000000) (hb : b.length ≤ 1000) (hC : Kd.C k140 w A (bx b).length (bx b)) (hc : (bx b).length ≤ cb) :
    Calls Try.prog 41 #[.pointer (some ⟨g, 0, none⟩), .agg #[.int .i64 who, .int .i64 2, .int .i64 at_, .int .u64 x, .slice A (bx b).length cb]] w (MPost w B own g M bd 2 who at_ x b) := by
  have HM := Aside0.mk (h.below (below_alloc (Below.refl w.heap.size w) (.cells #[.int .i64 who, .int .i64 2, .int .i64 at_, .int .u64 x, .slice A (bx b).length cb] 68)))
  have H0 := Aside0.mk h
  have HB1 := Aside0.mk (below_alloc (Below.refl w.heap.size w) (.cells #[.int .i64 who, .int .i64 2, .int .i64 at_, .int .u64 x, .slice A (bx b).length cb] 68))
  have hblk := blk_new w (.cells #[.int .i64 who, .int .i64 2, .int .i64 at_, .int .u64 x, .slice A (bx b).length cb] 68)
  have HW := Aside0.mk (show _ ∧ _ ∧ _ ∧ _ ∧ _ from ⟨hwho, hat, hlog, hnb, hbox⟩)
  have HBL := Aside0.mk hbl
  have HC := Aside0.mk (show _ ∧ _ ∧ _ from ⟨hC, hc, hb⟩)
  clear h hwho hat hlog hnb hbox hbl hb hC hc
  go_enter Try.func41, Try.ntmps41
  go_upto_region 1 with fail
  generalize ew1 : World.alloc w _ = w1 at HM HB1 hblk ⊢
  have hx0 : w1.cell? ⟨w.heap.size, 0, none⟩ = some (.int .i64 who) := (blk_cell hblk 0).trans rfl
  have hx1 : w1.cell? ⟨w.heap.size, 1, none⟩ = some (.int .i64 2) := (blk_cell hblk 1).trans rfl
  have hx2 : w1.cell? ⟨w.heap.size, 2, none⟩ = some (.int .i64 at_) := (blk_cell hblk 2).trans rfl
  have hx3 : w1.cell? ⟨w.heap.size, 3, none⟩ = some (.int .u64 x) := (blk_cell hblk 3).trans rfl
  have hx4 : w1.cell? ⟨w.heap.size, 4, none⟩ = some (.slice A (bx b).length cb) := (blk_cell hblk 4).trans rfl
  have HG := Aside0.mk (blk_lt hblk)
  clear hblk ew1
  generalize hn0 : w.heap.size = n at HG hx0 hx1 hx2 hx3 hx4 ⊢
  go_wp2_with (first | (go_at_call 39; (with_reducible refine (Get_C who at_ HW.out.1 HM.out HW.out.2.2.1 HW.out.2.2.2.2).mono ?_); rintro e w2 ⟨v2, own2, rfl, hr, hn⟩; obtain ⟨A2, n2, c2, rfl⟩ := R_any hr; have HR := Aside0.mk hr; have HN := Aside0.mk hn; clear hn hr))
  ((try simp only [Exit.inBlock, Exit.then]); first | refine bodyPost_ret (results_tmp3 rfl _ _ _) rfl ?_ | refine bodyPost_end (results_tmp3 rfl _ _ _) rfl ?_)
  subst hn0
  obtain ⟨⟨hc2, hs2⟩, hk2, hb2⟩ := HN.out
  exact ⟨_, true, own2, rfl, Kd.R_lower HR.out HB1.out.size, fun h1 h2 => absurd h1 (by omega), hc2, fun k hk => (hs2 k hk).imp id (Nat.le_trans HB1.out.size), kept_of HB1.out hk2, (below_then (Below.refl B w) H0.out.size HB1.out).trans hb2⟩
theorem do3 (who at_ x : Int) (A : Option Addr) (cb : Nat) (b : List S143) (w : World) {B : Nat} {own : Nat → Prop} {g : Nat} {M : MS} {bd : List S28} (h : MemC w B own g M) (hwho : (Lit.int .i64 who).wf = true) (hat : (Lit.int .i64 at_).wf = true) (hlog : M.log.length ≤ 1000000) (hnb : M.nb ≤ 1000000) (hbox : ∀ b ∈ M.boxes, b.length ≤ 1000000) (hbl : BedL M.beds bd ∧ bd.length ≤ 1000000) (hb : b.length ≤ 1000) (hC : Kd.C k140 w A (bx b).length (bx b)) (hc : (bx b).length ≤ cb) :
    Calls Try.prog 41 #[.pointer (some ⟨g, 0, none⟩), .agg #[.int .i64 who, .int .i64 3, .int .i64 at_, .int .u64 x, .slice A (bx b).length cb]] w (MPost w B own g M bd 3 who at_ x b) := by
  have HM := Aside0.mk (h.below (below_alloc (Below.refl w.heap.size w) (.cells #[.int .i64 who, .int .i64 3, .int .i64 at_, .int .u64 x, .slice A (bx b).length cb] 68)))
  have H0 := Aside0.mk h
  have HB1 := Aside0.mk (below_alloc (Below.refl w.heap.size w) (.cells #[.int .i64 who, .int .i64 3, .int .i64 at_, .int .u64 x, .slice A (bx b).length cb] 68))
  have hblk := blk_new w (.cells #[.int .i64 who, .int .i64 3, .int .i64 at_, .int .u64 x, .slice A (bx b).length cb] 68)
  have HW := Aside0.mk (show _ ∧ _ ∧ _ ∧ _ ∧ _ from ⟨hwho, hat, hlog, hnb, hbox⟩)
  have HBL := Aside0.mk hbl
  have HC := Aside0.mk (show _ ∧ _ ∧ _ from ⟨hC, hc, hb⟩)
  clear h hwho hat hlog hnb hbox hbl hb hC hc
  go_enter Try.func41, Try.ntmps41
  go_upto_region 1 with fail
  generalize ew1 : World.alloc w _ = w1 at HM HB1 hblk ⊢
  have hx0 : w1.cell? ⟨w.heap.size, 0, none⟩ = some (.int .i64 who) := (blk_cell hblk 0).trans rfl
  have hx1 : w1.cell? ⟨w.heap.size, 1, none⟩ = some (.int .i64 3) := (blk_cell hblk 1).trans rfl
  have hx2 : w1.cell? ⟨w.heap.size, 2, none⟩ = some (.int .i64 at_) := (blk_cell hblk 2).trans rfl
  have hx3 : w1.cell? ⟨w.heap.size, 3, none⟩ = some (.int .u64 x) := (blk_cell hblk 3).trans rfl
  have hx4 : w1.cell? ⟨w.heap.size, 4, none⟩ = some (.slice A (bx b).length cb) := (blk_cell hblk 4).trans rfl
  have HG := Aside0.mk (blk_lt hblk)
  clear hblk ew1
  generalize hn0 : w.heap.size = n at HG hx0 hx1 hx2 hx3 hx4 ⊢
  go_upto_region 9 with fail
  have HM1 := Aside0.mk (HM.out.below (below_drew (Below.refl _ w1)))
  have TC := Aside0.mk (show Calls Try.prog 35 #[.slice A (bx b).length cb] w1.drew (fun e w' => ∃ v0 : Value, e = .returned v0 ∧ Kd.R k143 143 w' w1.drew.heap.size (fun _ => True) v0 b ∧ Below w1.drew.heap.size w1.drew w') from To_C A cb b (by unfold Pure.Short; have := HC.out.2.2; omega) w1.drew (Kd.C_below HC.out.1 (below_step HB1.out (below_drew (Below.refl _ w1)))) HC.out.2.1)
  go_region_held3 (fun w' => w'.cell? ⟨n, 0, none⟩ = some (.int .i64 who) ∧ w'.cell? ⟨n, 2, none⟩ = some (.int .i64 at_) ∧ w'.cell? ⟨n, 4, none⟩ = some (.slice A (bx b).length cb))
    (first | exact ⟨hx0, hx2, hx4⟩ | exact hN6 | exact hN5)
    (first | (go_at_call 35; (with_reducible refine TC.out.mono ?_); rintro e w2 ⟨v2, rfl, hr, hb2⟩; obtain ⟨A2, n2, c2, rfl⟩ := R_any hr; obtain ⟨rfl, hle2, -⟩ := Kd.R_reads' hr; have HB2 := Aside0.mk ((below_drew (Below.refl _ w1)).trans hb2); have hN5 : w2.cell? ⟨n, 0, none⟩ = some (.int .i64 who) ∧ w2.cell? ⟨n, 2, none⟩ = some (.int .i64 at_) ∧ w2.cell? ⟨n, 4, none⟩ = some (.slice A (bx b).length cb) := ⟨(HB2.out.cell (p := ⟨n, 0, none⟩) HG.out).trans hx0, (HB2.out.cell (p := ⟨n, 2, none⟩) HG.out).trans hx2, (HB2.out.cell (p := ⟨n, 4, none⟩) HG.out).trans hx4⟩; have HM2 := Aside0.mk (HM.out.below HB2.out); have HF2 := Aside0.mk (show Kd.F k143 w2 (fun k => ¬ own k ∧ k < w2.heap.size) A2 b.length b from Kd.R_F (Kd.R_mono (Kd.R_bound hr) (fun k hk => ⟨fun ho => by have h1 := HM.out.2 k ho; have h2 := hk.2.1; exact absurd h1 (Nat.not_lt.2 h2), hk.2.2.1⟩))); clear hr hb2) | (go_at_call 34; (with_reducible refine (Set_C who at_ HW.out.1 A2 c2 b HM2.out HW.out.2.2.1 HF2.out hle2 (by have := HC.out.2.2; omega)).mono ?_); rintro e w3 ⟨rfl, hn⟩; have HN := Aside0.mk hn; have hN7 := hn.2.1.2 n (Nat.lt_of_lt_of_le HG.out HB2.out.size) (fun ho => by have := H0.out.2 n ho; omega); have hN6 : w3.cell? ⟨n, 0, none⟩ = some (.int .i64 who) ∧ w3.cell? ⟨n, 2, none⟩ = some (.int .i64 at_) ∧ w3.cell? ⟨n, 4, none⟩ = some (.slice A (bx b).length cb) := ⟨(cell_eq hN7).trans hN5.1, (cell_eq hN7).trans hN5.2.1, (cell_eq hN7).trans hN5.2.2⟩; clear hn))
  all_goals
    go_wp2
    ((try simp only [Exit.inBlock, Exit.then]); first | refine bodyPost_ret (results_tmp3 rfl _ _ _) rfl ?_ | refine bodyPost_end (results_tmp3 rfl _ _ _) rfl ?_)
    subst hn0
    exact MPost.of H0.out (below_step HB1.out HB2.out) HN.out rfl rfl rfl (fun h1 h2 => absurd h1 (by omega)) rfl
theorem do4 (who at_ x : Int) (A : Option Addr) (cb : Nat) (b : List S143) (w : World) {B : Nat} {own : Nat → Prop} {g : Nat} {M : MS} {bd : List S28} (h : MemC w B own g M) (hwho : (Lit.int .i64 who).wf = true) (hat : (Lit.int .i64 at_).wf = true) (hlog : M.log.length ≤ 1000000) (hnb : M.nb ≤ 1000000) (hbox : ∀ b ∈ M.boxes, b.length ≤ 1000000) (hbl : BedL M.beds bd ∧ bd.length ≤ 1000000) (hb : b.length ≤ 1000) (hC : Kd.C k140 w A (bx b).length (bx b)) (hc : (bx b).length ≤ cb) :
    Calls Try.prog 41 #[.pointer (some ⟨g, 0, none⟩), .agg #[.int .i64 who, .int .i64 4, .int .i64 at_, .int .u64 x, .slice A (bx b).length cb]] w (MPost w B own g M bd 4 who at_ x b) := by
  have HM := Aside0.mk (h.below (below_alloc (Below.refl w.heap.size w) (.cells #[.int .i64 who, .int .i64 4, .int .i64 at_, .int .u64 x, .slice A (bx b).length cb] 68)))
  have H0 := Aside0.mk h
  have HB1 := Aside0.mk (below_alloc (Below.refl w.heap.size w) (.cells #[.int .i64 who, .int .i64 4, .int .i64 at_, .int .u64 x, .slice A (bx b).length cb] 68))
  have hblk := blk_new w (.cells #[.int .i64 who, .int .i64 4, .int .i64 at_, .int .u64 x, .slice A (bx b).length cb] 68)
  have HW := Aside0.mk (show _ ∧ _ ∧ _ ∧ _ ∧ _ from ⟨hwho, hat, hlog, hnb, hbox⟩)
  have HBL := Aside0.mk hbl
  have HC := Aside0.mk (show _ ∧ _ ∧ _ from ⟨hC, hc, hb⟩)
  clear h hwho hat hlog hnb hbox hbl hb hC hc
  go_enter Try.func41, Try.ntmps41
  go_upto_region 1 with fail
  generalize ew1 : World.alloc w _ = w1 at HM HB1 hblk ⊢
  have hx0 : w1.cell? ⟨w.heap.size, 0, none⟩ = some (.int .i64 who) := (blk_cell hblk 0).trans rfl
  have hx1 : w1.cell? ⟨w.heap.size, 1, none⟩ = some (.int .i64 4) := (blk_cell hblk 1).trans rfl
  have hx2 : w1.cell? ⟨w.heap.size, 2, none⟩ = some (.int .i64 at_) := (blk_cell hblk 2).trans rfl
  have hx3 : w1.cell? ⟨w.heap.size, 3, none⟩ = some (.int .u64 x) := (blk_cell hblk 3).trans rfl
  have hx4 : w1.cell? ⟨w.heap.size, 4, none⟩ = some (.slice A (bx b).length cb) := (blk_cell hblk 4).trans rfl
  have HG := Aside0.mk (blk_lt hblk)
  clear hblk ew1
  generalize hn0 : w.heap.size = n at HG hx0 hx1 hx2 hx3 hx4 ⊢
  go_wp2_with (first | (go_at_call 49; (with_reducible refine (Take_C who at_ HW.out.1 HM.out HW.out.2.2.1).mono ?_); rintro e w2 ⟨rfl, hn⟩; have HN := Aside0.mk hn; clear hn))
  ((try simp only [Exit.inBlock, Exit.then]); first | refine bodyPost_ret (results_tmp3 rfl _ _ _) rfl ?_ | refine bodyPost_end (results_tmp3 rfl _ _ _) rfl ?_)
  subst hn0
  exact MPost.of H0.out HB1.out HN.out rfl rfl rfl (fun h1 h2 => rfl) rfl
theorem do5 (who at_ x : Int) (A : Option Addr) (cb : Nat) (b : List S143) (w : World) {B : Nat} {own : Nat → Prop} {g : Nat} {M : MS} {bd : List S28} (h : MemC w B own g M) (hwho : (Lit.int .i64 who).wf = true) (hat : (Lit.int .i64 at_).wf = true) (hlog : M.log.length ≤ 1000000) (hnb : M.nb ≤ 1000000) (hbox : ∀ b ∈ M.boxes, b.length ≤ 1000000) (hbl : BedL M.beds bd ∧ bd.length ≤ 1000000) (hb : b.length ≤ 1000) (hC : Kd.C k140 w A (bx b).length (bx b)) (hc : (bx b).length ≤ cb) :
    Calls Try.prog 41 #[.pointer (some ⟨g, 0, none⟩), .agg #[.int .i64 who, .int .i64 5, .int .i64 at_, .int .u64 x, .slice A (bx b).length cb]] w (MPost w B own g M bd 5 who at_ x b) := by
  have HM := Aside0.mk (h.below (below_alloc (Below.refl w.heap.size w) (.cells #[.int .i64 who, .int .i64 5, .int .i64 at_, .int .u64 x, .slice A (bx b).length cb] 68)))
  have H0 := Aside0.mk h
  have HB1 := Aside0.mk (below_alloc (Below.refl w.heap.size w) (.cells #[.int .i64 who, .int .i64 5, .int .i64 at_, .int .u64 x, .slice A (bx b).length cb] 68))
  have hblk := blk_new w (.cells #[.int .i64 who, .int .i64 5, .int .i64 at_, .int .u64 x, .slice A (bx b).length cb] 68)
  have HW := Aside0.mk (show _ ∧ _ ∧ _ ∧ _ ∧ _ from ⟨hwho, hat, hlog, hnb, hbox⟩)
  have HBL := Aside0.mk hbl
  have HC := Aside0.mk (show _ ∧ _ ∧ _ from ⟨hC, hc, hb⟩)
  clear h hwho hat hlog hnb hbox hbl hb hC hc
  go_enter Try.func41, Try.ntmps41
  go_upto_region 1 with fail
  generalize ew1 : World.alloc w _ = w1 at HM HB1 hblk ⊢
  have hx0 : w1.cell? ⟨w.heap.size, 0, none⟩ = some (.int .i64 who) := (blk_cell hblk 0).trans rfl
  have hx1 : w1.cell? ⟨w.heap.size, 1, none⟩ = some (.int .i64 5) := (blk_cell hblk 1).trans rfl
  have hx2 : w1.cell? ⟨w.heap.size, 2, none⟩ = some (.int .i64 at_) := (blk_cell hblk 2).trans rfl
  have hx3 : w1.cell? ⟨w.heap.size, 3, none⟩ = some (.int .u64 x) := (blk_cell hblk 3).trans rfl
  have hx4 : w1.cell? ⟨w.heap.size, 4, none⟩ = some (.slice A (bx b).length cb) := (blk_cell hblk 4).trans rfl
  have HG := Aside0.mk (blk_lt hblk)
  clear hblk ew1
  generalize hn0 : w.heap.size = n at HG hx0 hx1 hx2 hx3 hx4 ⊢
  go_wp2_with (first | (go_at_call 50; (with_reducible refine (Free_C who at_ HW.out.1 HM.out HW.out.2.2.1).mono ?_); rintro e w2 ⟨rfl, hn⟩; have HN := Aside0.mk hn; clear hn))
  ((try simp only [Exit.inBlock, Exit.then]); first | refine bodyPost_ret (results_tmp3 rfl _ _ _) rfl ?_ | refine bodyPost_end (results_tmp3 rfl _ _ _) rfl ?_)
  subst hn0
  exact MPost.of H0.out HB1.out HN.out rfl rfl rfl (fun h1 h2 => rfl) rfl
theorem do6 (who at_ x : Int) (A : Option Addr) (cb : Nat) (b : List S143) (w : World) {B : Nat} {own : Nat → Prop} {g : Nat} {M : MS} {bd : List S28} (h : MemC w B own g M) (hwho : (Lit.int .i64 who).wf = true) (hat : (Lit.int .i64 at_).wf = true) (hlog : M.log.length ≤ 1000000) (hnb : M.nb ≤ 1000000) (hbox : ∀ b ∈ M.boxes, b.length ≤ 1000000) (hbl : BedL M.beds bd ∧ bd.length ≤ 1000000) (hb : b.length ≤ 1000) (hC : Kd.C k140 w A (bx b).length (bx b)) (hc : (bx b).length ≤ cb) :
    Calls Try.prog 41 #[.pointer (some ⟨g, 0, none⟩), .agg #[.int .i64 who, .int .i64 6, .int .i64 at_, .int .u64 x, .slice A (bx b).length cb]] w (MPost w B own g M bd 6 who at_ x b) := by
  have HM := Aside0.mk (h.below (below_alloc (Below.refl w.heap.size w) (.cells #[.int .i64 who, .int .i64 6, .int .i64 at_, .int .u64 x, .slice A (bx b).length cb] 68)))
  have H0 := Aside0.mk h
  have HB1 := Aside0.mk (below_alloc (Below.refl w.heap.size w) (.cells #[.int .i64 who, .int .i64 6, .int .i64 at_, .int .u64 x, .slice A (bx b).length cb] 68))
  have hblk := blk_new w (.cells #[.int .i64 who, .int .i64 6, .int .i64 at_, .int .u64 x, .slice A (bx b).length cb] 68)
  have HW := Aside0.mk (show _ ∧ _ ∧ _ ∧ _ ∧ _ from ⟨hwho, hat, hlog, hnb, hbox⟩)
  have HBL := Aside0.mk hbl
  have HC := Aside0.mk (show _ ∧ _ ∧ _ from ⟨hC, hc, hb⟩)
  clear h hwho hat hlog hnb hbox hbl hb hC hc
  go_enter Try.func41, Try.ntmps41
  go_upto_region 1 with fail
  generalize ew1 : World.alloc w _ = w1 at HM HB1 hblk ⊢
  have hx0 : w1.cell? ⟨w.heap.size, 0, none⟩ = some (.int .i64 who) := (blk_cell hblk 0).trans rfl
  have hx1 : w1.cell? ⟨w.heap.size, 1, none⟩ = some (.int .i64 6) := (blk_cell hblk 1).trans rfl
  have hx2 : w1.cell? ⟨w.heap.size, 2, none⟩ = some (.int .i64 at_) := (blk_cell hblk 2).trans rfl
  have hx3 : w1.cell? ⟨w.heap.size, 3, none⟩ = some (.int .u64 x) := (blk_cell hblk 3).trans rfl
  have hx4 : w1.cell? ⟨w.heap.size, 4, none⟩ = some (.slice A (bx b).length cb) := (blk_cell hblk 4).trans rfl
  have HG := Aside0.mk (blk_lt hblk)
  clear hblk ew1
  generalize hn0 : w.heap.size = n at HG hx0 hx1 hx2 hx3 hx4 ⊢
  go_wp2_with (first | (go_at_call 51; (with_reducible refine (Sleep_C who at_ HW.out.1 HW.out.2.1 HM.out HW.out.2.2.1 HW.out.2.2.2.1).mono ?_); rintro e w2 ⟨rfl, hn⟩; have HN := Aside0.mk hn; clear hn))
  ((try simp only [Exit.inBlock, Exit.then]); first | refine bodyPost_ret (results_tmp3 rfl _ _ _) rfl ?_ | refine bodyPost_end (results_tmp3 rfl _ _ _) rfl ?_)
  subst hn0
  exact MPost.of H0.out HB1.out HN.out rfl rfl rfl (fun h1 h2 => rfl) rfl
theorem do7 (who at_ x : Int) (A : Option Addr) (cb : Nat) (b : List S143) (w : World) {B : Nat} {own : Nat → Prop} {g : Nat} {M : MS} {bd : List S28} (h : MemC w B own g M) (hwho : (Lit.int .i64 who).wf = true) (hat : (Lit.int .i64 at_).wf = true) (hlog : M.log.length ≤ 1000000) (hnb : M.nb ≤ 1000000) (hbox : ∀ b ∈ M.boxes, b.length ≤ 1000000) (hbl : BedL M.beds bd ∧ bd.length ≤ 1000000) (hb : b.length ≤ 1000) (hC : Kd.C k140 w A (bx b).length (bx b)) (hc : (bx b).length ≤ cb) :
    Calls Try.prog 41 #[.pointer (some ⟨g, 0, none⟩), .agg #[.int .i64 who, .int .i64 7, .int .i64 at_, .int .u64 x, .slice A (bx b).length cb]] w (MPost w B own g M bd 7 who at_ x b) := by
  have HM := Aside0.mk (h.below (below_alloc (Below.refl w.heap.size w) (.cells #[.int .i64 who, .int .i64 7, .int .i64 at_, .int .u64 x, .slice A (bx b).length cb] 68)))
  have H0 := Aside0.mk h
  have HB1 := Aside0.mk (below_alloc (Below.refl w.heap.size w) (.cells #[.int .i64 who, .int .i64 7, .int .i64 at_, .int .u64 x, .slice A (bx b).length cb] 68))
  have hblk := blk_new w (.cells #[.int .i64 who, .int .i64 7, .int .i64 at_, .int .u64 x, .slice A (bx b).length cb] 68)
  have HW := Aside0.mk (show _ ∧ _ ∧ _ ∧ _ ∧ _ from ⟨hwho, hat, hlog, hnb, hbox⟩)
  have HBL := Aside0.mk hbl
  have HC := Aside0.mk (show _ ∧ _ ∧ _ from ⟨hC, hc, hb⟩)
  clear h hwho hat hlog hnb hbox hbl hb hC hc
  go_enter Try.func41, Try.ntmps41
  go_upto_region 1 with fail
  generalize ew1 : World.alloc w _ = w1 at HM HB1 hblk ⊢
  have hx0 : w1.cell? ⟨w.heap.size, 0, none⟩ = some (.int .i64 who) := (blk_cell hblk 0).trans rfl
  have hx1 : w1.cell? ⟨w.heap.size, 1, none⟩ = some (.int .i64 7) := (blk_cell hblk 1).trans rfl
  have hx2 : w1.cell? ⟨w.heap.size, 2, none⟩ = some (.int .i64 at_) := (blk_cell hblk 2).trans rfl
  have hx3 : w1.cell? ⟨w.heap.size, 3, none⟩ = some (.int .u64 x) := (blk_cell hblk 3).trans rfl
  have hx4 : w1.cell? ⟨w.heap.size, 4, none⟩ = some (.slice A (bx b).length cb) := (blk_cell hblk 4).trans rfl
  have HG := Aside0.mk (blk_lt hblk)
  clear hblk ew1
  generalize hn0 : w.heap.size = n at HG hx0 hx1 hx2 hx3 hx4 ⊢
  go_wp2_with (first | (go_at_call 52; (with_reducible refine (Wake_C who at_ HW.out.1 HM.out HW.out.2.2.1 HW.out.2.2.2.1).mono ?_); rintro e w2 ⟨V, rfl, hv1, hv2, hn⟩; have HN := Aside0.mk hn; have HV := Aside0.mk (woken_len HBL.out hv1 hv2); have hwr : IntKind.u64.wrap ((V.length : Nat) : Int) = ((V.length : Nat) : Int) := (by have h1 := HV.out.2; rw [IntKind.wrap_u64]; omega); clear hn hv1 hv2))
  ((try simp only [Exit.inBlock, Exit.then]); first | refine bodyPost_ret (results_tmp3 rfl _ _ _) rfl ?_ | refine bodyPost_end (results_tmp3 rfl _ _ _) rfl ?_)
  subst hn0
  exact MPost.of H0.out HB1.out HN.out rfl HV.out.1.symm rfl (fun h1 h2 => absurd h2 (by omega)) rfl
theorem do_C {kk : Nat} (hk : kk < 8) (who at_ x : Int) (A : Option Addr) (cb : Nat) (b : List S143) (w : World) {B : Nat} {own : Nat → Prop} {g : Nat} {M : MS} {bd : List S28} (h : MemC w B own g M) (hwho : (Lit.int .i64 who).wf = true) (hat : (Lit.int .i64 at_).wf = true) (hlog : M.log.length ≤ 1000000) (hnb : M.nb ≤ 1000000) (hbox : ∀ b ∈ M.boxes, b.length ≤ 1000000) (hbl : BedL M.beds bd ∧ bd.length ≤ 1000000) (hb : b.length ≤ 1000) (hC : Kd.C k140 w A (bx b).length (bx b)) (hc : (bx b).length ≤ cb) :
    Calls Try.prog 41 #[.pointer (some ⟨g, 0, none⟩), .agg #[.int .i64 who, .int .i64 (kk : Int), .int .i64 at_, .int .u64 x, .slice A (bx b).length cb]] w (MPost w B own g M bd kk who at_ x b) := by
  have hk8 : kk = 0 ∨ kk = 1 ∨ kk = 2 ∨ kk = 3 ∨ kk = 4 ∨ kk = 5 ∨ kk = 6 ∨ kk = 7 := by omega
  rcases hk8 with rfl | rfl | rfl | rfl | rfl | rfl | rfl | rfl
  · exact do0 who at_ x A cb b w h hwho hat hlog hnb hbox hbl hb hC hc
  · exact do1 who at_ x A cb b w h hwho hat hlog hnb hbox hbl hb hC hc
  · exact do2 who at_ x A cb b w h hwho hat hlog hnb hbox hbl hb hC hc
  · exact do3 who at_ x A cb b w h hwho hat hlog hnb hbox hbl hb hC hc
  · exact do4 who at_ x A cb b w h hwho hat hlog hnb hbox hbl hb hC hc
  · exact do5 who at_ x A cb b w h hwho hat hlog hnb hbox hbl hb hC hc
  · exact do6 who at_ x A cb b w h hwho hat hlog hnb hbox hbl hb hC hc
  · exact do7 who at_ x A cb b w h hwho hat hlog hnb hbox hbl hb hC hc
set_option maxRecDepth 100000
def T8.t0 : MS := ⟨List.replicate 1 0, List.replicate 1 [], List.replicate 1 (-1), fun _ => none, 0, []⟩
def T8.t1 : MS := T8.t0.pass 0 4 0 (-1) 0
def T8.t2 : MS := T8.t1.pass 1 4 0 (-1) 1
def T8.t3 : MS := T8.t2.sleep 0 0
def T8.t4 : MS := T8.t3.pass 1 4 0 (-1) 1
def T8.t5 : MS := T8.t4.pass 0 4 0 (-1) 0
def T8.t6 : MS := T8.t5.wake 1 0
def T8.t7 : MS := T8.t6.store 0 0 7
def T8.t8 : MS := T8.t7.loadTo 1 0
theorem T8.facts : (T8.t0.passB 0 0 (-1) = true ∧ T8.t1.passB 1 0 (-1) = false ∧ T8.t2.passB 0 0 0 = true ∧ T8.t3.passB 1 0 (-1) = true) ∧ ((T8.t4.beds 0).isSome = true ∧ T8.t4.passB 0 0 (-1) = false ∧ T8.t5.passB 1 0 1 = true ∧ (T8.t7.beds 0).isSome = false) ∧ (T8.t7.load 1 0 = 7 ∧ T8.t8.log.length = 7 ∧ T8.t8.holder 0 = 1) := by
  refine ⟨⟨?_, ?_, ?_, ?_⟩, ⟨?_, ?_, ?_, ?_⟩, ?_, ?_, ?_⟩ <;> decide
theorem T8.small : (T8.t0.log.length ≤ 1000000 ∧ T8.t1.log.length ≤ 1000000 ∧ T8.t2.log.length ≤ 1000000 ∧ T8.t3.log.length ≤ 1000000) ∧ (T8.t4.log.length ≤ 1000000 ∧ T8.t5.log.length ≤ 1000000 ∧ T8.t6.log.length ≤ 1000000 ∧ T8.t7.log.length ≤ 1000000) ∧ (T8.t2.nb ≤ 1000000 ∧ T8.t5.nb ≤ 1000000) := by
  refine ⟨⟨?_, ?_, ?_, ?_⟩, ⟨?_, ?_, ?_, ?_⟩, ?_, ?_⟩ <;> decide
theorem T8.bed (x : Int) : T8.t5.beds x = some 0 ↔ x = 0 := by
  have e : T8.t5.beds = upd (fun _ => none) 0 (some 0) := rfl
  rw [e]
  unfold upd
  by_cases h : x = 0
  · simp [h]
  · simp [h]
theorem T8.one {V : List Int} (hn : V.Nodup) (h : ∀ x, x ∈ V ↔ T8.t5.passB 1 0 1 = true ∧ T8.t5.beds x = some 0) : V.length = 1 := by
  have h2 : ∀ x, x ∈ V ↔ x = 0 := fun x => by rw [h, T8.bed, T8.facts.2.1.2.2.1]; simp
  match V, hn, h2 with
  | [], _, h2 => exact absurd ((h2 0).2 rfl) List.not_mem_nil
  | [a], _, _ => rfl
  | a :: b :: l, hn, h2 =>
    have ha := (h2 a).1 (by simp)
    have hb := (h2 b).1 (by simp)
    rw [ha, hb] at hn
    simp at hn
theorem told8_calls (W : World) : Calls Try.prog 31 #[] W fun e w' => e = .returned (.bool true) ∧ Below W.heap.size W w' := by
  have w0 : (Lit.int .i64 0).wf = true := by decide
  have w1 : (Lit.int .i64 1).wf = true := by decide
  have W0 := Aside0.mk w0
  have W1 := Aside0.mk w1
  have SM := Aside0.mk T8.small
  obtain ⟨⟨b0, b1, b2, b3⟩, ⟨b4, b5, b6, b7⟩, b8, b9, b10⟩ := T8.facts
  clear w0 w1
  go_enter Try.func31, Try.ntmps31
  go_upto_region 4 with (first | (go_at_call 30; ((refine (New_C 1 1 1 (by decide) (by decide) (by decide) _).mono ?_); rintro e w1 ⟨g, own0, rfl, hm, -, hb⟩; have HM := Aside0.mk (show MemC w1 W.heap.size own0 g T8.t0 from hm); have HB := Aside0.mk hb; clear hm hb)))
  go_upto_region 5 with (first
    | (go_at_call 49; ((with_reducible refine (Take_C 0 0 W0.out HM.out SM.out.1.1).mono ?_); rintro e w2 ⟨rfl, ⟨own1, hc1, -⟩, -, hb1⟩; have HM1 := Aside0.mk (show MemC w2 W.heap.size own1 g T8.t1 from hc1); have HB1 := Aside0.mk (HB.out.trans hb1); clear hc1 hb1 HM HB; have HM := HM1; have HB := HB1; clear HM1 HB1))
    | (go_at_call 49; ((with_reducible refine (Take_C 1 0 W1.out HM.out SM.out.1.2.1).mono ?_); rintro e w2 ⟨rfl, ⟨own1, hc1, -⟩, -, hb1⟩; have HM1 := Aside0.mk (show MemC w2 W.heap.size own1 g T8.t2 from hc1); have HB1 := Aside0.mk (HB.out.trans hb1); clear hc1 hb1 HM HB; have HM := HM1; have HB := HB1; clear HM1 HB1))
    | (go_at_call 51; ((with_reducible refine (Sleep_C 0 0 W0.out W0.out HM.out SM.out.1.2.2.1 SM.out.2.2.1).mono ?_); rintro e w2 ⟨rfl, ⟨own1, hc1, -⟩, -, hb1⟩; have HM1 := Aside0.mk (show MemC w2 W.heap.size own1 g T8.t3 from hc1); have HB1 := Aside0.mk (HB.out.trans hb1); clear hc1 hb1 HM HB; have HM := HM1; have HB := HB1; clear HM1 HB1))
    | (go_at_call 49; ((with_reducible refine (Take_C 1 0 W1.out HM.out SM.out.1.2.2.2).mono ?_); rintro e w2 ⟨rfl, ⟨own1, hc1, -⟩, -, hb1⟩; have HM1 := Aside0.mk (show MemC w2 W.heap.size own1 g T8.t4 from hc1); have HB1 := Aside0.mk (HB.out.trans hb1); clear hc1 hb1 HM HB; have HM := HM1; have HB := HB1; clear HM1 HB1)))
  go_upto_region 6 with (first
    | (go_at_call 44; (with_reducible refine (Asleep_C 0 W0.out HM.out).mono ?_); rintro e w2 ⟨rfl, rfl⟩)
    | (go_at_call 49; ((with_reducible refine (Take_C 0 0 W0.out HM.out SM.out.2.1.1).mono ?_); rintro e w2 ⟨rfl, ⟨own1, hc1, -⟩, -, hb1⟩; have HM1 := Aside0.mk (show MemC w2 W.heap.size own1 g T8.t5 from hc1); have HB1 := Aside0.mk (HB.out.trans hb1); clear hc1 hb1 HM HB; have HM := HM1; have HB := HB1; clear HM1 HB1)))
  go_upto_region 7 with (first
    | (go_at_call 52; ((with_reducible refine (Wake_C 1 0 W1.out HM.out SM.out.2.1.2.1 SM.out.2.2.2).mono ?_); rintro e w2 ⟨V, rfl, hV1, hV2, ⟨own1, hc1, -⟩, -, hb1⟩; have hV := T8.one hV1 hV2; have HM1 := Aside0.mk (show MemC w2 W.heap.size own1 g T8.t6 from hc1); have HB1 := Aside0.mk (HB.out.trans hb1); clear hc1 hb1 HM HB hV1 hV2; have HM := HM1; have HB := HB1; clear HM1 HB1)))
  go_upto_region 8 with (first
    | (go_at_call 32; ((with_reducible refine (Store_C 0 0 7 W0.out HM.out SM.out.2.1.2.2.1).mono ?_); rintro e w2 ⟨rfl, ⟨own1, hc1, -⟩, -, hb1⟩; have HM1 := Aside0.mk (show MemC w2 W.heap.size own1 g T8.t7 from hc1); have HB1 := Aside0.mk (HB.out.trans hb1); clear hc1 hb1 HM HB; have HM := HM1; have HB := HB1; clear HM1 HB1)))
  go_wp2_with (first
    | (go_at_call 44; (with_reducible refine (Asleep_C 0 W0.out HM.out).mono ?_); rintro e w2 ⟨rfl, rfl⟩)
    | (go_at_call 36; ((with_reducible refine (Load_C 1 0 W1.out HM.out SM.out.2.1.2.2.2).mono ?_); rintro e w2 ⟨rfl, ⟨own1, hc1, -⟩, -, hb1⟩; have HM1 := Aside0.mk (show MemC w2 W.heap.size own1 g T8.t8 from hc1); have HB1 := Aside0.mk (HB.out.trans hb1); clear hc1 hb1 HM HB; have HM := HM1; have HB := HB1; clear HM1 HB1))
    | (go_at_call 43; (with_reducible refine (Time_C HM.out).mono ?_); rintro e w2 ⟨rfl, rfl⟩)
    | (go_at_call 46; (with_reducible refine (Holder_C 0 HM.out).mono ?_); rintro e w2 ⟨rfl, rfl⟩))
  go_ret
  exact ⟨by first | rfl | (simp; done) | (simp [*]; done), HB.out⟩
open Go.RowKit Go.Proofs.YtlcnckbmolefpaaW.PrintWords Go.Proofs.YtlcnckbmolefpaaW.PrintLast Go.Proofs.YtlcnckbmolefpaaW.PrintMore
attribute [local go_sem] max2_int min2_int max_two min_two max_three min_three max_four min_four   -- for this text's walks alone
/-! ### marchlandlaw08_Same: function 47 -/
def marchlandlaw08_Same.l0 : Nat → List (S128) → List (S127) → Int → Option (Bool)
  | 0, _, _, _ => none
  | k + 1, x0, x1, x5 => if x5 < (x0.length : Int) then (if 0 ≤ x5 then (if x5 < (x1.length : Int) then (if ((rd_T128 x0 x5).f0) = ((rd_T127 x1 x5).f0) then (if ((rd_T128 x0 x5).f1) = ((rd_T127 x1 x5).f1) then (if ((rd_T128 x0 x5).f2) = ((rd_T127 x1 x5).f2) then (if (((rd_T128 x0 x5).f3) != ((rd_T127 x1 x5).f3)) = true then (some false) else (marchlandlaw08_Same.l0 k x0 x1 (wrap64 (x5 + 1)))) else (some false)) else (some false)) else (some false)) else (none)) else (none)) else (some true)
def marchlandlaw08_Same.f (k : Nat) (l0 : List (S128)) (l1 : List (S127)) : Option (Bool) := if (l0.length : Int) = (l1.length : Int) then (marchlandlaw08_Same.l0 k l0 l1 0) else (some false)
set_option maxHeartbeats 8000000 in
set_option maxRecDepth 100000 in
theorem marchlandlaw08_Same.calls (k : Nat) (A0 : Option Addr) (c0 : Nat) (l0 : List (S128)) (A1 : Option Addr) (c1 : Nat) (l1 : List (S127)) (r : Bool) (w : World) (hr0 : Kd.C k128 w A0 l0.length l0) (hc0 : l0.length ≤ c0) (hr1 : Kd.C k127 w A1 l1.length l1) (hc1 : l1.length ≤ c1) (h : marchlandlaw08_Same.f k l0 l1 = some r) :
    Calls Try.prog 47 #[.slice A0 l0.length c0, .slice A1 l1.length c1] w fun e w' => e = .returned (.bool r) ∧ Drawn0 w w' := by
  have HR0 := Aside0.mk hr0
  have HC0 := Aside0.mk hc0
  clear hr0 hc0
  have HR1 := Aside0.mk hr1
  have HC1 := Aside0.mk hc1
  clear hr1 hc1
  have H : (if (l0.length : Int) = (l1.length : Int) then (marchlandlaw08_Same.l0 k l0 l1 0) else (some false)) = some r := h
  clear h
  by_cases c3 : (l0.length : Int) = (l1.length : Int)
  · rw [if_pos c3] at H
    have c3b0 : ((l0.length : Int) == (l1.length : Int)) = true := beq_iff_eq.mpr c3
    have c3b1 : ((l0.length : Int) != (l1.length : Int)) = false := bne_eq_false_iff_eq.mpr c3
    have c3b2 : (l0.length == l1.length) = true := by first | simpa using c3 | (simp at c3 ⊢; omega)
    clear c3
    have H' := Aside0.mk H
    clear H
    go_enter Try.func47, Try.ntmps47
    go_wp2
    repeat (go_quiet (fail); try go_wp2)
    go_loopg [5] k (fun kq v5 w' => ∃ (x5_1 : Int), v5 = .int .i64 x5_1 ∧ Aside0 (marchlandlaw08_Same.l0 kq l0 l1 x5_1 = some r) ∧ Aside0 (kq ≤ k) ∧ Drawn0 w w')
    case atStart => exact ⟨(0), (by first | rfl | (simp; done) | (simp [*]; done)), H', ⟨Nat.le_refl _⟩, by repeat (first | exact Drawn0.refl _ | apply Drawn0.step)⟩
    case round =>
      clear H'
      try clear c1
      try clear p2
      try clear c3
      try clear c3b0
      try clear c3b1
      try clear c3b2
      obtain ⟨x5_1, rfl, HA, HK1, ⟨m1, rfl⟩⟩ := hrel
      cases gk with
      | zero => exact absurd HA.out (by simp [marchlandlaw08_Same.l0])
      | succ k1 =>
        have H := HA.out
        clear HA
        simp only [marchlandlaw08_Same.l0] at H
        by_cases c4 : x5_1 < (l0.length : Int)
        · rw [if_pos c4] at H
          have c4b0 : decide (x5_1 < (l0.length : Int)) = true := decide_eq_true c4
          clear c4
          by_cases c5 : 0 ≤ x5_1
          · rw [if_pos c5] at H
            have c5b0 : decide (0 ≤ x5_1) = true := decide_eq_true c5
            clear c5
            by_cases c6 : x5_1 < (l1.length : Int)
            · rw [if_pos c6] at H
              have c6b0 : decide (x5_1 < (l1.length : Int)) = true := decide_eq_true c6
              clear c6
              by_cases c7 : ((rd_T128 l0 x5_1).f0) = ((rd_T127 l1 x5_1).f0)
              · rw [if_pos c7] at H
                have c7b0 : (((rd_T128 l0 x5_1).f0) == ((rd_T127 l1 x5_1).f0)) = true := beq_iff_eq.mpr c7
                have c7b1 : (((rd_T128 l0 x5_1).f0) != ((rd_T127 l1 x5_1).f0)) = false := bne_eq_false_iff_eq.mpr c7
                clear c7
                by_cases c8 : ((rd_T128 l0 x5_1).f1) = ((rd_T127 l1 x5_1).f1)
                · rw [if_pos c8] at H
                  have c8b0 : (((rd_T128 l0 x5_1).f1) == ((rd_T127 l1 x5_1).f1)) = true := beq_iff_eq.mpr c8
                  have c8b1 : (((rd_T128 l0 x5_1).f1) != ((rd_T127 l1 x5_1).f1)) = false := bne_eq_false_iff_eq.mpr c8
                  clear c8
                  by_cases c9 : ((rd_T128 l0 x5_1).f2) = ((rd_T127 l1 x5_1).f2)
                  · rw [if_pos c9] at H
                    have c9b0 : (((rd_T128 l0 x5_1).f2) == ((rd_T127 l1 x5_1).f2)) = true := beq_iff_eq.mpr c9
                    have c9b1 : (((rd_T128 l0 x5_1).f2) != ((rd_T127 l1 x5_1).f2)) = false := bne_eq_false_iff_eq.mpr c9
                    clear c9
                    by_cases c10 : (((rd_T128 l0 x5_1).f3) != ((rd_T127 l1 x5_1).f3)) = true
                    · rw [if_pos c10] at H
                      have c10b0 : (((rd_T128 l0 x5_1).f3) != ((rd_T127 l1 x5_1).f3)) = true := c10
                      (try (have c10b1 : decide (((rd_T128 l0 x5_1).f3) = ((rd_T127 l1 x5_1).f3)) = false := by simpa using c10))
                      (try (have c10b2 : (((rd_T128 l0 x5_1).f3) == ((rd_T127 l1 x5_1).f3)) = false := by simpa using c10))
                      (try (have c10b3 : ¬ (((rd_T128 l0 x5_1).f3) = ((rd_T127 l1 x5_1).f3)) := by simpa using c10))
                      clear c10
                      obtain rfl := Option.some.inj H
                      have p307 : 0 ≤ (x5_1 : Int) := of_decide_eq_true (by first | (with_reducible assumption) | assumption)
                      have q307 : x5_1 < (l0.length : Int) := of_decide_eq_true (by first | (with_reducible assumption) | assumption)
                      obtain ⟨ad307, e307, hx307_0, hx307_1, hx307_2, hx307_3⟩ := at_T128 HR0.out x5_1 p307 q307
                      cases e307
                      replace p307 := eq_true p307
                      replace q307 := eq_true q307
                      have p308 : 0 ≤ (x5_1 : Int) := of_decide_eq_true (by first | (with_reducible assumption) | assumption)
                      have q308 : x5_1 < (l1.length : Int) := of_decide_eq_true (by first | (with_reducible assumption) | assumption)
                      obtain ⟨ad308, e308, hx308_0, hx308_1, hx308_2, hx308_3⟩ := at_T127 HR1.out x5_1 p308 q308
                      cases e308
                      replace p308 := eq_true p308
                      replace q308 := eq_true q308
                      have p309 : 0 ≤ (x5_1 : Int) := of_decide_eq_true (by first | (with_reducible assumption) | assumption)
                      have q309 : x5_1 < (l0.length : Int) := of_decide_eq_true (by first | (with_reducible assumption) | assumption)
                      obtain ⟨ad309, e309, hx309_0, hx309_1, hx309_2, hx309_3⟩ := at_T128 HR0.out x5_1 p309 q309
                      obtain rfl : ad307 = ad309 := (by injection e309)
                      replace p309 := eq_true p309
                      replace q309 := eq_true q309
                      have p310 : 0 ≤ (x5_1 : Int) := of_decide_eq_true (by first | (with_reducible assumption) | assumption)
                      have q310 : x5_1 < (l1.length : Int) := of_decide_eq_true (by first | (with_reducible assumption) | assumption)
                      obtain ⟨ad310, e310, hx310_0, hx310_1, hx310_2, hx310_3⟩ := at_T127 HR1.out x5_1 p310 q310
                      obtain rfl : ad308 = ad310 := (by injection e310)
                      replace p310 := eq_true p310
                      replace q310 := eq_true q310
                      have p311 : 0 ≤ (x5_1 : Int) := of_decide_eq_true (by first | (with_reducible assumption) | assumption)
                      have q311 : x5_1 < (l0.length : Int) := of_decide_eq_true (by first | (with_reducible assumption) | assumption)
                      obtain ⟨ad311, e311, hx311_0, hx311_1, hx311_2, hx311_3⟩ := at_T128 HR0.out x5_1 p311 q311
                      obtain rfl : ad307 = ad311 := (by injection e311)
                      replace p311 := eq_true p311
                      replace q311 := eq_true q311
                      have p312 : 0 ≤ (x5_1 : Int) := of_decide_eq_true (by first | (with_reducible assumption) | assumption)
                      have q312 : x5_1 < (l1.length : Int) := of_decide_eq_true (by first | (with_reducible assumption) | assumption)
                      obtain ⟨ad312, e312, hx312_0, hx312_1, hx312_2, hx312_3⟩ := at_T127 HR1.out x5_1 p312 q312
                      obtain rfl : ad308 = ad312 := (by injection e312)
                      replace p312 := eq_true p312
                      replace q312 := eq_true q312
                      have p313 : 0 ≤ (x5_1 : Int) := of_decide_eq_true (by first | (with_reducible assumption) | assumption)
                      have q313 : x5_1 < (l0.length : Int) := of_decide_eq_true (by first | (with_reducible assumption) | assumption)
                      obtain ⟨ad313, e313, hx313_0, hx313_1, hx313_2, hx313_3⟩ := at_T128 HR0.out x5_1 p313 q313
                      obtain rfl : ad307 = ad313 := (by injection e313)
                      replace p313 := eq_true p313
                      replace q313 := eq_true q313
                      have p314 : 0 ≤ (x5_1 : Int) := of_decide_eq_true (by first | (with_reducible assumption) | assumption)
                      have q314 : x5_1 < (l1.length : Int) := of_decide_eq_true (by first | (with_reducible assumption) | assumption)
                      obtain ⟨ad314, e314, hx314_0, hx314_1, hx314_2, hx314_3⟩ := at_T127 HR1.out x5_1 p314 q314
                      obtain rfl : ad308 = ad314 := (by injection e314)
                      replace p314 := eq_true p314
                      replace q314 := eq_true q314
                      go_wp2
                      repeat (go_quiet (fail); try go_wp2)
                      go_ret
                      exact ⟨by first | rfl | (simp; done) | (simp [*]; done), by repeat (first | exact Drawn0.refl _ | apply Drawn0.step)⟩
                    · rw [if_neg c10] at H
                      have c10b0 : (((rd_T128 l0 x5_1).f3) != ((rd_T127 l1 x5_1).f3)) = false := by simpa using c10
                      (try (have c10b1 : decide (((rd_T128 l0 x5_1).f3) = ((rd_T127 l1 x5_1).f3)) = true := by simpa using c10))
                      (try (have c10b2 : (((rd_T128 l0 x5_1).f3) == ((rd_T127 l1 x5_1).f3)) = true := by simpa using c10))
                      clear c10
                      have H' := Aside0.mk H
                      clear H
                      have p307 : 0 ≤ (x5_1 : Int) := of_decide_eq_true (by first | (with_reducible assumption) | assumption)
                      have q307 : x5_1 < (l0.length : Int) := of_decide_eq_true (by first | (with_reducible assumption) | assumption)
                      obtain ⟨ad307, e307, hx307_0, hx307_1, hx307_2, hx307_3⟩ := at_T128 HR0.out x5_1 p307 q307
                      cases e307
                      replace p307 := eq_true p307
                      replace q307 := eq_true q307
                      have p308 : 0 ≤ (x5_1 : Int) := of_decide_eq_true (by first | (with_reducible assumption) | assumption)
                      have q308 : x5_1 < (l1.length : Int) := of_decide_eq_true (by first | (with_reducible assumption) | assumption)
                      obtain ⟨ad308, e308, hx308_0, hx308_1, hx308_2, hx308_3⟩ := at_T127 HR1.out x5_1 p308 q308
                      cases e308
                      replace p308 := eq_true p308
                      replace q308 := eq_true q308
                      have p309 : 0 ≤ (x5_1 : Int) := of_decide_eq_true (by first | (with_reducible assumption) | assumption)
                      have q309 : x5_1 < (l0.length : Int) := of_decide_eq_true (by first | (with_reducible assumption) | assumption)
                      obtain ⟨ad309, e309, hx309_0, hx309_1, hx309_2, hx309_3⟩ := at_T128 HR0.out x5_1 p309 q309
                      obtain rfl : ad307 = ad309 := (by injection e309)
                      replace p309 := eq_true p309
                      replace q309 := eq_true q309
                      have p310 : 0 ≤ (x5_1 : Int) := of_decide_eq_true (by first | (with_reducible assumption) | assumption)
                      have q310 : x5_1 < (l1.length : Int) := of_decide_eq_true (by first | (with_reducible assumption) | assumption)
                      obtain ⟨ad310, e310, hx310_0, hx310_1, hx310_2, hx310_3⟩ := at_T127 HR1.out x5_1 p310 q310
                      obtain rfl : ad308 = ad310 := (by injection e310)
                      replace p310 := eq_true p310
                      replace q310 := eq_true q310
                      have p311 : 0 ≤ (x5_1 : Int) := of_decide_eq_true (by first | (with_reducible assumption) | assumption)
                      have q311 : x5_1 < (l0.length : Int) := of_decide_eq_true (by first | (with_reducible assumption) | assumption)
                      obtain ⟨ad311, e311, hx311_0, hx311_1, hx311_2, hx311_3⟩ := at_T128 HR0.out x5_1 p311 q311
                      obtain rfl : ad307 = ad311 := (by injection e311)
                      replace p311 := eq_true p311
                      replace q311 := eq_true q311
                      have p312 : 0 ≤ (x5_1 : Int) := of_decide_eq_true (by first | (with_reducible assumption) | assumption)
                      have q312 : x5_1 < (l1.length : Int) := of_decide_eq_true (by first | (with_reducible assumption) | assumption)
                      obtain ⟨ad312, e312, hx312_0, hx312_1, hx312_2, hx312_3⟩ := at_T127 HR1.out x5_1 p312 q312
                      obtain rfl : ad308 = ad312 := (by injection e312)
                      replace p312 := eq_true p312
                      replace q312 := eq_true q312
                      have p313 : 0 ≤ (x5_1 : Int) := of_decide_eq_true (by first | (with_reducible assumption) | assumption)
                      have q313 : x5_1 < (l0.length : Int) := of_decide_eq_true (by first | (with_reducible assumption) | assumption)
                      obtain ⟨ad313, e313, hx313_0, hx313_1, hx313_2, hx313_3⟩ := at_T128 HR0.out x5_1 p313 q313
                      obtain rfl : ad307 = ad313 := (by injection e313)
                      replace p313 := eq_true p313
                      replace q313 := eq_true q313
                      have p314 : 0 ≤ (x5_1 : Int) := of_decide_eq_true (by first | (with_reducible assumption) | assumption)
                      have q314 : x5_1 < (l1.length : Int) := of_decide_eq_true (by first | (with_reducible assumption) | assumption)
                      obtain ⟨ad314, e314, hx314_0, hx314_1, hx314_2, hx314_3⟩ := at_T127 HR1.out x5_1 p314 q314
                      obtain rfl : ad308 = ad314 := (by injection e314)
                      replace p314 := eq_true p314
                      replace q314 := eq_true q314
                      go_wp2
                      repeat (go_quiet (fail); try go_wp2)
                      go_roundg k1
                      case measure => have := HK1.out; omega
                      case rel => exact ⟨(wrap64 (x5_1 + 1)), (by first | rfl | (simp; done) | (simp [*]; done)), H', ⟨by have := HK1.out; omega⟩, by repeat (first | exact Drawn0.refl _ | apply Drawn0.step)⟩
                  · rw [if_neg c9] at H
                    have c9b0 : (((rd_T128 l0 x5_1).f2) == ((rd_T127 l1 x5_1).f2)) = false := beq_eq_false_iff_ne.mpr c9
                    have c9b1 : (((rd_T128 l0 x5_1).f2) != ((rd_T127 l1 x5_1).f2)) = true := bne_iff_ne.mpr c9
                    obtain rfl := Option.some.inj H
                    have p307 : 0 ≤ (x5_1 : Int) := of_decide_eq_true (by first | (with_reducible assumption) | assumption)
                    have q307 : x5_1 < (l0.length : Int) := of_decide_eq_true (by first | (with_reducible assumption) | assumption)
                    obtain ⟨ad307, e307, hx307_0, hx307_1, hx307_2, hx307_3⟩ := at_T128 HR0.out x5_1 p307 q307
                    cases e307
                    replace p307 := eq_true p307
                    replace q307 := eq_true q307
                    have p308 : 0 ≤ (x5_1 : Int) := of_decide_eq_true (by first | (with_reducible assumption) | assumption)
                    have q308 : x5_1 < (l1.length : Int) := of_decide_eq_true (by first | (with_reducible assumption) | assumption)
                    obtain ⟨ad308, e308, hx308_0, hx308_1, hx308_2, hx308_3⟩ := at_T127 HR1.out x5_1 p308 q308
                    cases e308
                    replace p308 := eq_true p308
                    replace q308 := eq_true q308
                    have p309 : 0 ≤ (x5_1 : Int) := of_decide_eq_true (by first | (with_reducible assumption) | assumption)
                    have q309 : x5_1 < (l0.length : Int) := of_decide_eq_true (by first | (with_reducible assumption) | assumption)
                    obtain ⟨ad309, e309, hx309_0, hx309_1, hx309_2, hx309_3⟩ := at_T128 HR0.out x5_1 p309 q309
                    obtain rfl : ad307 = ad309 := (by injection e309)
                    replace p309 := eq_true p309
                    replace q309 := eq_true q309
                    have p310 : 0 ≤ (x5_1 : Int) := of_decide_eq_true (by first | (with_reducible assumption) | assumption)
                    have q310 : x5_1 < (l1.length : Int) := of_decide_eq_true (by first | (with_reducible assumption) | assumption)
                    obtain ⟨ad310, e310, hx310_0, hx310_1, hx310_2, hx310_3⟩ := at_T127 HR1.out x5_1 p310 q310
                    obtain rfl : ad308 = ad310 := (by injection e310)
                    replace p310 := eq_true p310
                    replace q310 := eq_true q310
                    have p311 : 0 ≤ (x5_1 : Int) := of_decide_eq_true (by first | (with_reducible assumption) | assumption)
                    have q311 : x5_1 < (l0.length : Int) := of_decide_eq_true (by first | (with_reducible assumption) | assumption)
                    obtain ⟨ad311, e311, hx311_0, hx311_1, hx311_2, hx311_3⟩ := at_T128 HR0.out x5_1 p311 q311
                    obtain rfl : ad307 = ad311 := (by injection e311)
                    replace p311 := eq_true p311
                    replace q311 := eq_true q311
                    have p312 : 0 ≤ (x5_1 : Int) := of_decide_eq_true (by first | (with_reducible assumption) | assumption)
                    have q312 : x5_1 < (l1.length : Int) := of_decide_eq_true (by first | (with_reducible assumption) | assumption)
                    obtain ⟨ad312, e312, hx312_0, hx312_1, hx312_2, hx312_3⟩ := at_T127 HR1.out x5_1 p312 q312
                    obtain rfl : ad308 = ad312 := (by injection e312)
                    replace p312 := eq_true p312
                    replace q312 := eq_true q312
                    go_wp2
                    repeat (go_quiet (fail); try go_wp2)
                    go_ret
                    exact ⟨by first | rfl | (simp; done) | (simp [*]; done), by repeat (first | exact Drawn0.refl _ | apply Drawn0.step)⟩
                · rw [if_neg c8] at H
                  have c8b0 : (((rd_T128 l0 x5_1).f1) == ((rd_T127 l1 x5_1).f1)) = false := beq_eq_false_iff_ne.mpr c8
                  have c8b1 : (((rd_T128 l0 x5_1).f1) != ((rd_T127 l1 x5_1).f1)) = true := bne_iff_ne.mpr c8
                  obtain rfl := Option.some.inj H
                  have p307 : 0 ≤ (x5_1 : Int) := of_decide_eq_true (by first | (with_reducible assumption) | assumption)
                  have q307 : x5_1 < (l0.length : Int) := of_decide_eq_true (by first | (with_reducible assumption) | assumption)
                  obtain ⟨ad307, e307, hx307_0, hx307_1, hx307_2, hx307_3⟩ := at_T128 HR0.out x5_1 p307 q307
                  cases e307
                  replace p307 := eq_true p307
                  replace q307 := eq_true q307
                  have p308 : 0 ≤ (x5_1 : Int) := of_decide_eq_true (by first | (with_reducible assumption) | assumption)
                  have q308 : x5_1 < (l1.length : Int) := of_decide_eq_true (by first | (with_reducible assumption) | assumption)
                  obtain ⟨ad308, e308, hx308_0, hx308_1, hx308_2, hx308_3⟩ := at_T127 HR1.out x5_1 p308 q308
                  cases e308
                  replace p308 := eq_true p308
                  replace q308 := eq_true q308
                  have p309 : 0 ≤ (x5_1 : Int) := of_decide_eq_true (by first | (with_reducible assumption) | assumption)
                  have q309 : x5_1 < (l0.length : Int) := of_decide_eq_true (by first | (with_reducible assumption) | assumption)
                  obtain ⟨ad309, e309, hx309_0, hx309_1, hx309_2, hx309_3⟩ := at_T128 HR0.out x5_1 p309 q309
                  obtain rfl : ad307 = ad309 := (by injection e309)
                  replace p309 := eq_true p309
                  replace q309 := eq_true q309
                  have p310 : 0 ≤ (x5_1 : Int) := of_decide_eq_true (by first | (with_reducible assumption) | assumption)
                  have q310 : x5_1 < (l1.length : Int) := of_decide_eq_true (by first | (with_reducible assumption) | assumption)
                  obtain ⟨ad310, e310, hx310_0, hx310_1, hx310_2, hx310_3⟩ := at_T127 HR1.out x5_1 p310 q310
                  obtain rfl : ad308 = ad310 := (by injection e310)
                  replace p310 := eq_true p310
                  replace q310 := eq_true q310
                  go_wp2
                  repeat (go_quiet (fail); try go_wp2)
                  go_ret
                  exact ⟨by first | rfl | (simp; done) | (simp [*]; done), by repeat (first | exact Drawn0.refl _ | apply Drawn0.step)⟩
              · rw [if_neg c7] at H
                have c7b0 : (((rd_T128 l0 x5_1).f0) == ((rd_T127 l1 x5_1).f0)) = false := beq_eq_false_iff_ne.mpr c7
                have c7b1 : (((rd_T128 l0 x5_1).f0) != ((rd_T127 l1 x5_1).f0)) = true := bne_iff_ne.mpr c7
                obtain rfl := Option.some.inj H
                have p307 : 0 ≤ (x5_1 : Int) := of_decide_eq_true (by first | (with_reducible assumption) | assumption)
                have q307 : x5_1 < (l0.length : Int) := of_decide_eq_true (by first | (with_reducible assumption) | assumption)
                obtain ⟨ad307, e307, hx307_0, hx307_1, hx307_2, hx307_3⟩ := at_T128 HR0.out x5_1 p307 q307
                cases e307
                replace p307 := eq_true p307
                replace q307 := eq_true q307
                have p308 : 0 ≤ (x5_1 : Int) := of_decide_eq_true (by first | (with_reducible assumption) | assumption)
                have q308 : x5_1 < (l1.length : Int) := of_decide_eq_true (by first | (with_reducible assumption) | assumption)
                obtain ⟨ad308, e308, hx308_0, hx308_1, hx308_2, hx308_3⟩ := at_T127 HR1.out x5_1 p308 q308
                cases e308
                replace p308 := eq_true p308
                replace q308 := eq_true q308
                go_wp2
                repeat (go_quiet (fail); try go_wp2)
                go_ret
                exact ⟨by first | rfl | (simp; done) | (simp [*]; done), by repeat (first | exact Drawn0.refl _ | apply Drawn0.step)⟩
            · rw [if_neg c6] at H
              exact absurd H (by simp)
          · rw [if_neg c5] at H
            exact absurd H (by simp)
        · rw [if_neg c4] at H
          have c4b0 : decide (x5_1 < (l0.length : Int)) = false := decide_eq_false c4
          clear c4
          obtain rfl := Option.some.inj H
          go_wp2
          repeat (go_quiet (fail); try go_wp2)
          go_ret
          exact ⟨by first | rfl | (simp; done) | (simp [*]; done), by repeat (first | exact Drawn0.refl _ | apply Drawn0.step)⟩
  · rw [if_neg c3] at H
    have c3b0 : ((l0.length : Int) == (l1.length : Int)) = false := beq_eq_false_iff_ne.mpr c3
    have c3b1 : ((l0.length : Int) != (l1.length : Int)) = true := bne_iff_ne.mpr c3
    have c3b2 : (l0.length == l1.length) = false := by first | simpa using c3 | (simp at c3 ⊢; omega)
    obtain rfl := Option.some.inj H
    go_enter Try.func47, Try.ntmps47
    go_wp2
    repeat (go_quiet (fail); try go_wp2)
    go_ret
    exact ⟨by first | rfl | (simp; done) | (simp [*]; done), by repeat (first | exact Drawn0.refl _ | apply Drawn0.step)⟩
set_option maxRecDepth 100000
structure S68 where
  f0 : Int
  f1 : Int
  f2 : Int
  f3 : Int
  f4 : List S140
def z68 : S68 := ⟨0, 0, 0, 0, []⟩
instance : Inhabited S68 := ⟨z68⟩
def k68 : Kd S68 := Kd.iso (Kd.pair (Kd.int .i64) (Kd.pair (Kd.int .i64) (Kd.pair (Kd.int .i64) (Kd.pair (Kd.int .u64) (Kd.slice 140 k140))))) (fun x : S68 => (x.f0, x.f1, x.f2, x.f3, x.f4))
theorem k68_open {w : World} {x : S68} {cs : List Value} (h : k68.K w x cs) : ∃ A c, cs = [.int .i64 x.f0, .int .i64 x.f1, .int .i64 x.f2, .int .u64 x.f3, .slice A x.f4.length c] ∧ x.f4.length ≤ c ∧ Kd.C k140 w A x.f4.length x.f4 := by
  obtain ⟨c1, r1, rfl, h1, c2, r2, rfl, h2, c3, r3, rfl, h3, c4, r4, rfl, h4, A, c, rfl, h5, h6⟩ := h
  obtain rfl := h1
  obtain rfl := h2
  obtain rfl := h3
  obtain rfl := h4
  exact ⟨A, c, rfl, h5, h6⟩
def rd_T68 (xs : List S68) (i : Int) : S68 := xs.getD i.toNat z68
theorem at_T68 {w : World} {A : Option Addr} {n : Nat} {xs : List S68} (h : Kd.C k68 w A n xs) (i : Int) (h0 : 0 ≤ i) (h1 : i < n) : ∃ ad A4 c4, A = some ad ∧ w.cell? (ad.add (i.toNat * 5)) = some (.int .i64 (rd_T68 xs i).f0) ∧ w.cell? ⟨(ad.add (i.toNat * 5)).block, (ad.add (i.toNat * 5)).off + 1, none⟩ = some (.int .i64 (rd_T68 xs i).f1) ∧ w.cell? ⟨(ad.add (i.toNat * 5)).block, (ad.add (i.toNat * 5)).off + 2, none⟩ = some (.int .i64 (rd_T68 xs i).f2) ∧ w.cell? ⟨(ad.add (i.toNat * 5)).block, (ad.add (i.toNat * 5)).off + 3, none⟩ = some (.int .u64 (rd_T68 xs i).f3) ∧ w.cell? ⟨(ad.add (i.toNat * 5)).block, (ad.add (i.toNat * 5)).off + 4, none⟩ = some (.slice A4 (rd_T68 xs i).f4.length c4) ∧ (rd_T68 xs i).f4.length ≤ c4 ∧ Kd.C k140 w A4 (rd_T68 xs i).f4.length (rd_T68 xs i).f4 := by
  obtain ⟨ad, c, e, _, hK, hc0⟩ := Kd.C_get h z68 i h0 h1
  have hc : ∀ j u, c[j]? = some u → w.cell? (ad.add (i.toNat * 5 + j)) = some u := hc0
  obtain ⟨A4, c4, rfl, h5, h6⟩ := k68_open hK
  exact ⟨ad, A4, c4, e, hc 0 _ rfl, by rw [← add_field _ _ 1 (by omega)]; exact hc 1 _ rfl, by rw [← add_field _ _ 2 (by omega)]; exact hc 2 _ rfl, by rw [← add_field _ _ 3 (by omega)]; exact hc 3 _ rfl, by rw [← add_field _ _ 4 (by omega)]; exact hc 4 _ rfl, h5, h6⟩
structure AS (W w : World) (own own2 : Nat → Prop) (g g2 : Nat) (M1 M2 : MS) (bd : List S28) : Prop where
  mem : MemC w W.heap.size own g M1
  ref : RefC w W.heap.size own2 g2 M2 bd
  bel : Below W.heap.size W w
  dis : ∀ k, own k → ¬ own2 k
section
variable {W w w' : World} {own own' own2 own2' : Nat → Prop} {g g2 n : Nat} {M1 M1' M2 M2' : MS} {bd bd' : List S28} {cs : Array Value} {A : Option Addr} {b : List S143}
theorem AS.below (h : AS W w own own2 g g2 M1 M2 bd) (hb : Below w.heap.size w w') : AS W w' own own2 g g2 M1 M2 bd := ⟨h.mem.below hb, h.ref.below hb, below_step h.bel hb, h.dis⟩
theorem AS.next1 (h : AS W w own own2 g g2 M1 M2 bd) (hc : MemC w' W.heap.size own' g M1') (hs : ∀ k, own' k → own k ∨ w.heap.size ≤ k) (hk : Kept w w' own) (hb : Below W.heap.size w w') : AS W w' own' own2 g g2 M1' M2 bd :=
  ⟨hc, h.ref.kept hk (fun k h2 h1 => h.dis k h1 h2), h.bel.trans hb, fun k h1 h2 => (hs k h1).elim (fun h3 => h.dis k h3 h2) (fun h3 => by have := h.ref.2 k h2; omega)⟩
theorem AS.next2 (h : AS W w own own2 g g2 M1 M2 bd) (hn : RefNext w w' W.heap.size own2 g2 M2' bd') : ∃ own2', AS W w' own own2' g g2 M1 M2' bd' ∧ (∀ k, own2' k → own2 k ∨ w.heap.size ≤ k) ∧ Kept w w' own2 := by
  obtain ⟨⟨own2', hc, hs⟩, hk, hb⟩ := hn
  exact ⟨own2', ⟨h.mem.kept hk (fun k h1 h2 => h.dis k h1 h2), hc, h.bel.trans hb, fun k h1 h2 => (hs k h2).elim (fun h3 => h.dis k h1 h3) (fun h3 => by have := h.mem.2 k h1; omega)⟩, hs, hk⟩
structure OB (w : World) (own own2 : Nat → Prop) (n : Nat) (cs : Array Value) (A : Option Addr) (b : List S143) : Prop where
  o1 : ¬ own n
  o2 : ¬ own2 n
  hn : w.heap[n]? = some (.cells cs 68 (0, 0))
  bx : Kd.F k140 w (fun k => ¬ own k ∧ ¬ own2 k ∧ k < w.heap.size) A (bx b).length (bx b)
theorem OB.below (h : OB w own own2 n cs A b) (hb : Below w.heap.size w w') : OB w' own own2 n cs A b :=
  ⟨h.o1, h.o2, (hb.block n (blk_lt h.hn)).trans h.hn, Kd.F_mono (Kd.F_step h.bx (fun k _ hlt => hb.block k hlt)) (fun k ho => ⟨ho.1, ho.2.1, Nat.lt_of_lt_of_le ho.2.2 hb.size⟩)⟩
theorem OB.next1 (h : OB w own own2 n cs A b) (hs : ∀ k, own' k → own k ∨ w.heap.size ≤ k) (hk : Kept w w' own) : OB w' own' own2 n cs A b :=
  ⟨fun ho => (hs n ho).elim h.o1 (fun hl => by have := blk_lt h.hn; omega), h.o2, (hk.2 n (blk_lt h.hn) h.o1).trans h.hn, Kd.F_mono (Kd.F_step h.bx (fun k ho hlt => hk.2 k hlt ho.1)) (fun k ho => ⟨fun h2 => (hs k h2).elim ho.1 (fun hl => by have := ho.2.2; omega), ho.2.1, Nat.lt_of_lt_of_le ho.2.2 hk.1⟩)⟩
theorem OB.next2 (h : OB w own own2 n cs A b) (hs : ∀ k, own2' k → own2 k ∨ w.heap.size ≤ k) (hk : Kept w w' own2) : OB w' own own2' n cs A b :=
  ⟨h.o1, fun ho => (hs n ho).elim h.o2 (fun hl => by have := blk_lt h.hn; omega), (hk.2 n (blk_lt h.hn) h.o2).trans h.hn, Kd.F_mono (Kd.F_step h.bx (fun k ho hlt => hk.2 k hlt ho.2.1)) (fun k ho => ⟨ho.1, fun h2 => (hs k h2).elim ho.2.1 (fun hl => by have := ho.2.2; omega), Nat.lt_of_lt_of_le ho.2.2 hk.1⟩)⟩
theorem rAsleep_C (who : Int) (h : RefC w W.heap.size own2 g2 M2 bd) (hbd : bd.length ≤ 1000000) : Calls Try.prog 45 #[.pointer (some ⟨g2, 0, none⟩), .int .i64 who] w fun e w' => e = .returned (.bool (M2.beds who).isSome) ∧ w' = w := by
  obtain ⟨vw, vb, vl, vd, vo, h⟩ := h.1
  exact rAsleep_V who w h hbd
theorem RefC.looks (h : RefC w W.heap.size own2 g2 M2 bd) : ∃ A2 c2 A4 c4, w.cell? ⟨g2, 2, none⟩ = some (.slice A2 M2.latches.length c2) ∧ w.cell? ⟨g2, 4, none⟩ = some (.slice A4 M2.log.length c4) ∧ Kd.C (Kd.int .i64) w A2 M2.latches.length M2.latches ∧ Kd.C k127 w A4 M2.log.length (M2.log.map lg) ∧ M2.log.length ≤ c4 := by
  obtain ⟨vw, vb, vl, vd, vo, h⟩ := h.1
  obtain ⟨-, -, hx2, -, hx4, -, -⟩ := h.cell
  obtain ⟨A2, c2, rfl⟩ := Kd.R_slice h.hl
  obtain ⟨A4, c4, rfl⟩ := Kd.R_slice h.ho
  have h4 := Kd.R_reads' h.ho
  rw [List.length_map] at hx4 h4
  exact ⟨A2, c2, A4, c4, hx2, hx4, (Kd.R_reads' h.hl).2.2, h4.2.2, h4.2.1⟩
end
structure Lim (M : MS) (bd : List S28) (i : Nat) : Prop where
  log : M.log.length ≤ i
  nb : M.nb ≤ i
  bd : bd.length ≤ i
  box : ∀ b ∈ M.boxes, b.length ≤ 12
  lat : M.latches.length = 3
end Go.Proofs.Ytlcnckbmolefpaa.P
end
