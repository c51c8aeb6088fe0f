/- Walks and laws of several statements of this seat, joined into one text; no condition. -/
import Derived.Test.YtlcnckbmolefpaaProg
import Derived.Below
import Derived.Deep.Draws
import Derived.Deep.AppendLies
import Derived.Maps.AppendAt
import Derived.OwnWalk
import Derived.Laws.BytesArg
import Derived.Laws.MakeOwn
import Derived.Laws.OwnMore
import Derived.Deep.OwnRows
import Derived.Tactics
import Derived.Lib.ConvBytes
import Derived.Laws.Slices
import Derived.WalkKit
import Derived.KernelRfl
import Derived.RowKit3
import Derived.Deep.LoopGhost
import Derived.Deep.QuietTactic
import Derived.BigQuiet
import Derived.WideLaws
import Derived.Deep.DeepCutAuto
import Derived.Deep.CutBlock
import Derived.Deep.RegionHeld3
import Derived.Laws.Rows
import Derived.Lib.AppendStr
import Derived.ArgAppend
import Derived.Laws.IdiomCopy
import Derived.OrdersHeld
import Derived.Laws.BitsLemmas
import Derived.RowKit
import Derived.Laws.StructEq
import Derived.Maps.RangeWalk
import Derived.Maps.OwnRows
import Derived.Maps.Views
import Derived.Maps.OwnSet
import Derived.IntWalk
import Derived.Shelf.SlMaps.Clone
import Derived.Laws.CopyOwn
import Derived.Deep.RegionLaw
import Derived.LoopTactic
import Derived.Outline
import Derived.Lib.BufferMore
import Derived.Deep.CutRange
import Derived.Deep.RegionHeldLaw
import Derived.Maps.GroupsBeside
import Derived.Deep.Slices
import Derived.SizedLaws
import Derived.OpenShut
import Derived.Lib.SmallJoins
import Derived.Test.YtlcnckbmolefpaaCLa0
import Derived.Test.YtlcnckbmolefpaaCLa1
import Derived.Test.YtlcnckbmolefpaaCLa2
import Derived.Test.YtlcnckbmolefpaaCLa3
import Derived.Test.YtlcnckbmolefpaaCLa4
section
namespace Go.Proofs.Ytlcnckbmolefpaa.P
open Go.RowKit Go.Maps Go.Proofs.Ytlcnckbmolefpaa.CK Go.Proofs.YtlcnckbmolefpaaW.PrintWords Go.Proofs.YtlcnckbmolefpaaW.PrintLast Go.Proofs.YtlcnckbmolefpaaW.PrintMore
set_option linter.unusedVariables false
set_option linter.unusedSimpArgs false
set_option maxRecDepth 100000
theorem told9h : marchlandlaw09_told.f = some true := by decide +kernel
def HandsM (L : List S128) (wd : Int) : MS := ⟨[wd], [[]], [], fun _ => none, 0, L⟩
theorem HandsM.set (L : List S128) (wd : Int) : (HandsM L wd).set_ 0 0 [] = HandsM (L ++ [⟨0, 3, 0, true⟩]) wd := rfl
theorem HandsM.get (L : List S128) (wd i : Int) (h : 0 ≤ i) : (HandsM L wd).getTo i 0 = HandsM (L ++ [⟨i, 2, 0, true⟩]) wd := by
  have f : (HandsM L wd).fits i 0 ((HandsM L wd).boxes.length : Int) = true := by simp [HandsM, MS.fits, h]
  unfold MS.getTo; rw [f]; rfl
theorem wfI {i : Int} (h0 : -9223372036854775808 ≤ i) (h1 : i ≤ 9223372036854775807) : (Lit.int .i64 i).wf = true := WalkArith.wf_i64 (by omega)
open Go Go.RowKit Go.Proofs.Ytlcnckbmolefpaa.CK Go.Proofs.YtlcnckbmolefpaaW.PrintWords
structure S85 where
  f0 : Int
  f1 : Int
  f2 : Bool
  f3 : Bool
def z85 : S85 := ⟨0, 0, false, false⟩
def k85 : Kd S85 := Kd.iso (Kd.pair (Kd.int .i64) (Kd.pair (Kd.int .i64) (Kd.pair Kd.bool Kd.bool))) (fun x : S85 => (x.f0, x.f1, x.f2, x.f3))
theorem k85_open {w : World} {x : S85} {cs : List Value} (h : k85.K w x cs) : cs = [.int .i64 x.f0, .int .i64 x.f1, .bool x.f2, .bool x.f3] := by
  obtain ⟨_, _, rfl, rfl, ⟨_, _, rfl, rfl, ⟨_, _, rfl, rfl, rfl⟩⟩⟩ := h
  exact rfl
def rd_T85 (xs : List S85) (i : Int) : S85 := xs.getD i.toNat z85
theorem at_T85 {w : World} {A : Option Addr} {n : Nat} {xs : List S85} (h : Kd.C k85 w A n xs) (i : Int) (h0 : 0 ≤ i) (h1 : i < n) : ∃ ad , A = some ad ∧ w.cell? (ad.add (i.toNat * 4)) = some (.int .i64 (rd_T85 xs i).f0) ∧ w.cell? ⟨(ad.add (i.toNat * 4)).block, (ad.add (i.toNat * 4)).off + 1, none⟩ = some (.int .i64 (rd_T85 xs i).f1) ∧ w.cell? ⟨(ad.add (i.toNat * 4)).block, (ad.add (i.toNat * 4)).off + 2, none⟩ = some (.bool (rd_T85 xs i).f2) ∧ w.cell? ⟨(ad.add (i.toNat * 4)).block, (ad.add (i.toNat * 4)).off + 3, none⟩ = some (.bool (rd_T85 xs i).f3) := by
  obtain ⟨ad, c, e, _, hK, hc0⟩ := Kd.C_get h z85 i h0 h1
  have hc : ∀ j u, c[j]? = some u → w.cell? (ad.add (i.toNat * 4 + j)) = some u := hc0
  obtain rfl := k85_open hK
  exact ⟨ad, e, hc 0 _ rfl, by rw [← add_field _ _ 1 (by omega)]; exact hc 1 _ rfl, by rw [← add_field _ _ 2 (by omega)]; exact hc 2 _ rfl, by rw [← add_field _ _ 3 (by omega)]; exact hc 3 _ rfl⟩
def latW (t : S85) : Int := Int.tmod (IntKind.u64.wrap t.f0) 4
def latB (t : S85) : Int := Int.tmod (IntKind.u64.wrap t.f1) 3
theorem u64_pos85 (p : Int) : 0 ≤ IntKind.u64.wrap p := by simp [IntKind.wrap, IntKind.bits, IntKind.signed]; omega
theorem latW_in (t : S85) : 0 ≤ latW t ∧ latW t < 4 := ⟨Int.tmod_nonneg _ (u64_pos85 _), Int.tmod_lt_of_pos _ (by omega)⟩
theorem latB_in (t : S85) : 0 ≤ latB t ∧ latB t < 3 := ⟨Int.tmod_nonneg _ (u64_pos85 _), Int.tmod_lt_of_pos _ (by omega)⟩
def latK (t : S85) : S128 := ⟨latW t, if t.f2 then 3 else 2, latB t, true⟩
def latI (t : S85) : List S128 := (if t.f3 then [] else [⟨latW t, 4, 0, true⟩]) ++ ([latK t] ++ (if t.f3 then [] else [⟨latW t, 5, 0, true⟩]))
def latL (l : List S85) : Nat → List S128
  | 0 => []
  | n + 1 => latL l n ++ latI (l.getD n z85)
def latBare (l : List S85) : Nat → Bool
  | 0 => false
  | n + 1 => latBare l n || (l.getD n z85).f3
theorem latBare_spec {l : List S85} : ∀ {n : Nat}, latBare l n = false → ∀ t, t < n → (l.getD t z85).f3 = false
  | n + 1, h, t, ht => by
    unfold latBare at h
    rw [Bool.or_eq_false_iff] at h
    by_cases e : t < n
    · exact latBare_spec h.1 t e
    · obtain rfl : t = n := by omega
      exact h.2
theorem latL_len {l : List S85} : ∀ n, (latL l n).length ≤ 3 * n
  | 0 => Nat.le_refl _
  | n + 1 => by
    have := latL_len (l := l) n
    have : (latI (l.getD n z85)).length ≤ 3 := by unfold latI; split <;> simp
    rw [latL, List.length_append]
    omega
theorem latI_ok {t : S85} {e : S128} (h : e ∈ latI t) : 0 ≤ e.f0 ∧ e.f0 < 4 ∧ 0 ≤ e.f2 ∧ e.f2 < 3 := by
  have hw := latW_in t
  have hb := latB_in t
  unfold latI at h
  simp only [List.mem_append, List.mem_singleton] at h
  rcases h with h | h | h
  · split at h
    · cases h
    · rw [List.mem_singleton] at h; subst h; exact ⟨hw.1, hw.2, by show (0 : Int) ≤ 0; omega, by show (0 : Int) < 3; omega⟩
  · subst h; exact ⟨hw.1, hw.2, hb.1, hb.2⟩
  · split at h
    · cases h
    · rw [List.mem_singleton] at h; subst h; exact ⟨hw.1, hw.2, by show (0 : Int) ≤ 0; omega, by show (0 : Int) < 3; omega⟩
theorem latL_ok {l : List S85} : ∀ {n : Nat} {e : S128}, e ∈ latL l n → 0 ≤ e.f0 ∧ e.f0 < 4 ∧ 0 ≤ e.f2 ∧ e.f2 < 3
  | n + 1, e, h => by
    rw [latL] at h
    rcases List.mem_append.1 h with h | h
    · exact latL_ok h
    · exact latI_ok h
theorem latL_evs {l : List S85} {n : Nat} (hn : n ≤ 40) : evsB (latL l n) = true := by
  have hl := latL_len (l := l) n
  unfold evsB
  rw [Bool.and_eq_true, decide_eq_true_iff, List.all_eq_true]
  refine ⟨by omega, fun e he => ?_⟩
  have := latL_ok he
  unfold EvB
  simp only [Bool.and_eq_true, decide_eq_true_eq]
  omega
theorem latL_all {l : List S85} : ∀ {n : Nat}, (∀ t, t < n → (l.getD t z85).f3 = false) → (latL l n).length = 3 * n ∧ ∀ t, t < n → (latL l n)[3 * t]? = some ⟨latW (l.getD t z85), 4, 0, true⟩ ∧ (latL l n)[3 * t + 1]? = some (latK (l.getD t z85)) ∧ (latL l n)[3 * t + 2]? = some ⟨latW (l.getD t z85), 5, 0, true⟩
  | 0, _ => ⟨rfl, fun t h => by omega⟩
  | n + 1, h => by
    obtain ⟨h1, h2⟩ := latL_all (l := l) (n := n) (fun t ht => h t (by omega))
    have hI : latI (l.getD n z85) = [⟨latW (l.getD n z85), 4, 0, true⟩, latK (l.getD n z85), ⟨latW (l.getD n z85), 5, 0, true⟩] := by unfold latI; rw [h n (by omega)]; rfl
    rw [latL, hI]
    refine ⟨by simp [h1]; omega, fun t ht => ?_⟩
    by_cases e : t < n
    · rw [List.getElem?_append_left (by omega), List.getElem?_append_left (by omega), List.getElem?_append_left (by omega)]
      exact h2 t e
    · obtain rfl : t = n := by omega
      rw [List.getElem?_append_right (by omega), List.getElem?_append_right (by omega), List.getElem?_append_right (by omega), h1]
      exact ⟨by rw [Nat.sub_self]; rfl, by rw [show 3 * t + 1 - 3 * t = 1 by omega]; rfl, by rw [show 3 * t + 2 - 3 * t = 2 by omega]; rfl⟩
theorem lat_free {l : List S85} {n : Nat} (h : latBare l n = false) : raceFrom (gl (latL l n)) 0 (latL l n).length = (-1, -1) := by
  obtain ⟨h1, h2⟩ := latL_all (latBare_spec h)
  have ga : ∀ t, t < n → gl (latL l n) (3 * t) = ⟨latW (l.getD t z85), 4, 0, true⟩ := fun t ht => gl_get (h2 t ht).1
  have gb : ∀ t, t < n → gl (latL l n) (3 * t + 1) = ev (latK (l.getD t z85)) := fun t ht => gl_get (h2 t ht).2.1
  have gc : ∀ t, t < n → gl (latL l n) (3 * t + 2) = ⟨latW (l.getD t z85), 5, 0, true⟩ := fun t ht => gl_get (h2 t ht).2.2
  generalize hg : gl (latL l n) = g at ga gb gc ⊢
  rw [h1]
  have kinds : ∀ i, i < 3 * n → (∃ t, t < n ∧ i = 3 * t) ∨ (∃ t, t < n ∧ i = 3 * t + 1) ∨ ∃ t, t < n ∧ i = 3 * t + 2 := by
    intro i hi
    have : i % 3 = 0 ∨ i % 3 = 1 ∨ i % 3 = 2 := by omega
    rcases this with e | e | e
    · exact .inl ⟨i / 3, by omega, by omega⟩
    · exact .inr (.inl ⟨i / 3, by omega, by omega⟩)
    · exact .inr (.inr ⟨i / 3, by omega, by omega⟩)
  have np : ∀ {w a : Int} {e : Ev}, clashE e ⟨w, 4, a, true⟩ = false ∧ clashE ⟨w, 4, a, true⟩ e = false ∧ clashE e ⟨w, 5, a, true⟩ = false ∧ clashE ⟨w, 5, a, true⟩ e = false := by
    intro w a e
    refine ⟨?_, ?_, ?_, ?_⟩ <;> simp [clashE, plainE]
  have vk : ∀ t, valid (ev (latK (l.getD t z85))) := fun t => by
    unfold valid ev latK
    show 0 ≤ (if _ then (3 : Int) else 2) ∧ (if _ then (3 : Int) else 2) ≤ 7
    split <;> omega
  have v4 : ∀ {w : Int}, valid ⟨w, 4, 0, true⟩ := fun {w} => ⟨by show (0 : Int) ≤ 4; omega, by show (4 : Int) ≤ 7; omega⟩
  have v5 : ∀ {w : Int}, valid ⟨w, 5, 0, true⟩ := fun {w} => ⟨by show (0 : Int) ≤ 5; omega, by show (5 : Int) ≤ 7; omega⟩
  refine race_free _ 0 (fun j _ hj => raceAt_none (fun i hij hc => ?_))
  rcases kinds j (by omega) with ⟨t, ht, cj⟩ | ⟨t, ht, cj⟩ | ⟨t, ht, cj⟩
  · subst cj
    rw [ga t ht, np.1] at hc
    cases hc
  · rcases kinds i (by omega) with ⟨s, hs, ci⟩ | ⟨s, hs, ci⟩ | ⟨s, hs, ci⟩
    · subst ci
      rw [ga s hs, np.2.1] at hc
      cases hc
    · have p1 : stp g i (3 * s + 2) := by
        subst ci
        exact ⟨by omega, by rw [gb s hs]; exact vk s, by rw [gc s hs]; exact v5, .inl (by rw [gb s hs, gc s hs]; rfl)⟩
      have p2 : stp g (3 * s + 2) (3 * t) := ⟨by omega, by rw [gc s hs]; exact v5, by rw [ga t ht]; exact v4, .inr ⟨by rw [gc s hs, ga t ht], .inr ⟨by rw [gc s hs]; exact ⟨.inl rfl, rfl⟩, by rw [ga t ht], by rw [ga t ht]⟩⟩⟩
      have p3 : stp g (3 * t) j := by
        subst cj
        exact ⟨by omega, by rw [ga t ht]; exact v4, by rw [gb t ht]; exact vk t, .inl (by rw [ga t ht, gb t ht]; rfl)⟩
      exact .more (.more (.one p1) p2) p3
    · subst ci
      rw [gc s hs, np.2.2.2] at hc
      cases hc
  · subst cj
    rw [gc t ht, np.2.2.1] at hc
    cases hc
theorem lat_race {l : List S85} {n : Nat} (hn : n ≤ 40) : ∃ r1 r2 : Int, clock_Race.f (latL l n) = some (r1, r2) ∧ (latBare l n = false → r1 = -1 ∧ r2 = -1) := by
  refine ⟨_, _, by unfold clock_Race.f; rw [if_pos (latL_evs hn)], fun h => ?_⟩
  rw [lat_free h]
  exact ⟨rfl, rfl⟩
set_option maxRecDepth 100000
def LatM (v : Int) (L : List S128) : MS := ⟨[0], [[], [], []], [v], fun _ => none, 0, L⟩
theorem LatM.take (L : List S128) (a : Int) (h : 0 ≤ a) : (LatM (-1) L).passB a 0 (-1) = true ∧ (LatM (-1) L).pass a 4 0 (-1) a = LatM a (L ++ [⟨a, 4, 0, true⟩]) := by
  have f : (LatM (-1) L).fits a 0 ((LatM (-1) L).latches.length : Int) = true := by simp [LatM, MS.fits, h]
  exact ⟨by unfold MS.passB; rw [f]; rfl, by unfold MS.pass; rw [f]; rfl⟩
theorem LatM.free (L : List S128) (a : Int) (h : 0 ≤ a) : (LatM a L).passB a 0 a = true ∧ (LatM a L).pass a 5 0 a (-1) = LatM (-1) (L ++ [⟨a, 5, 0, true⟩]) := by
  have f : (LatM a L).fits a 0 ((LatM a L).latches.length : Int) = true := by simp [LatM, MS.fits, h]
  have r : rd (LatM a L).latches 0 = a := rfl
  exact ⟨by unfold MS.passB; rw [f, r]; simp, by unfold MS.pass; rw [f, if_pos rfl, if_pos r]; rfl⟩
theorem LatM.set (L : List S128) (v a b : Int) (h : 0 ≤ a) (b0 : 0 ≤ b) (b3 : b < 3) : (LatM v L).set_ a b [] = LatM v (L ++ [⟨a, 3, b, true⟩]) := by
  have f : (LatM v L).fits a b ((LatM v L).boxes.length : Int) = true := by simp [LatM, MS.fits, h, b0]; omega
  unfold MS.set_; rw [f]
  obtain rfl | rfl | rfl : b = 0 ∨ b = 1 ∨ b = 2 := by omega
  all_goals rfl
theorem LatM.get (L : List S128) (v a b : Int) (h : 0 ≤ a) (b0 : 0 ≤ b) (b3 : b < 3) : (LatM v L).getTo a b = LatM v (L ++ [⟨a, 2, b, true⟩]) := by
  have f : (LatM v L).fits a b ((LatM v L).boxes.length : Int) = true := by simp [LatM, MS.fits, h, b0]; omega
  unfold MS.getTo; rw [f]; rfl
theorem LatM.box (v : Int) (L : List S128) : ∀ b ∈ (LatM v L).boxes, b.length ≤ 1000000 := fun b hb => by
  have : b ∈ ([[], [], []] : List (List S143)) := hb
  simp at this
  rw [this]; simp
theorem LatM.takes {w : World} {B : Nat} {own : Nat → Prop} {g : Nat} (L : List S128) (a : Int) (ha : 0 ≤ a) (hw : (Lit.int .i64 a).wf = true) (h : MemC w B own g (LatM (-1) L)) (hl : (LatM (-1) L).log.length ≤ 1000000) : Calls Try.prog 49 #[.pointer (some ⟨g, 0, none⟩), .int .i64 a, .int .i64 0] w fun e w' => e = .returned (.bool true) ∧ MemNext w w' B own g (LatM a (L ++ [⟨a, 4, 0, true⟩])) := by
  have T := LatM.take L a ha
  have C := Take_C a 0 hw h hl
  rw [T.1, T.2] at C
  exact C
theorem LatM.frees {w : World} {B : Nat} {own : Nat → Prop} {g : Nat} (L : List S128) (a : Int) (ha : 0 ≤ a) (hw : (Lit.int .i64 a).wf = true) (h : MemC w B own g (LatM a L)) (hl : (LatM a L).log.length ≤ 1000000) : Calls Try.prog 50 #[.pointer (some ⟨g, 0, none⟩), .int .i64 a, .int .i64 0] w fun e w' => e = .returned (.bool true) ∧ MemNext w w' B own g (LatM (-1) (L ++ [⟨a, 5, 0, true⟩])) := by
  have T := LatM.free L a ha
  have C := Free_C a 0 hw h hl
  rw [T.1, T.2] at C
  exact C
def RS (W w : World) (own : Nat → Prop) (g n : Nat) (t : S85) (M : MS) : Prop := MemC w W.heap.size own g M ∧ Below W.heap.size W w ∧ ¬ own n ∧ n < w.heap.size ∧ w.heap[n]? = some (.cells #[.int .i64 t.f0, .int .i64 t.f1, .bool t.f2, .bool t.f3] 85 (0, 0))
theorem RS.mem {W w : World} {own : Nat → Prop} {g n : Nat} {t : S85} {M : MS} (h : RS W w own g n t M) : MemC w W.heap.size own g M := h.1
theorem RS.bel {W w : World} {own : Nat → Prop} {g n : Nat} {t : S85} {M : MS} (h : RS W w own g n t M) : Below W.heap.size W w := h.2.1
theorem RS.next {W w w' : World} {own : Nat → Prop} {g n : Nat} {t : S85} {M M' : MS} (h : RS W w own g n t M) (hn : MemNext w w' W.heap.size own g M') : ∃ own', RS W w' own' g n t M' := by
  obtain ⟨⟨own', hc, hs⟩, hk, hb⟩ := hn
  obtain ⟨h1, h2, h3, h4, h5⟩ := h
  exact ⟨own', hc, h2.trans hb, fun ho => (hs n ho).elim h3 (fun hl => by omega), Nat.lt_of_lt_of_le h4 hk.1, (hk.2 n h4 h3).trans h5⟩
theorem RS.cells {W w : World} {own : Nat → Prop} {g n : Nat} {t : S85} {M : MS} (h : RS W w own g n t M) : w.cell? ⟨n, 0, none⟩ = some (.int .i64 t.f0) ∧ w.cell? ⟨n, 1, none⟩ = some (.int .i64 t.f1) ∧ w.cell? ⟨n, 2, none⟩ = some (.bool t.f2) ∧ w.cell? ⟨n, 3, none⟩ = some (.bool t.f3) := by
  refine ⟨?_, ?_, ?_, ?_⟩ <;> (rw [blk_cell h.2.2.2.2]; rfl)
theorem RS.start {W w : World} {own : Nat → Prop} {g : Nat} {t : S85} {M : MS} (h : MemC w W.heap.size own g M) (hb : Below W.heap.size W w) : RS W (w.alloc (.cells #[.int .i64 t.f0, .int .i64 t.f1, .bool t.f2, .bool t.f3] 85)) own g w.heap.size t M :=
  have hb2 : Below w.heap.size w (w.alloc (.cells #[.int .i64 t.f0, .int .i64 t.f1, .bool t.f2, .bool t.f3] 85)) := below_alloc (Below.refl _ _) _
  ⟨h.below hb2, below_step hb hb2, fun ho => absurd (h.2 _ ho) (Nat.lt_irrefl _), by simp, blk_new _ _⟩
theorem RS.drew {W w : World} {own : Nat → Prop} {g n : Nat} {t : S85} {M : MS} (h : RS W w own g n t M) : RS W w.drew own g n t M :=
  ⟨h.1.below (below_drew (Below.refl _ _)), below_step h.2.1 (below_drew (Below.refl _ _)), h.2.2.1, h.2.2.2.1, h.2.2.2.2⟩
set_option maxHeartbeats 4000000 in
theorem Latches_calls (A : Option Addr) (c : Nat) (l : List S85) (W : World) (hC : Kd.C k85 W A l.length l) (hc : l.length ≤ c) : Calls Try.prog 10 #[.slice A l.length c] W fun e w' => e = .returned (.bool true) ∧ Below W.heap.size W w' := by
  have HC := Aside0.mk hC
  have HT := Aside0.mk (fun W => marchlandlaw09_told.calls true W told9h)
  have hmx := hC.2.1
  clear hC
  go_enter Try.func10, Try.ntmps10
  go_wp2_with (first | (go_at_call 30; ((refine (New_C 1 3 1 (by decide) (by decide) (by decide) _).mono ?_); rintro e w1 ⟨g, own0, rfl, hm, -, hb⟩; have HM := Aside0.mk (show MemC w1 W.heap.size own0 g (LatM (-1) []) from hm); have HB := Aside0.mk hb; clear hm hb)) | (go_at_call 26; (with_reducible refine (HT.out _).mono ?_); rintro e w2 ⟨rfl, hb2⟩; have HB1 := Aside0.mk (below_step HB.out hb2); have HM1 := Aside0.mk (HM.out.below hb2); clear hb2 HB HM; have HB := HB1; have HM := HM1; clear HB1 HM1))
  go_loopw [5, 6] (fun v5 v6 wr => ∃ i : Nat, v6 = .int .i64 (i : Int) ∧ v5 = .bool (latBare l i) ∧ Aside0 (i ≤ l.length ∧ i ≤ 40 ∧ (∃ own, MemC wr W.heap.size own g (LatM (-1) (latL l i))) ∧ Below W.heap.size W wr)) (fun _ v6 _ => (40 - intOf v6).toNat)
  case atStart => exact ⟨0, rfl, rfl, ⟨by omega, by omega, ⟨_, HM.out⟩, HB.out⟩⟩
  case round =>
    clear HM HB
    obtain ⟨i, rfl, rfl, HI⟩ := hrel
    obtain ⟨hi1, hi2, ⟨own, hm⟩, hb⟩ := HI.out
    have HM := Aside0.mk hm
    have HB := Aside0.mk hb
    have HAL := Aside0.mk (latL_len (l := l) i)
    have HL := Aside0.mk (show (LatM (-1) (latL l i)).log.length ≤ 1000000 from by show (latL l i).length ≤ _; have := HAL.out; omega)
    clear hm hb HI
    by_cases hil : i < l.length ∧ i < 40
    · obtain ⟨h1, h2⟩ := hil
      have d1 := decide_eq_true (show (i : Int) < (l.length : Int) by omega)
      have d2 := decide_eq_true (show (i : Int) < (40 : Int) by omega)
      have q0 : (0 : Int) ≤ (i : Int) := by omega
      obtain ⟨ad, rfl, hx0, hx1, hx2, hx3⟩ := at_T85 (Kd.C_below HC.out HB.out) (i : Int) q0 (by omega)
      rw [Int.toNat_natCast] at hx0 hx1 hx2 hx3
      have et : rd_T85 l (i : Int) = l.getD i z85 := by unfold rd_T85; rw [Int.toNat_natCast]
      rw [et] at hx0 hx1 hx2 hx3
      have hw : IntKind.i64.wrap ((i : Int) + 1) = (i : Int) + 1 := by rw [IntKind.wrap_i64]; omega
      have HN := Aside0.mk (show latL l (i + 1) = latL l i ++ latI (l.getD i z85) from rfl)
      have HBN := Aside0.mk (show latBare l (i + 1) = (latBare l i || (l.getD i z85).f3) from rfl)
      generalize l.getD i z85 = t at hx0 hx1 hx2 hx3 HN HBN
      obtain ⟨a, ha⟩ : ∃ a, Int.tmod (IntKind.u64.wrap t.f0) 4 = a := ⟨_, rfl⟩
      obtain ⟨b, hb⟩ : ∃ b, Int.tmod (IntKind.u64.wrap t.f1) 3 = b := ⟨_, rfl⟩
      have a0 : 0 ≤ a ∧ a < 4 := by rw [← ha]; exact latW_in t
      have b0 : 0 ≤ b ∧ b < 3 := by rw [← hb]; exact latB_in t
      have ea : IntKind.i64.wrap a = a := by rw [IntKind.wrap_i64]; omega
      have eb : IntKind.i64.wrap b = b := by rw [IntKind.wrap_i64]; omega
      have WA := Aside0.mk (show (Lit.int .i64 a).wf = true from wfI (by omega) (by omega))
      have EI := Aside0.mk (show latI t = (if t.f3 then [] else [⟨a, 4, 0, true⟩]) ++ ([⟨a, if t.f2 then 3 else 2, b, true⟩] ++ (if t.f3 then [] else [⟨a, 5, 0, true⟩])) by unfold latI latK; rw [show latW t = a from ha, show latB t = b from hb])
      have A0 := Aside0.mk a0
      have B0 := Aside0.mk b0
      clear et a0 b0
      obtain ⟨f0, f1, f2, f3⟩ := t
      have HR0 := Aside0.mk (RS.start (t := ⟨f0, f1, f2, f3⟩) HM.out HB.out)
      cases f3
      · cases f2
        · have T2 := Aside0.mk (LatM.get (latL l i ++ [(⟨a, 4, 0, true⟩ : S128)]) a a b A0.out.1 B0.out.1 B0.out.2)
          have HL2 := Aside0.mk (show (LatM a (latL l i ++ [(⟨a, 4, 0, true⟩ : S128)])).log.length ≤ 1000000 from by show ((latL l i ++ [(⟨a, 4, 0, true⟩ : S128)])).length ≤ _; have := HAL.out; simp; omega)
          have HL3 := Aside0.mk (show (LatM a ((latL l i ++ [(⟨a, 4, 0, true⟩ : S128)]) ++ [(⟨a, 2, b, true⟩ : S128)])).log.length ≤ 1000000 from by show (((latL l i ++ [(⟨a, 4, 0, true⟩ : S128)]) ++ [(⟨a, 2, b, true⟩ : S128)])).length ≤ _; have := HAL.out; simp; omega)
          have HE := Aside0.mk (show latL l (i + 1) = (((latL l i ++ [(⟨a, 4, 0, true⟩ : S128)]) ++ [(⟨a, 2, b, true⟩ : S128)]) ++ [(⟨a, 5, 0, true⟩ : S128)]) by rw [HN.out, EI.out]; simp)
          clear EI HN HM HB
          cases hbi : latBare l i
          all_goals
            have HBN2 := Aside0.mk (show latBare l (i + 1) = latBare l i by rw [HBN.out, hbi]; rfl)
            rw [hbi] at HBN2
            go_upto_region 9 with fail
            obtain ⟨hy0, hy1, hy2, hy3⟩ := HR0.out.cells
            have HRS := Aside0.mk HR0.out.drew
            have hyd := HRS.out.cells
            generalize hW2 : wr.alloc _ = W2 at hy0 hy1 hy2 hy3 HRS hyd ⊢
            go_region_held3 (fun w' => w'.cell? ⟨wr.heap.size, 0, none⟩ = some (.int .i64 f0) ∧ w'.cell? ⟨wr.heap.size, 1, none⟩ = some (.int .i64 f1)) (first | exact ⟨hy0, hy1⟩) (fail)
            all_goals
              clear hy0 hy1 hy2 hy3
              obtain ⟨hy0, hy1, hy2, hy3⟩ := hyd
              clear hW2
              go_wp2_with (first | (go_at_call 49; ((with_reducible refine (LatM.takes _ a A0.out.1 WA.out HRS.out.mem HL.out).mono ?_); rintro e w2 ⟨rfl, hn⟩; obtain ⟨own1, hrs⟩ := HRS.out.next hn; obtain ⟨hv0, hv1, hv2, hv3⟩ := hrs.cells; have HRS1 := Aside0.mk hrs; clear hn hrs HRS hy0 hy1 hy2 hy3; have HRS := HRS1; have hy0 := hv0; have hy1 := hv1; have hy2 := hv2; have hy3 := hv3; clear HRS1 hv0 hv1 hv2 hv3)) | (go_at_call 39; ((with_reducible refine (Get_C a b WA.out HRS.out.mem HL2.out (LatM.box _ _)).mono ?_); rintro e w2 ⟨v2, own2, rfl, hq2, ⟨hc1, hs1⟩, hk1, hb1⟩; obtain ⟨A2, n2, c2, rfl⟩ := R_any hq2; have hn := (show MemNext _ w2 W.heap.size _ g _ from ⟨⟨own2, hc1, hs1⟩, hk1, hb1⟩); clear hq2 hc1 hs1 hk1 hb1; rw [T2.out] at hn; obtain ⟨own1, hrs⟩ := HRS.out.next hn; obtain ⟨hv0, hv1, hv2, hv3⟩ := hrs.cells; have HRS1 := Aside0.mk hrs; clear hn hrs HRS hy0 hy1 hy2 hy3; have HRS := HRS1; have hy0 := hv0; have hy1 := hv1; have hy2 := hv2; have hy3 := hv3; clear HRS1 hv0 hv1 hv2 hv3)) | (go_at_call 50; ((with_reducible refine (LatM.frees _ a A0.out.1 WA.out HRS.out.mem HL3.out).mono ?_); rintro e w2 ⟨rfl, hn⟩; obtain ⟨own1, hrs⟩ := HRS.out.next hn; obtain ⟨hv0, hv1, hv2, hv3⟩ := hrs.cells; have HRS1 := Aside0.mk hrs; clear hn hrs HRS hy0 hy1 hy2 hy3; have HRS := HRS1; have hy0 := hv0; have hy1 := hv1; have hy2 := hv2; have hy3 := hv3; clear HRS1 hv0 hv1 hv2 hv3)))
              go_roundw
              case rel => exact ⟨i + 1, by first | rfl | exact congrArg _ hw, congrArg Value.bool HBN2.out.symm, ⟨by omega, by omega, ⟨_, by rw [HE.out]; exact HRS.out.mem⟩, HRS.out.bel⟩⟩
              case measure => simp [intOf]; omega
        · have T2 := Aside0.mk (LatM.set (latL l i ++ [(⟨a, 4, 0, true⟩ : S128)]) a a b A0.out.1 B0.out.1 B0.out.2)
          have HL2 := Aside0.mk (show (LatM a (latL l i ++ [(⟨a, 4, 0, true⟩ : S128)])).log.length ≤ 1000000 from by show ((latL l i ++ [(⟨a, 4, 0, true⟩ : S128)])).length ≤ _; have := HAL.out; simp; omega)
          have HL3 := Aside0.mk (show (LatM a ((latL l i ++ [(⟨a, 4, 0, true⟩ : S128)]) ++ [(⟨a, 3, b, true⟩ : S128)])).log.length ≤ 1000000 from by show (((latL l i ++ [(⟨a, 4, 0, true⟩ : S128)]) ++ [(⟨a, 3, b, true⟩ : S128)])).length ≤ _; have := HAL.out; simp; omega)
          have HE := Aside0.mk (show latL l (i + 1) = (((latL l i ++ [(⟨a, 4, 0, true⟩ : S128)]) ++ [(⟨a, 3, b, true⟩ : S128)]) ++ [(⟨a, 5, 0, true⟩ : S128)]) by rw [HN.out, EI.out]; simp)
          clear EI HN HM HB
          cases hbi : latBare l i
          all_goals
            have HBN2 := Aside0.mk (show latBare l (i + 1) = latBare l i by rw [HBN.out, hbi]; rfl)
            rw [hbi] at HBN2
            go_upto_region 9 with fail
            obtain ⟨hy0, hy1, hy2, hy3⟩ := HR0.out.cells
            have HRS := Aside0.mk HR0.out.drew
            have hyd := HRS.out.cells
            generalize hW2 : wr.alloc _ = W2 at hy0 hy1 hy2 hy3 HRS hyd ⊢
            go_region_held3 (fun w' => w'.cell? ⟨wr.heap.size, 0, none⟩ = some (.int .i64 f0) ∧ w'.cell? ⟨wr.heap.size, 1, none⟩ = some (.int .i64 f1)) (first | exact ⟨hy0, hy1⟩) (fail)
            all_goals
              clear hy0 hy1 hy2 hy3
              obtain ⟨hy0, hy1, hy2, hy3⟩ := hyd
              clear hW2
              go_wp2_with (first | (go_at_call 49; ((with_reducible refine (LatM.takes _ a A0.out.1 WA.out HRS.out.mem HL.out).mono ?_); rintro e w2 ⟨rfl, hn⟩; obtain ⟨own1, hrs⟩ := HRS.out.next hn; obtain ⟨hv0, hv1, hv2, hv3⟩ := hrs.cells; have HRS1 := Aside0.mk hrs; clear hn hrs HRS hy0 hy1 hy2 hy3; have HRS := HRS1; have hy0 := hv0; have hy1 := hv1; have hy2 := hv2; have hy3 := hv3; clear HRS1 hv0 hv1 hv2 hv3)) | (go_at_call 34; ((refine (Set_C a b WA.out none 0 [] HRS.out.mem HL2.out (Kd.F_nil _ _ _) (Nat.le_refl _) (by simp)).mono ?_); rintro e w2 ⟨rfl, hn⟩; rw [T2.out] at hn; obtain ⟨own1, hrs⟩ := HRS.out.next hn; obtain ⟨hv0, hv1, hv2, hv3⟩ := hrs.cells; have HRS1 := Aside0.mk hrs; clear hn hrs HRS hy0 hy1 hy2 hy3; have HRS := HRS1; have hy0 := hv0; have hy1 := hv1; have hy2 := hv2; have hy3 := hv3; clear HRS1 hv0 hv1 hv2 hv3)) | (go_at_call 50; ((with_reducible refine (LatM.frees _ a A0.out.1 WA.out HRS.out.mem HL3.out).mono ?_); rintro e w2 ⟨rfl, hn⟩; obtain ⟨own1, hrs⟩ := HRS.out.next hn; obtain ⟨hv0, hv1, hv2, hv3⟩ := hrs.cells; have HRS1 := Aside0.mk hrs; clear hn hrs HRS hy0 hy1 hy2 hy3; have HRS := HRS1; have hy0 := hv0; have hy1 := hv1; have hy2 := hv2; have hy3 := hv3; clear HRS1 hv0 hv1 hv2 hv3)))
              go_roundw
              case rel => exact ⟨i + 1, by first | rfl | exact congrArg _ hw, congrArg Value.bool HBN2.out.symm, ⟨by omega, by omega, ⟨_, by rw [HE.out]; exact HRS.out.mem⟩, HRS.out.bel⟩⟩
              case measure => simp [intOf]; omega
      · cases f2
        · have T2 := Aside0.mk (LatM.get (latL l i) (-1) a b A0.out.1 B0.out.1 B0.out.2)
          have HE := Aside0.mk (show latL l (i + 1) = (latL l i ++ [(⟨a, 2, b, true⟩ : S128)]) by rw [HN.out, EI.out]; simp)
          clear EI HN HM HB
          cases hbi : latBare l i
          all_goals
            have HBN2 := Aside0.mk (show latBare l (i + 1) = true by rw [HBN.out, hbi]; rfl)
            go_upto_region 9 with fail
            obtain ⟨hy0, hy1, hy2, hy3⟩ := HR0.out.cells
            have HRS := Aside0.mk HR0.out.drew
            have hyd := HRS.out.cells
            generalize hW2 : wr.alloc _ = W2 at hy0 hy1 hy2 hy3 HRS hyd ⊢
            go_region_held3 (fun w' => w'.cell? ⟨wr.heap.size, 0, none⟩ = some (.int .i64 f0) ∧ w'.cell? ⟨wr.heap.size, 1, none⟩ = some (.int .i64 f1)) (first | exact ⟨hy0, hy1⟩) (fail)
            all_goals
              clear hy0 hy1 hy2 hy3
              obtain ⟨hy0, hy1, hy2, hy3⟩ := hyd
              clear hW2
              go_wp2_with (first | (go_at_call 39; ((with_reducible refine (Get_C a b WA.out HRS.out.mem HL.out (LatM.box _ _)).mono ?_); rintro e w2 ⟨v2, own2, rfl, hq2, ⟨hc1, hs1⟩, hk1, hb1⟩; obtain ⟨A2, n2, c2, rfl⟩ := R_any hq2; have hn := (show MemNext _ w2 W.heap.size _ g _ from ⟨⟨own2, hc1, hs1⟩, hk1, hb1⟩); clear hq2 hc1 hs1 hk1 hb1; rw [T2.out] at hn; obtain ⟨own1, hrs⟩ := HRS.out.next hn; obtain ⟨hv0, hv1, hv2, hv3⟩ := hrs.cells; have HRS1 := Aside0.mk hrs; clear hn hrs HRS hy0 hy1 hy2 hy3; have HRS := HRS1; have hy0 := hv0; have hy1 := hv1; have hy2 := hv2; have hy3 := hv3; clear HRS1 hv0 hv1 hv2 hv3)))
              go_roundw
              case rel => exact ⟨i + 1, by first | rfl | exact congrArg _ hw, congrArg Value.bool HBN2.out.symm, ⟨by omega, by omega, ⟨_, by rw [HE.out]; exact HRS.out.mem⟩, HRS.out.bel⟩⟩
              case measure => simp [intOf]; omega
        · have T2 := Aside0.mk (LatM.set (latL l i) (-1) a b A0.out.1 B0.out.1 B0.out.2)
          have HE := Aside0.mk (show latL l (i + 1) = (latL l i ++ [(⟨a, 3, b, true⟩ : S128)]) by rw [HN.out, EI.out]; simp)
          clear EI HN HM HB
          cases hbi : latBare l i
          all_goals
            have HBN2 := Aside0.mk (show latBare l (i + 1) = true by rw [HBN.out, hbi]; rfl)
            go_upto_region 9 with fail
            obtain ⟨hy0, hy1, hy2, hy3⟩ := HR0.out.cells
            have HRS := Aside0.mk HR0.out.drew
            have hyd := HRS.out.cells
            generalize hW2 : wr.alloc _ = W2 at hy0 hy1 hy2 hy3 HRS hyd ⊢
            go_region_held3 (fun w' => w'.cell? ⟨wr.heap.size, 0, none⟩ = some (.int .i64 f0) ∧ w'.cell? ⟨wr.heap.size, 1, none⟩ = some (.int .i64 f1)) (first | exact ⟨hy0, hy1⟩) (fail)
            all_goals
              clear hy0 hy1 hy2 hy3
              obtain ⟨hy0, hy1, hy2, hy3⟩ := hyd
              clear hW2
              go_wp2_with (first | (go_at_call 34; ((refine (Set_C a b WA.out none 0 [] HRS.out.mem HL.out (Kd.F_nil _ _ _) (Nat.le_refl _) (by simp)).mono ?_); rintro e w2 ⟨rfl, hn⟩; rw [T2.out] at hn; obtain ⟨own1, hrs⟩ := HRS.out.next hn; obtain ⟨hv0, hv1, hv2, hv3⟩ := hrs.cells; have HRS1 := Aside0.mk hrs; clear hn hrs HRS hy0 hy1 hy2 hy3; have HRS := HRS1; have hy0 := hv0; have hy1 := hv1; have hy2 := hv2; have hy3 := hv3; clear HRS1 hv0 hv1 hv2 hv3)))
              go_roundw
              case rel => exact ⟨i + 1, by first | rfl | exact congrArg _ hw, congrArg Value.bool HBN2.out.symm, ⟨by omega, by omega, ⟨_, by rw [HE.out]; exact HRS.out.mem⟩, HRS.out.bel⟩⟩
              case measure => simp [intOf]; omega
    · obtain ⟨r1, r2, hR, hr⟩ := lat_race (l := l) hi2
      have HR := Aside0.mk hR
      have hc2 : (i < l.length ∧ ¬ i < 40) ∨ ¬ i < l.length := by omega
      clear hR hil HC
      cases hbare : latBare l i
      · obtain ⟨rfl, rfl⟩ := hr hbare
        clear hr
        rcases hc2 with ⟨h1, h2⟩ | h1
        · have d1 := decide_eq_true (show (i : Int) < (l.length : Int) by omega)
          have d2 := decide_eq_false (show ¬ (i : Int) < (40 : Int) by omega)
          go_wp2_with (first | (go_at_call 48; ((with_reducible refine (Log_C HM.out HL.out).mono ?_); rintro e w2 ⟨v2, rfl, hq2, hb2⟩; obtain ⟨A2, n2, c2, rfl⟩ := R_any hq2; obtain ⟨e1_, e2_, e3_⟩ := Kd.R_reads' hq2; obtain rfl : n2 = (latL l i).length := e1_; have HRC := Aside0.mk (clock_Race.calls A2 c2 (latL l i) _ _ w2 e3_ e2_ HR.out); have HB1 := Aside0.mk (below_step HB.out hb2); clear hq2 hb2 HB e2_ e3_; have HB := HB1; clear HB1)) | (go_at_call 28; ((with_reducible refine HRC.out.mono ?_); rintro e w3 ⟨rfl, hb3⟩; have HB1 := Aside0.mk (below_step HB.out hb3); clear hb3 HB; have HB := HB1; clear HB1)))
          go_ret
          exact ⟨by first | rfl | (simp; done) | (simp [*]; done), HB.out⟩
        · have d1 := decide_eq_false (show ¬ (i : Int) < (l.length : Int) by omega)
          go_wp2_with (first | (go_at_call 48; ((with_reducible refine (Log_C HM.out HL.out).mono ?_); rintro e w2 ⟨v2, rfl, hq2, hb2⟩; obtain ⟨A2, n2, c2, rfl⟩ := R_any hq2; obtain ⟨e1_, e2_, e3_⟩ := Kd.R_reads' hq2; obtain rfl : n2 = (latL l i).length := e1_; have HRC := Aside0.mk (clock_Race.calls A2 c2 (latL l i) _ _ w2 e3_ e2_ HR.out); have HB1 := Aside0.mk (below_step HB.out hb2); clear hq2 hb2 HB e2_ e3_; have HB := HB1; clear HB1)) | (go_at_call 28; ((with_reducible refine HRC.out.mono ?_); rintro e w3 ⟨rfl, hb3⟩; have HB1 := Aside0.mk (below_step HB.out hb3); clear hb3 HB; have HB := HB1; clear HB1)))
          go_ret
          exact ⟨by first | rfl | (simp; done) | (simp [*]; done), HB.out⟩
      · clear hr
        rcases hc2 with ⟨h1, h2⟩ | h1
        · have d1 := decide_eq_true (show (i : Int) < (l.length : Int) by omega)
          have d2 := decide_eq_false (show ¬ (i : Int) < (40 : Int) by omega)
          go_wp2_with (first | (go_at_call 48; ((with_reducible refine (Log_C HM.out HL.out).mono ?_); rintro e w2 ⟨v2, rfl, hq2, hb2⟩; obtain ⟨A2, n2, c2, rfl⟩ := R_any hq2; obtain ⟨e1_, e2_, e3_⟩ := Kd.R_reads' hq2; obtain rfl : n2 = (latL l i).length := e1_; have HRC := Aside0.mk (clock_Race.calls A2 c2 (latL l i) _ _ w2 e3_ e2_ HR.out); have HB1 := Aside0.mk (below_step HB.out hb2); clear hq2 hb2 HB e2_ e3_; have HB := HB1; clear HB1)) | (go_at_call 28; ((with_reducible refine HRC.out.mono ?_); rintro e w3 ⟨rfl, hb3⟩; have HB1 := Aside0.mk (below_step HB.out hb3); clear hb3 HB; have HB := HB1; clear HB1)))
          go_ret
          exact ⟨by first | rfl | (simp; done) | (simp [*]; done), HB.out⟩
        · have d1 := decide_eq_false (show ¬ (i : Int) < (l.length : Int) by omega)
          go_wp2_with (first | (go_at_call 48; ((with_reducible refine (Log_C HM.out HL.out).mono ?_); rintro e w2 ⟨v2, rfl, hq2, hb2⟩; obtain ⟨A2, n2, c2, rfl⟩ := R_any hq2; obtain ⟨e1_, e2_, e3_⟩ := Kd.R_reads' hq2; obtain rfl : n2 = (latL l i).length := e1_; have HRC := Aside0.mk (clock_Race.calls A2 c2 (latL l i) _ _ w2 e3_ e2_ HR.out); have HB1 := Aside0.mk (below_step HB.out hb2); clear hq2 hb2 HB e2_ e3_; have HB := HB1; clear HB1)) | (go_at_call 28; ((with_reducible refine HRC.out.mono ?_); rintro e w3 ⟨rfl, hb3⟩; have HB1 := Aside0.mk (below_step HB.out hb3); clear hb3 HB; have HB := HB1; clear HB1)))
          go_ret
          exact ⟨by first | rfl | (simp; done) | (simp [*]; done), HB.out⟩
open Go.RowKit Go.Proofs.YtlcnckbmolefpaaW.PrintWords Go.Proofs.YtlcnckbmolefpaaW.PrintLast Go.Proofs.YtlcnckbmolefpaaW.PrintMore
open Go.ChangeShapes Go.WideShapes Go.Deep
def Opens (P : Program) (t : TypeId) {α : Type} (d : Kd α) (q : α → Prop) : Prop :=
  ∀ (H : Type) (enc : TypeId × Value → H) (w : World) (base : Nat) (spare : Nat → Bool) (held : Bool) (fuel : Nat) (cs : List Value) (x : DataW H × List MemPlace),
    DataW.trod enc P w base spare held fuel t cs = some x → ∃ y : α, d.K w y cs ∧ q y
theorem Opens.int {P : Program} {t : TypeId} {k : IntKind} (hu : P.underlying t = some (.int k)) : Opens P t (Kd.int k) (fun n => (Lit.int k n).wf = true) := by
  intro H enc w base spare held fuel cs x h
  obtain ⟨n, rfl, _, hw⟩ := DataW.trod_int hu h
  exact ⟨n, rfl, hw⟩
theorem Opens.bool {P : Program} {t : TypeId} (hu : P.underlying t = some .bool) : Opens P t Kd.bool (fun _ => True) := by
  intro H enc w base spare held fuel cs x h
  obtain ⟨b, rfl, _⟩ := DataW.trod_bool hu h
  exact ⟨b, rfl, trivial⟩
theorem Opens.imp {P : Program} {t : TypeId} {α : Type} {d : Kd α} {q q' : α → Prop} (h : Opens P t d q) (hq : ∀ y, q y → q' y) : Opens P t d q' := by
  intro H enc w base spare held fuel cs x hx
  obtain ⟨y, h1, h2⟩ := h H enc w base spare held fuel cs x hx
  exact ⟨y, h1, hq y h2⟩
theorem Opens.iso {P : Program} {t : TypeId} {α β : Type} {d : Kd α} {q : α → Prop} (h : Opens P t d q) (f : β → α) (g : α → β) (hfg : ∀ y, f (g y) = y) : Opens P t (Kd.iso d f) (fun x => q (f x)) := by
  intro H enc w base spare held fuel cs x hx
  obtain ⟨y, h1, h2⟩ := h H enc w base spare held fuel cs x hx
  refine ⟨g y, ?_, by show q (f (g y)); rw [hfg]; exact h2⟩
  show d.K w (f (g y)) cs
  rw [hfg]; exact h1
theorem Opens.slice {P : Program} {t e : TypeId} {α : Type} [Inhabited α] {d : Kd α} {q : α → Prop} (hu : P.underlying t = some (.slice e)) (hc : P.cellsOf e = d.sz) (h : Opens P e d q) : Opens P t (Kd.slice e d) (fun l => l.length ≤ maxLen ∧ ∀ y ∈ l, q y) := by
  intro H enc w base spare held fuel cs x hx
  rcases open_slice hu hx with ⟨rfl, _⟩ | ⟨a, len, cap, m, n, D, Pl, rfl, hb, hl, hm, hmm, _, hel⟩
  · exact ⟨[], ⟨none, 0, rfl, Nat.le_refl _, rfl, Nat.zero_le _, fun h => absurd h (by simp)⟩, Nat.zero_le _, fun y hy => by simp at hy⟩
  · have hlm : len ≤ m := by rw [hmm]; split <;> omega
    obtain ⟨Y, hY⟩ := choose_lt (α := α) (n := len) (p := fun i y => ∃ cs', w.cells? base (a.add (i * P.cellsOf e)) (P.cellsOf e) = some cs' ∧ d.K w y cs' ∧ q y) (fun i hi => by
      obtain ⟨cs', h1, h2⟩ := hel i (by omega)
      obtain ⟨y, h3, h4⟩ := h H enc w base spare held n cs' _ h2
      exact ⟨y, cs', h1, h3, h4⟩)
    have hlen : ((List.range len).map Y).length = len := by simp
    refine ⟨(List.range len).map Y, ⟨some a, cap, by rw [hlen], by rw [hlen]; exact hl, rfl, ?_, fun _ => ⟨a, rfl, fun j p hj => ?_⟩⟩, ?_, fun y hy => ?_⟩
    · rw [hlen]; unfold maxLen at hm; omega
    · obtain ⟨hjl, hje⟩ := List.getElem?_eq_some_iff.1 hj
      rw [hlen] at hjl
      have hpj : p = Y j := by rw [← hje]; simp
      obtain ⟨cs', h1, h3, _⟩ := hY j hjl
      obtain ⟨_, hcl, hcc⟩ := World.cells?_some h1
      refine ⟨cs', d.K_len h3, by rw [hpj]; exact h3, fun i u hu2 => ?_⟩
      have hi := (List.getElem?_eq_some_iff.1 hu2).1
      rw [d.K_len h3] at hi
      have h5 := hcc i (by rw [hc]; exact hi)
      rw [hc, Go.Deep.add_add] at h5
      rw [h5, ← hu2]
    · rw [hlen]; omega
    · obtain ⟨j, hj, rfl⟩ := List.mem_map.1 hy
      obtain ⟨_, _, _, h4⟩ := hY j (List.mem_range.1 hj)
      exact h4
def OpensSeg (P : Program) (fs : List Field) (off : Nat) {α : Type} (d : Kd α) (q : α → Prop) : Prop :=
  ∀ (H : Type) (enc : TypeId × Value → H) (w : World) (base : Nat) (spare : Nat → Bool) (held : Bool) (fuel : Nat) (cs : List Value), cs.length = d.sz →
    (∀ f ∈ fs, ∃ x : DataW H × List MemPlace, DataW.trod enc P w base spare held fuel f.type ((cs.drop (f.offset - off)).take (P.cellsOf f.type)) = some x) → ∃ y : α, d.K w y cs ∧ q y
theorem OpensSeg.one {P : Program} {f : Field} {off : Nat} {α : Type} {d : Kd α} {q : α → Prop} (ho : f.offset = off) (hc : P.cellsOf f.type = d.sz) (h : Opens P f.type d q) : OpensSeg P [f] off d q := by
  intro H enc w base spare held fuel cs hl hf
  obtain ⟨x, hx⟩ := hf f List.mem_cons_self
  rw [ho, Nat.sub_self, List.drop_zero, hc, ← hl, List.take_length] at hx
  exact h H enc w base spare held fuel cs x hx
theorem OpensSeg.cons {P : Program} {f : Field} {fs : List Field} {off : Nat} {α β : Type} {d : Kd α} {d2 : Kd β} {q : α → Prop} {q2 : β → Prop} (ho : f.offset = off) (hc : P.cellsOf f.type = d.sz) (hm : ∀ g ∈ fs, off + d.sz ≤ g.offset) (h : Opens P f.type d q) (h2 : OpensSeg P fs (off + d.sz) d2 q2) :
    OpensSeg P (f :: fs) off (Kd.pair d d2) (fun y => q y.1 ∧ q2 y.2) := by
  intro H enc w base spare held fuel cs hl hf
  have hl' : cs.length = d.sz + d2.sz := hl
  obtain ⟨x, hx⟩ := hf f List.mem_cons_self
  rw [ho, Nat.sub_self, List.drop_zero, hc] at hx
  obtain ⟨y, h3, h4⟩ := h H enc w base spare held fuel _ x hx
  obtain ⟨y2, h5, h6⟩ := h2 H enc w base spare held fuel (cs.drop d.sz) (by rw [List.length_drop]; omega) (fun g hg => by
    obtain ⟨x2, hx2⟩ := hf g (List.mem_cons_of_mem _ hg)
    refine ⟨x2, ?_⟩
    have := hm g hg
    rw [List.drop_drop, show d.sz + (g.offset - (off + d.sz)) = g.offset - off by omega]
    exact hx2)
  exact ⟨(y, y2), ⟨cs.take d.sz, cs.drop d.sz, (List.take_append_drop _ _).symm, h3, h5⟩, h4, h6⟩
theorem Opens.struct {P : Program} {t : TypeId} {fs : Array Field} {α : Type} {d : Kd α} {q : α → Prop} (hu : P.underlying t = some (.struct fs)) (hc : P.cellsOf t = d.sz) (h : OpensSeg P fs.toList 0 d q) : Opens P t d q := by
  intro H enc w base spare held fuel cs x hx
  obtain ⟨xs, n, rfl, _, hl, hxs, hf⟩ := DataW.trod_struct hu hx
  refine h H enc w base spare held n cs (by rw [hl, hc]) (fun f hf2 => ?_)
  obtain ⟨i, hi, rfl⟩ := List.getElem_of_mem hf2
  have h1 := hf i fs.toList[i] (by rw [Array.getElem?_eq_getElem (by simpa using hi)]; simp)
  have hi2 : i < fs.size := by simpa using hi
  rw [List.getElem?_eq_getElem (by omega)] at h1
  exact ⟨_, by rw [Nat.sub_zero]; exact h1⟩
theorem Opens.arg {P : Program} {t e : TypeId} {α : Type} {d : Kd α} {q : List α → Prop} (ho : Opens P t (Kd.slice e d) q) {H : Type} {enc : TypeId × Value → H} {w : World} {base : Nat} {spare : Nat → Bool} {held : Bool} {a : Option Addr} {len cap : Nat} {D : DataW H} {ps : List MemPlace} (h : DataW.Trod enc P w base spare held t (.slice a len cap) D ps) :
    ∃ l : List α, len = l.length ∧ Kd.C d w a l.length l ∧ l.length ≤ cap ∧ q l := by
  obtain ⟨fuel, hf⟩ := h
  obtain ⟨l, ⟨A, c, he, hlc, hC⟩, hq⟩ := ho H enc w base spare held fuel _ _ hf
  simp [Value.cells] at he
  obtain ⟨rfl, rfl, rfl⟩ := he
  exact ⟨l, rfl, hC, hlc, hq⟩
theorem sized_slice_any {H : Type} {enc : TypeId × Value → H} {P : Program} {W : World} {base : Nat} {spare : Nat → Bool} {held : Bool} {t e : TypeId} {a : Option Addr} {len cap : Nat} {d : DataW H} {ps : List MemPlace} {ts : List TypeId} {ds : List (DataW H)} {j : Nat}
    (hsz : (DataW.weightsEach P ts ds).all (· ≤ reachBytes) = true) (ht : ts[j]? = some t) (hd : ds[j]? = some d) (hu : P.underlying t = some (.slice e)) {B : Nat} (hB : P.bytesOf e = B)
    (h : DataW.Trod enc P W base spare held t (.slice a len cap) d ps) : len * B ≤ 140737488351232 := by
  obtain ⟨fuel, hf⟩ := h
  rcases open_slice hu hf with ⟨hcs, _⟩ | ⟨x, l, c, m, n, D, Pl, hcs, _, hl, _, hm, hx, _⟩
  · simp [Value.cells] at hcs
    obtain ⟨rfl, rfl, rfl⟩ := hcs
    simp
  · simp [Value.cells] at hcs
    obtain ⟨rfl, rfl, rfl⟩ := hcs
    obtain ⟨hx, _⟩ := Prod.mk.inj hx
    subst hx
    have z := sized_slice hsz ht hd hu
    rw [hB] at z
    have h1 : len ≤ ((List.range len).map D).length + ((List.range (m - len)).map fun j => D (len + j)).length := by simp
    exact Nat.le_trans (Nat.mul_le_mul_right _ h1) z
theorem opens_i64 {P : Program} {t : TypeId} (hu : P.underlying t = some (.int .i64)) : Opens P t (Kd.int .i64) (fun n => -9223372036854775808 ≤ n ∧ n ≤ 9223372036854775807) := (Opens.int hu).imp fun _ h => bounds_i64 h
instance : Inhabited S127 := ⟨z127⟩
theorem opens_bool {P : Program} {t : TypeId} (hu : P.underlying t = some .bool) : Opens P t Kd.bool (fun _ => True) := (Opens.bool hu).imp fun _ _ => trivial
open Go.RowKit Go.Proofs.YtlcnckbmolefpaaW.PrintWords
instance : Inhabited S85 := ⟨z85⟩
theorem opens85 : Opens Try.prog 85 k85 (fun _ => True) :=
  (Opens.iso (Opens.struct (d := Kd.pair (Kd.int .i64) (Kd.pair (Kd.int .i64) (Kd.pair Kd.bool Kd.bool))) Try.underlying85 (by kernel_rfl)
    (OpensSeg.cons rfl (by kernel_rfl) (by decide) (opens_i64 Try.underlying3) (OpensSeg.cons rfl (by kernel_rfl) (by decide) (opens_i64 Try.underlying3) (OpensSeg.cons rfl (by kernel_rfl) (by decide) (opens_bool Try.underlying4) (OpensSeg.one rfl (by kernel_rfl) (opens_bool Try.underlying4))))))
    (fun x : S85 => (x.f0, x.f1, x.f2, x.f3)) (fun y => ⟨y.1, y.2.1, y.2.2.1, y.2.2.2⟩) (fun _ => rfl)).imp fun _ _ => trivial
theorem opens83 : Opens Try.prog 83 (Kd.slice 85 k85) (fun l => l.length ≤ maxLen ∧ ∀ y ∈ l, True) := Opens.slice Try.underlying83 (by kernel_rfl) opens85
def marchlandlaw09_ClockLatches.f (_k : Nat) (_l : List S85) : Option Bool := some true
theorem marchlandlaw09_ClockLatches.calls (k : Nat) (A : Option Addr) (c : Nat) (l : List S85) (r : Bool) (w : World) (hC : Kd.C k85 w A l.length l) (hc : l.length ≤ c) (h : marchlandlaw09_ClockLatches.f k l = some r) :
    Calls Try.prog 10 #[.slice A l.length c] w fun e w' => e = .returned (.bool r) ∧ Below w.heap.size w w' := by
  obtain rfl := Option.some.inj h
  exact Latches_calls A c l w hC hc
end Go.Proofs.Ytlcnckbmolefpaa.P
namespace Go.Proofs.Ytlcnckbmolefpaa.Pure
theorem ClockLatches (l : List P.S85) : ∃ k, P.marchlandlaw09_ClockLatches.f k l = some true := ⟨0, rfl⟩
end Go.Proofs.Ytlcnckbmolefpaa.Pure
end
