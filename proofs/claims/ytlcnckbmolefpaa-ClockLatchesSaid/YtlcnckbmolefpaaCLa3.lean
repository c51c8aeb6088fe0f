/- Walks and laws of several statements of this seat, joined into one text; no condition. -/
import Derived.Test.YtlcnckbmolefpaaProg
import Derived.Below
import Derived.Deep.Draws
import Derived.Deep.AppendLies
import Derived.Maps.AppendAt
import Derived.OwnWalk
import Derived.Laws.BytesArg
import Derived.Laws.MakeOwn
import Derived.Laws.OwnMore
import Derived.Deep.OwnRows
import Derived.Tactics
import Derived.Lib.ConvBytes
import Derived.Laws.Slices
import Derived.WalkKit
import Derived.KernelRfl
import Derived.RowKit3
import Derived.Deep.LoopGhost
import Derived.Deep.QuietTactic
import Derived.BigQuiet
import Derived.WideLaws
import Derived.Deep.DeepCutAuto
import Derived.Deep.CutBlock
import Derived.Deep.RegionHeld3
import Derived.Laws.Rows
import Derived.Lib.AppendStr
import Derived.ArgAppend
import Derived.Laws.IdiomCopy
import Derived.OrdersHeld
import Derived.Laws.BitsLemmas
import Derived.RowKit
import Derived.Laws.StructEq
import Derived.Maps.RangeWalk
import Derived.Maps.OwnRows
import Derived.Maps.Views
import Derived.Maps.OwnSet
import Derived.IntWalk
import Derived.Shelf.SlMaps.Clone
import Derived.Deep.RegionHeldLaw
import Derived.Maps.GroupsBeside
import Derived.Test.YtlcnckbmolefpaaCLa0
import Derived.Test.YtlcnckbmolefpaaCLa1
import Derived.Test.YtlcnckbmolefpaaCLa2
section
namespace Go.Proofs.Ytlcnckbmolefpaa.P
open Go.RowKit Go.Maps Go.Proofs.Ytlcnckbmolefpaa.CK Go.Proofs.YtlcnckbmolefpaaW.PrintWords Go.Proofs.YtlcnckbmolefpaaW.PrintLast Go.Proofs.YtlcnckbmolefpaaW.PrintMore
set_option linter.unusedVariables false
set_option linter.unusedSimpArgs false
def plainE (e : Ev) : Bool := decide (e.kind = 2) || decide (e.kind = 3)
def clashE (a b : Ev) : Bool := plainE a && plainE b && decide (a.at_ = b.at_) && !decide (a.who = b.who) && (decide (a.kind = 3) || decide (b.kind = 3))
theorem plain_eq (e : S128) : clock_plain.f e.f0 e.f1 e.f2 e.f3 = some (plainE (ev e)) := by
  unfold clock_plain.f plainE ev
  by_cases h : e.f1 = 2
  · rw [if_pos h]; simp [h]
  · rw [if_neg h]; simp [h]
    cases h3 : (e.f1 == 3) <;> simp_all
theorem clash_eq (a b : S128) : clock_clash.f a.f0 a.f1 a.f2 a.f3 b.f0 b.f1 b.f2 b.f3 = some (clashE (ev a) (ev b)) := by
  unfold clock_clash.f
  rw [plain_eq, Option.bind_some]
  unfold clashE
  cases plainE (ev a)
  · simp
  · rw [if_pos rfl, plain_eq, Option.bind_some]
    cases plainE (ev b)
    · simp
    · rw [if_pos rfl]
      by_cases h2 : a.f2 = b.f2
      · rw [if_pos h2]
        by_cases h0 : a.f0 = b.f0
        · rw [if_pos h0]; simp [ev, h0]
        · rw [if_neg h0]
          by_cases h3 : a.f1 = 3
          · rw [if_pos h3]; simp [ev, h0, h2, h3]
          · rw [if_neg h3]; simp [ev, h0, h2, h3]; cases h4 : (b.f1 == 3) <;> simp_all
      · rw [if_neg h2]; simp [ev, h2]
section
variable (g : Nat → Ev)
def meets (j i : Nat) : Bool := clashE (g i) (g j) && !bef g i j
def raceAt (j : Nat) : Option Nat := (List.range j).find? (meets g j)
def raceFrom : Nat → Nat → Int × Int
  | _, 0 => (-1, -1)
  | j, d + 1 => match raceAt g j with
    | some i => ((i : Int), (j : Int))
    | none => raceFrom (j + 1) d
def boxAt (j : Nat) (a : Int) : List Nat := (List.range j).filter fun i => plainE (g i) && decide ((g i).at_ = a)
end
theorem boxAt_next {g : Nat → Ev} {j : Nat} {a : Int} : boxAt g (j + 1) a = if plainE (g j) = true ∧ (g j).at_ = a then boxAt g j a ++ [j] else boxAt g j a := by
  unfold boxAt
  rw [List.range_succ, List.filter_append]
  by_cases h : plainE (g j) = true ∧ (g j).at_ = a
  · rw [if_pos h]; simp [h.1, h.2]
  · rw [if_neg h]
    have : (plainE (g j) && decide ((g j).at_ = a)) = false := by
      cases hp : plainE (g j)
      · simp
      · simp; exact fun q => h ⟨hp, q⟩
    simp [this]
theorem boxAt_lt {g : Nat → Ev} {j i : Nat} {a : Int} (h : i ∈ boxAt g j a) : i < j := List.mem_range.1 (List.mem_filter.1 h).1
theorem boxAt_len {g : Nat → Ev} {j : Nat} {a : Int} : (boxAt g j a).length ≤ j := by
  have := List.length_filter_le (fun i => plainE (g i) && decide ((g i).at_ = a)) (List.range j)
  rw [List.length_range] at this
  exact this
theorem find_filter {α : Type} {p q : α → Bool} (h : ∀ x, p x = true → q x = true) : ∀ l : List α, (l.filter q).find? p = l.find? p
  | [] => rfl
  | x :: l => by
    cases hq : q x
    · have hp : p x = false := by cases hp : p x; rfl; rw [h x hp] at hq; cases hq
      simp [hq, hp, find_filter h l]
    · simp [hq, List.find?_cons, find_filter h l]
theorem raceAt_box {g : Nat → Ev} {j : Nat} : raceAt g j = (boxAt g j (g j).at_).find? (meets g j) := by
  unfold boxAt raceAt
  rw [find_filter]
  intro i h
  unfold meets clashE at h
  simp only [Bool.and_eq_true, decide_eq_true_iff] at h
  rw [h.1.1.1.1.1, decide_eq_true h.1.1.1.2]; rfl
theorem raceAt_not {g : Nat → Ev} {j : Nat} (h : plainE (g j) = false) : raceAt g j = none := by
  unfold raceAt
  rw [List.find?_eq_none]
  intro i _
  unfold meets clashE
  rw [h]
  simp
def datIs (d : DataW Unit) (zs : List Int) : Prop := (d = .nil ∧ zs = []) ∨ d = .slice (Go.ChangeShapes.lits .i64 zs) []
theorem lits_inj {a b : List Int} (h : (Go.ChangeShapes.lits .i64 a : List (DataW Unit)) = Go.ChangeShapes.lits .i64 b) : a = b := by
  unfold Go.ChangeShapes.lits at h
  exact (List.map_inj_right (fun x y e => by injection e with e; injection e)).1 h
theorem datIs_inj {d : DataW Unit} {a b : List Int} (h : datIs d a) (k : datIs d b) : a = b := by
  rcases h with ⟨h1, h2⟩ | h1
  · rcases k with ⟨_, k2⟩ | k1
    · rw [h2, k2]
    · rw [h1] at k1; cases k1
  · rcases k with ⟨k1, k2⟩ | k1
    · rw [h1] at k1; cases k1
    · rw [h1] at k1; injection k1 with k1; exact lits_inj k1
def GM (w : World) (base b n : Nat) (f : Int → List Nat) : Prop := ∃ D : DataW Unit, w.ownsGroups Try.prog 3 base 3 .i64 b n D ∧ ∀ a : Int, datIs (D.atKey (.int .i64 a) .nil) ((f a).map Int.ofNat)
theorem GM.made (w : World) : GM (w.alloc (.map #[] 0)) (w.heap.size + 1) w.heap.size 0 (fun _ => []) := ⟨.map [], World.ownsGroups_made w Try.prog 3 3 .i64, fun a => Or.inl ⟨rfl, rfl⟩⟩
theorem GM.mono {w : World} {base b n n' : Nat} {f : Int → List Nat} (h : GM w base b n f) (hn : n ≤ n') : GM w base b n' f := by
  obtain ⟨D, ⟨es, cl, h1, h2, h3, h4, h5, h6, h7⟩, hr⟩ := h
  exact ⟨D, ⟨es, cl, h1, h2, Nat.le_trans h3 hn, h4, h5, fun x hx zs ho => Nat.le_trans (h6 x hx zs ho) hn, h7⟩, hr⟩
theorem GM.below {w w' : World} {base b n : Nat} {f : Int → List Nat} (h : GM w base b n f) (hb : Below w.heap.size w w') : GM w' base b n f := by
  obtain ⟨D, h, hr⟩ := h
  refine ⟨D, h.kept (grown_of_below hb none) (by simp) (fun es cl hm x hx => ?_), hr⟩
  cases x.val.ownBlock
  · exact Or.inl rfl
  · exact Or.inr (by simp)
theorem GM.at_ {w : World} {base b n : Nat} {f : Int → List Nat} (h : GM w base b n f) (hn : n < maxLen) {a : Int} (hw : (Lit.int .i64 a).wf = true) : ∃ A c, (Instr.lookup 132 (.map (some b)) (.int .i64 a) false).run Try.prog w = .ok (.slice A (f a).length c) w ∧ w.ownsInts base 3 .i64 (.slice A (f a).length c) ((f a).map Int.ofNat) ∧ (f a).length ≤ c ∧
    ∀ (w1 : World) (v' : Value) (x : Nat), w.grownBy w1 (Value.slice A (f a).length c).ownBlock → w1.ownsInts base 3 .i64 v' ((f a).map Int.ofNat ++ [(x : Int)]) → (v'.ownBlock = (Value.slice A (f a).length c).ownBlock ∨ ∃ g, v'.ownBlock = some g ∧ w.heap.size ≤ g) →
      ∃ w2, (Instr.mapUpdate 132 (.map (some b)) (.int .i64 a) v').run Try.prog w1 = .ok () w2 ∧ GM w2 base b (n + 1) (upd f a (f a ++ [x])) ∧ w1.grownBy w2 (some b) := by
  obtain ⟨D, h, hr⟩ := h
  have hm : IsMap D := by obtain ⟨es, cl, _, _, _, hD, _⟩ := h; exact ⟨_, hD⟩
  obtain ⟨v, zs, hrun, hat, ho, hlen, hback⟩ := h.at (int_keyed Try.underlying3) Try.underlying132 (Try.zeroValue25 w) hn (keyOf_int_mk Try.underlying3 hw)
  have e1 : zs = (f a).map Int.ofNat := datIs_inj (d := D.atKey (.int .i64 a) .nil) (by rw [hat]; exact ho.datum) (hr a)
  obtain ⟨A, c, rfl⟩ := own_slice ho.1
  subst e1
  have hle := own_le ho.1
  simp only [List.length_map] at *
  refine ⟨A, c, hrun, ho, hle, fun w1 v' x hg ho' hloc => ?_⟩
  obtain ⟨w2, hrun2, hg2, hgr2⟩ := hback w1 v' _ hg ho' (by simp; omega) hloc
  refine ⟨w2, hrun2, ⟨_, hg2, fun y => ?_⟩, hgr2⟩
  by_cases e : y = a
  · subst e
    rw [atKey_put_same (k := .int .i64 y) hm trivial]
    show datIs _ ((if y = y then f y ++ [x] else f y).map Int.ofNat)
    rw [if_pos rfl, List.map_append]
    exact ho'.datum
  · rw [atKey_put_other (keyI_ne e)]
    show datIs _ ((if y = a then f a ++ [x] else f y).map Int.ofNat)
    rw [if_neg e]
    exact hr y
set_option maxRecDepth 100000 in
theorem GM.look_same {w w' : World} {base b n : Nat} {f : Int → List Nat} (h : GM w base b n f) {a : Int} (hw : (Lit.int .i64 a).wf = true) {v : Value} (hrun : (Instr.lookup 132 (.map (some b)) (.int .i64 a) false).run Try.prog w = .ok v w) (hbb : w'.heap[b]? = w.heap[b]?) : (Instr.lookup 132 (.map (some b)) (.int .i64 a) false).run Try.prog w' = .ok v w' := by
  obtain ⟨D, ⟨es, cl, hb, F, _⟩, _⟩ := h
  have K := int_keyed (P := Try.prog) (k := 3) Try.underlying3
  have hk := keyOf_int_mk (P := Try.prog) (k := 3) Try.underlying3 hw
  rcases Maps.fit_look false K Try.underlying132 (Try.zeroValue25 w) hb F hk with ⟨h1, h2, _⟩ | ⟨e0, y, h1, h2, h3, _⟩
  · rw [hrun] at h1
    injection h1 with h1 _
    rcases Maps.fit_look false K Try.underlying132 (Try.zeroValue25 w') (hbb.trans hb) F hk with ⟨g1, g2, _⟩ | ⟨e1, y1, g1, g2, g3, _⟩
    · rw [g1, h1]
    · exact absurd g2 (h2 e1 g1)
  · rw [hrun] at h3
    injection h3 with h3 _
    rcases Maps.fit_look false K Try.underlying132 (Try.zeroValue25 w') (hbb.trans hb) F hk with ⟨g1, g2, _⟩ | ⟨e1, y1, g1, g2, g3, _⟩
    · exact absurd h2 (g2 e0 h1)
    · rw [g3, h3]
      have := entry_eq_of_key ((MapKept.stamped_iff es cl).1 F.stamped).2.2 h1 g1 (h2.trans g2.symm)
      rw [this]
theorem GM.map_at {w : World} {base b n : Nat} {f : Int → List Nat} (h : GM w base b n f) : ∃ es cl, w.heap[b]? = some (.map es cl) := by
  obtain ⟨D, ⟨es, cl, hb, _⟩, _⟩ := h; exact ⟨es, cl, hb⟩
theorem race_row {w w' : World} {be base : Nat} {cs : Array Value} {v : Value} {zs : List Int} (hb : w.heap[be]? = some (.cells cs 128 (0, 0))) (ho : w.ownsInts base 3 .i64 v zs) (hg : w.grownBy w' v.ownBlock) : w'.heap[be]? = some (.cells cs 128 (0, 0)) := by
  have hlt : be < w.heap.size := (Array.getElem?_eq_some_iff.1 hb).1
  refine (hg.block be hlt (fun q => ?_)).trans hb
  obtain ⟨cells, hc⟩ := own_typed ho.1 be q.symm
  rw [hb] at hc
  injection hc with hc
  injection hc with _ hc _
  cases hc
theorem race_map {w w7 w8 : World} {be bb : Nat} {cs : Array Value} {es : Array MapEntry} {cl : Nat} (hm : w.heap[bb]? = some (.map es cl)) (hb : w.heap[be]? = some (.cells cs 128 (0, 0))) (h7 : w7.heap[be]? = some (.cells cs 128 (0, 0))) (hg : w7.grownBy w8 (some bb)) : w8.heap[be]? = some (.cells cs 128 (0, 0)) := by
  have hlt : be < w7.heap.size := (Array.getElem?_eq_some_iff.1 h7).1
  refine (hg.block be hlt (fun q => ?_)).trans h7
  injection q with q
  subst q
  rw [hm] at hb
  cases hb
theorem race_own {w w' : World} {base : Nat} {v v' : Value} {l : List Nat} {j : Int} (ho : w.ownsInts base 3 .i64 v (l.map Int.ofNat)) (hw : (Lit.int .i64 j).wf = true) (j0 : 0 ≤ j) (h : Kd.R (Kd.int .i64) 3 w' base (fun _ => True) v' (l.map Int.ofNat ++ [j])) : w'.ownsInts base 3 .i64 v' (l.map Int.ofNat ++ [((j.toNat : Nat) : Int)]) := by
  rw [show ((j.toNat : Nat) : Int) = j by omega]
  refine ⟨Kd.own_of_R h, fun z hz => ?_⟩
  rcases List.mem_append.1 hz with hz | hz
  · exact ho.2 z hz
  · rw [List.mem_singleton.1 hz]; exact hw
def clock_Race.f (l0 : List S128) : Option (Int × Int) := if evsB l0 = true then some (raceFrom (gl l0) 0 l0.length) else none
theorem race_none {g : Nat → Ev} {j d : Nat} (h : raceAt g j = none) : raceFrom g j (d + 1) = raceFrom g (j + 1) d := by show (match raceAt g j with | some i => _ | none => _) = _; rw [h]
theorem race_some {g : Nat → Ev} {j d i : Nat} (h : raceAt g j = some i) : raceFrom g j (d + 1) = ((i : Int), (j : Int)) := by show (match raceAt g j with | some i => _ | none => _) = _; rw [h]
theorem find_at {α : Type} {p : α → Bool} : ∀ (l : List α) (k : Nat) (x : α), l[k]? = some x → p x = true → (∀ m, m < k → ∀ y, l[m]? = some y → p y = false) → l.find? p = some x
  | y :: l, 0, x, h, hp, _ => by simp at h; subst h; simp [hp]
  | y :: l, k + 1, x, h, hp, hb => by
    have h0 := hb 0 (by omega) y rfl
    simp [h0]
    exact find_at l k x (by simpa using h) hp (fun m hm y hy => hb (m + 1) (by omega) y (by simpa using hy))
theorem find_no {α : Type} {p : α → Bool} {l : List α} (h : ∀ m, m < l.length → ∀ y, l[m]? = some y → p y = false) : l.find? p = none := by
  rw [List.find?_eq_none]
  intro x hx
  obtain ⟨m, hm, e⟩ := List.getElem_of_mem hx
  rw [h m hm x (by rw [List.getElem?_eq_getElem hm, e])]
  simp
theorem boxAt_upd {g : Nat → Ev} {j : Nat} (h : plainE (g j) = true) : upd (boxAt g j) (g j).at_ (boxAt g j (g j).at_ ++ [j]) = boxAt g (j + 1) := by
  funext a
  rw [boxAt_next]
  show (if a = (g j).at_ then _ else _) = _
  by_cases e : a = (g j).at_
  · rw [if_pos e, if_pos ⟨h, e.symm⟩, e]
  · rw [if_neg e, if_neg (fun q => e q.2.symm)]
theorem boxAt_same {g : Nat → Ev} {j : Nat} (h : plainE (g j) = false) : boxAt g j = boxAt g (j + 1) := by
  funext a
  rw [boxAt_next, if_neg (fun q => by rw [h] at q; exact absurd q.1 (by simp))]
theorem blk4 {w : World} {be : Nat} {e : S128} (hb : w.heap[be]? = some (.cells #[.int .i64 e.f0, .int .i64 e.f1, .int .i64 e.f2, .bool e.f3] 128 (0, 0))) : w.cell? ⟨be, 0, none⟩ = some (.int .i64 e.f0) ∧ w.cell? ⟨be, 1, none⟩ = some (.int .i64 e.f1) ∧ w.cell? ⟨be, 2, none⟩ = some (.int .i64 e.f2) ∧ w.cell? ⟨be, 3, none⟩ = some (.bool e.f3) := by
  refine ⟨?_, ?_, ?_, ?_⟩ <;> (rw [blk_cell hb]; rfl)
set_option maxHeartbeats 4000000 in
set_option maxRecDepth 100000 in
theorem clock_Race.calls (A0 : Option Addr) (c0 : Nat) (l0 : List S128) (r1 r2 : Int) (w : World) (hr0 : Kd.C k128 w A0 l0.length l0) (hc0 : l0.length ≤ c0) (h : clock_Race.f l0 = some (r1, r2)) :
    Calls Try.prog 28 #[.slice A0 l0.length c0] w fun e w' => e = .returned (.tuple #[.int .i64 r1, .int .i64 r2]) ∧ Below w.heap.size w w' := by
  unfold clock_Race.f at h
  by_cases hok : evsB l0 = true
  · rw [if_pos hok] at h
    obtain ⟨hl, hok⟩ := evsB_spec hok
    have HR := Aside0.mk (Option.some.inj h)
    have HOK := Aside0.mk hok
    have HC := Aside0.mk hr0
    have hmm := @run_makeMap Try.prog
    clear h hok hr0
    go_enter Try.func28, Try.ntmps28
    go_wp2_with (go_at_call 81; (with_reducible refine (walk_seen l0 A0 c0 _ HC.out hc0 hl HOK.out).mono ?_); rintro e_ w1 ⟨AS, cS, rfl, hs1, hb1⟩; have HS1 := Aside0.mk hs1; have HB1 := Aside0.mk hb1)
    go_loopw [15] (fun v15 wr => ∃ j : Int, v15 = .int .i64 j ∧ Aside0 (0 ≤ j ∧ j ≤ l0.length ∧ raceFrom (gl l0) j.toNat (l0.length - j.toNat) = (r1, r2)) ∧ Aside0 (GM wr (w1.heap.size + 1) w1.heap.size j.toNat (boxAt (gl l0) j.toNat)) ∧ Aside0 (Below w1.heap.size w1 wr)) (fun v15 _ => (l0.length - intOf v15).toNat)
    case atStart => exact ⟨0, rfl, ⟨by omega, by omega, HR.out⟩, ⟨GM.made w1⟩, ⟨(Below.refl _ _).alloc (Nat.le_refl _) _⟩⟩
    case round =>
      obtain ⟨j, rfl, HJ, HGM, HBW⟩ := hrel
      have j0 := HJ.out.1
      by_cases hlt : j < (l0.length : Int)
      · have hltb := decide_eq_true hlt
        have HCW := Aside0.mk (Kd.C_below (Kd.C_below HC.out HB1.out) HBW.out)
        obtain ⟨ad, rfl, hx0, hx1, hx2, hx3⟩ := at_T128 HCW.out j j0 hlt
        have HE := Aside0.mk (HOK.out _ (rd_mem j0 hlt))
        have HG := Aside0.mk (gl_rd l0 j)
        have HP := Aside0.mk (plain_eq (rd_T128 l0 j))
        go_upto_region 6 with fail
        have HA := Aside0.mk (below_alloc (Below.refl _ wr) (.cells #[.int .i64 (rd_T128 l0 j).f0, .int .i64 (rd_T128 l0 j).f1, .int .i64 (rd_T128 l0 j).f2, .bool (rd_T128 l0 j).f3] 128))
        have HEB := Aside0.mk (blk_new wr (.cells #[.int .i64 (rd_T128 l0 j).f0, .int .i64 (rd_T128 l0 j).f1, .int .i64 (rd_T128 l0 j).f2, .bool (rd_T128 l0 j).f3] 128))
        have HGM2 := Aside0.mk (HGM.out.below HA.out)
        have HBW2 := Aside0.mk (HBW.out.trans (HA.out.mono HBW.out.size))
        clear HCW HGM HBW HA hx0 hx1 hx2 hx3
        generalize wr.alloc (.cells #[.int .i64 (rd_T128 l0 j).f0, .int .i64 (rd_T128 l0 j).f1, .int .i64 (rd_T128 l0 j).f2, .bool (rd_T128 l0 j).f3] 128) = W1 at HEB HGM2 HBW2 ⊢
        generalize wr.heap.size = be at HEB ⊢
        generalize hee : rd_T128 l0 j = e at HE HG HP HEB ⊢
        obtain ⟨he0, he1, he2, he3⟩ := blk4 HEB.out
        cases hp : plainE (ev e) with
        | false =>
          have HPF := Aside0.mk hp
          go_wp2_with (first | (go_at_call 82; (with_reducible refine (clock_plain.calls _ _ _ _ _ _ HP.out).mono ?_); rintro e_ w2 ⟨rfl, hb2⟩))
          go_roundw
          case rel => exact ⟨j + 1, by go_num, ⟨by omega, by omega, by rw [show (j + 1).toNat = j.toNat + 1 by omega, ← race_none (raceAt_not (by rw [HG.out]; exact HPF.out)), show l0.length - (j.toNat + 1) + 1 = l0.length - j.toNat by omega]; exact HJ.out.2.2⟩, ⟨by rw [show (j + 1).toNat = j.toNat + 1 by omega, ← boxAt_same (by rw [HG.out]; exact HPF.out)]; exact (HGM2.out.below hb2).mono (Nat.le_succ _)⟩, ⟨HBW2.out.trans (hb2.mono HBW2.out.size)⟩⟩
          case measure => simp [intOf]; omega
        | true =>
          have HPT := Aside0.mk hp
          go_upto_region 7 with (first | (go_at_call 82; (with_reducible refine (clock_plain.calls _ _ _ _ _ _ HP.out).mono ?_); rintro e_ w2 ⟨rfl, hb2⟩))
          have HEB2 := Aside0.mk (blk_below HEB.out hb2)
          have HGM3 := Aside0.mk (HGM2.out.below hb2)
          have HBW3 := Aside0.mk (HBW2.out.trans (hb2.mono HBW2.out.size))
          clear HEB HGM2 HBW2 hb2 he0 he1 he2 he3
          obtain ⟨he0, he1, he2, he3⟩ := blk4 HEB2.out
          have hwf : (Lit.int .i64 e.f2).wf = true := WalkArith.wf_i64 (by have := HE.out.2; unfold in64 at this; omega)
          have HWF := Aside0.mk hwf
          obtain ⟨A, c, hrun, ho, hle, hback⟩ := HGM3.out.at_ (by unfold maxLen; omega) hwf
          have HBX : Aside0 (boxAt (gl l0) j.toNat e.f2 = boxAt (gl l0) j.toNat (gl l0 j.toNat).at_) := ⟨by rw [HG.out]; rfl⟩
          have hbl : (boxAt (gl l0) j.toNat e.f2).length ≤ 1000000 := by have := boxAt_len (g := gl l0) (j := j.toNat) (a := e.f2); omega
          generalize hbx : boxAt (gl l0) j.toNat e.f2 = BX at *
          have HRI : Aside0 (ReadsInt w2 .i64 A BX.length (BX.map Int.ofNat)) := ⟨by
            obtain ⟨A', c', e', hr⟩ := own_reads ho.1
            simp only [List.length_map] at e' hr
            injection e' with e1 e2 e3
            subst e1
            exact hr⟩
          clear hback ho hwf
          go_wp2
          go_loopw [28] (fun v28 wr => ∃ m : Int, v28 = .int .i64 m ∧ Aside0 (0 ≤ m ∧ m ≤ BX.length ∧ ∀ k, k < m.toNat → ∀ y, BX[k]? = some y → meets (gl l0) j.toNat y = false) ∧ Aside0 (Below w2.heap.size w2 wr)) (fun v28 _ => (BX.length - intOf v28).toNat)
          case atStart => exact ⟨0, rfl, ⟨by omega, by omega, fun k hk => by omega⟩, ⟨Below.refl _ _⟩⟩
          case round =>
            obtain ⟨m, rfl, HM, HB⟩ := hrel
            have m0 := HM.out.1
            by_cases hmt : m < (BX.length : Int)
            · have hmtb := decide_eq_true hmt
              obtain ⟨am, hA, hxm⟩ := (HRI.out.below HB.out).at_ m m0 (by simpa using hmt)
              subst hA
              obtain ⟨iN, hiN⟩ : ∃ iN, BX[m.toNat]? = some iN := ⟨_, List.getElem?_eq_getElem (by omega : m.toNat < BX.length)⟩
              have hrd : rd (BX.map Int.ofNat) m = (iN : Int) := by unfold rd; rw [List.getD_eq_getElem?_getD, List.getElem?_map, hiN]; rfl
              have hiL : iN < j.toNat := boxAt_lt (g := gl l0) (j := j.toNat) (a := e.f2) (by rw [hbx]; exact List.mem_of_getElem? hiN)
              have HIN := Aside0.mk hiN
              rw [hrd] at hxm
              obtain ⟨x, hx⟩ : ∃ x : Int, x = (iN : Int) := ⟨_, rfl⟩
              rw [← hx] at hxm
              have x0 : 0 ≤ x := by omega
              have x1 : x < (l0.length : Int) := by omega
              have xN : x.toNat = iN := by omega
              clear hiN hrd
              have HCW := Aside0.mk (Kd.C_below (Kd.C_below (Kd.C_below HC.out HB1.out) HBW3.out) HB.out)
              have HSW := Aside0.mk ((HS1.out.below HBW3.out).below HB.out)
              obtain ⟨ad', hA', hx0, hx1, hx2, hx3⟩ := at_T128 HCW.out x x0 x1
              obtain rfl : ad = ad' := by injection hA'
              have HCL := Aside0.mk (clash_eq (rd_T128 l0 x) e)
              have HGI : Aside0 (gl l0 iN = ev (rd_T128 l0 x)) := ⟨by rw [← xN]; exact gl_rd l0 x⟩
              generalize rd_T128 l0 x = ei at hx0 hx1 hx2 hx3 HCL HGI
              obtain ⟨hf0, hf1, hf2, hf3⟩ := blk4 (blk_below HEB2.out HB.out)
              have hmk : ∀ w', Below wr.heap.size wr w' → (fun w' => w'.cell? (ad.add (x.toNat * 4)) = some (.int .i64 ei.f0) ∧ w'.cell? ⟨(ad.add (x.toNat * 4)).block, (ad.add (x.toNat * 4)).off + 1, none⟩ = some (.int .i64 ei.f1) ∧ w'.cell? ⟨(ad.add (x.toNat * 4)).block, (ad.add (x.toNat * 4)).off + 2, none⟩ = some (.int .i64 ei.f2) ∧ w'.cell? ⟨(ad.add (x.toNat * 4)).block, (ad.add (x.toNat * 4)).off + 3, none⟩ = some (.bool ei.f3) ∧ w'.cell? ⟨be, 0, none⟩ = some (.int .i64 e.f0) ∧ w'.cell? ⟨be, 1, none⟩ = some (.int .i64 e.f1) ∧ w'.cell? ⟨be, 2, none⟩ = some (.int .i64 e.f2) ∧ w'.cell? ⟨be, 3, none⟩ = some (.bool e.f3)) w' := fun w' hb => ⟨pw_cell_below hb hx0, pw_cell_below hb hx1, pw_cell_below hb hx2, pw_cell_below hb hx3, pw_cell_below hb hf0, pw_cell_below hb hf1, pw_cell_below hb hf2, pw_cell_below hb hf3⟩
              have HMK := Aside0.mk hmk
              clear hmk
              have HX := Aside0.mk hx
              have HXN := Aside0.mk xN
              clear hx xN
              have q0 := eq_true x0
              have q1 := eq_true x1
              cases hcl : clashE (ev ei) (ev e) with
              | false =>
                have HCT : Aside0 (clock_clash.f ei.f0 ei.f1 ei.f2 ei.f3 e.f0 e.f1 e.f2 e.f3 = some false) := ⟨by rw [HCL.out, hcl]⟩
                have HMJ : Aside0 (meets (gl l0) j.toNat iN = false) := ⟨by unfold meets; rw [HGI.out, HG.out, hcl]; rfl⟩
                have hHeld0 := HMK.out _ (below_drew (Below.refl _ wr))
                go_upto_region 10 with fail
                refine start_ (n := 14) (S := (fun w' => w'.cell? (ad.add (x.toNat * 4)) = some (.int .i64 ei.f0) ∧ w'.cell? ⟨(ad.add (x.toNat * 4)).block, (ad.add (x.toNat * 4)).off + 1, none⟩ = some (.int .i64 ei.f1) ∧ w'.cell? ⟨(ad.add (x.toNat * 4)).block, (ad.add (x.toNat * 4)).off + 2, none⟩ = some (.int .i64 ei.f2) ∧ w'.cell? ⟨(ad.add (x.toNat * 4)).block, (ad.add (x.toNat * 4)).off + 3, none⟩ = some (.bool ei.f3) ∧ w'.cell? ⟨be, 0, none⟩ = some (.int .i64 e.f0) ∧ w'.cell? ⟨be, 1, none⟩ = some (.int .i64 e.f1) ∧ w'.cell? ⟨be, 2, none⟩ = some (.int .i64 e.f2) ∧ w'.cell? ⟨be, 3, none⟩ = some (.bool e.f3))) (ds := []) #[false, false, false, false, false, false, false, false, false, false, false, false, false, false] (by kernel_rfl) rfl rfl hHeld0 (fun hHeld => ?_)
                refine pure_ (i := 0) (N := some 32) (v := ?_) (a' := ?_) #[true, false, false, false, false, false, false, false, false, false, false, false, false, false] rfl rfl (by kernel_rfl) (fun _ _ _ h => h) (Or.inl ⟨by rfl, ?_⟩) ?_ ?_
                rotate_left
                · intro w'
                  go_simp
                  with_reducible rfl
                rotate_left
                · simp only [Act.put, List.setIfInBounds_toArray, List.set_cons_zero, List.set_cons_succ]
                  rfl
                refine pure_ (i := 1) (N := some 33) (v := ?_) (a' := ?_) #[true, true, false, false, false, false, false, false, false, false, false, false, false, false] rfl rfl (by kernel_rfl) (fun _ _ _ h => h) (Or.inl ⟨by rfl, ?_⟩) ?_ ?_
                rotate_left
                · intro w'
                  go_simp
                  with_reducible rfl
                rotate_left
                · simp only [Act.put, List.setIfInBounds_toArray, List.set_cons_zero, List.set_cons_succ]
                  rfl
                refine pure_ (i := 2) (N := some 34) (v := ?_) (a' := ?_) #[true, true, true, false, false, false, false, false, false, false, false, false, false, false] rfl rfl (by kernel_rfl) (fun _ _ _ h => h) (Or.inl ⟨by rfl, ?_⟩) ?_ ?_
                rotate_left
                · intro w'
                  go_simp
                  with_reducible rfl
                rotate_left
                · simp only [Act.put, List.setIfInBounds_toArray, List.set_cons_zero, List.set_cons_succ]
                  rfl
                refine take_ (i := 3) (N := some 35) (v := ?_) (a' := ?_) #[true, true, true, true, false, false, false, false, false, false, false, false, false, false] rfl rfl (by kernel_rfl) (fun _ _ _ h => h) (Or.inl ⟨by rfl, ?_⟩) hHeld ?_ ?_
                rotate_left
                · rintro w' ⟨s0, s1, s2, s3, s4, s5, s6, s7⟩
                  go_simp
                  with_reducible rfl
                rotate_left
                · simp only [Act.put, List.setIfInBounds_toArray, List.set_cons_zero, List.set_cons_succ]
                  rfl
                refine take_ (i := 4) (N := some 36) (v := ?_) (a' := ?_) #[true, true, true, true, true, false, false, false, false, false, false, false, false, false] rfl rfl (by kernel_rfl) (fun _ _ _ h => h) (Or.inl ⟨by rfl, ?_⟩) hHeld ?_ ?_
                rotate_left
                · rintro w' ⟨s0, s1, s2, s3, s4, s5, s6, s7⟩
                  go_simp
                  with_reducible rfl
                rotate_left
                · simp only [Act.put, List.setIfInBounds_toArray, List.set_cons_zero, List.set_cons_succ]
                  rfl
                refine one_ (i := 5) (N := some 37) #[true, true, true, true, true, true, false, false, false, false, false, false, false, false] rfl rfl (by kernel_rfl) (by decide) (fun K hK => ?_)
                refine goes_ Try.func83 (by kernel_rfl) rfl #[.agg #[.int .i64 ei.f0, .int .i64 ei.f1, .int .i64 ei.f2, .bool ei.f3], .agg #[.int .i64 e.f0, .int .i64 e.f1, .int .i64 e.f2, .bool e.f3]] (by rfl) rfl rfl (by (try simp only [List.map_toArray, List.map_cons, List.map_nil]); first | done | rfl) ?_
                with_reducible refine (clock_clash.calls _ _ _ _ _ _ _ _ false _ HCT.out).mono ?_
                rintro e_ w3 ⟨rfl, hb3⟩
                refine ⟨_, rfl, ?_⟩
                have hB3 : Below wr.heap.size wr w3 := (below_drew (Below.refl _ wr)).trans (hb3.mono (Nat.le_refl _))
                have HB3 := Aside0.mk hB3
                refine hK.out _ _ (HMK.out _ hB3) (fun hHeld => ?_)
                clear hK K hB3 hb3
                refine norm_ (a' := ?_) ?_ ?_
                rotate_left
                · show Act.put _ (some 37) _ = _
                  simp only [Act.put, List.setIfInBounds_toArray, List.set_cons_zero, List.set_cons_succ]
                  rfl
                refine pure_ (i := 6) (N := some 38) (v := ?_) (a' := ?_) #[true, true, true, true, true, true, true, false, false, false, false, false, false, false] rfl rfl (by kernel_rfl) (fun _ _ _ h => h) (Or.inl ⟨by rfl, ?_⟩) ?_ ?_
                rotate_left
                · intro w'
                  go_simp
                  with_reducible rfl
                rotate_left
                · simp only [Act.put, List.setIfInBounds_toArray, List.set_cons_zero, List.set_cons_succ]
                  rfl
                refine pure_ (i := 7) (N := some 39) (v := undef) (a' := ?_) #[true, true, true, true, true, true, true, true, false, false, false, false, false, false] rfl rfl (by kernel_rfl) (fun _ _ _ h => h) (Or.inr ⟨by rfl, rfl⟩) ?_ ?_
                rotate_left
                · simp only [Act.put, List.setIfInBounds_toArray, List.set_cons_zero, List.set_cons_succ]
                  rfl
                refine pure_ (i := 8) (N := some 40) (v := undef) (a' := ?_) #[true, true, true, true, true, true, true, true, true, false, false, false, false, false] rfl rfl (by kernel_rfl) (fun _ _ _ h => h) (Or.inr ⟨by rfl, rfl⟩) ?_ ?_
                rotate_left
                · simp only [Act.put, List.setIfInBounds_toArray, List.set_cons_zero, List.set_cons_succ]
                  rfl
                refine pure_ (i := 9) (N := some 41) (v := undef) (a' := ?_) #[true, true, true, true, true, true, true, true, true, true, false, false, false, false] rfl rfl (by kernel_rfl) (fun _ _ _ h => h) (Or.inr ⟨by rfl, rfl⟩) ?_ ?_
                rotate_left
                · simp only [Act.put, List.setIfInBounds_toArray, List.set_cons_zero, List.set_cons_succ]
                  rfl
                refine pure_ (i := 10) (N := some 42) (v := undef) (a' := ?_) #[true, true, true, true, true, true, true, true, true, true, true, false, false, false] rfl rfl (by kernel_rfl) (fun _ _ _ h => h) (Or.inr ⟨by rfl, rfl⟩) ?_ ?_
                rotate_left
                · simp only [Act.put, List.setIfInBounds_toArray, List.set_cons_zero, List.set_cons_succ]
                  rfl
                refine pure_ (i := 11) (N := some 43) (v := undef) (a' := ?_) #[true, true, true, true, true, true, true, true, true, true, true, true, false, false] rfl rfl (by kernel_rfl) (fun _ _ _ h => h) (Or.inr ⟨by rfl, rfl⟩) ?_ ?_
                rotate_left
                · simp only [Act.put, List.setIfInBounds_toArray, List.set_cons_zero, List.set_cons_succ]
                  rfl
                refine pure_ (i := 12) (N := some 44) (v := undef) (a' := ?_) #[true, true, true, true, true, true, true, true, true, true, true, true, true, false] rfl rfl (by kernel_rfl) (fun _ _ _ h => h) (Or.inr ⟨by rfl, rfl⟩) ?_ ?_
                rotate_left
                · simp only [Act.put, List.setIfInBounds_toArray, List.set_cons_zero, List.set_cons_succ]
                  rfl
                refine pure_ (i := 13) (N := some 45) (v := ?_) (a' := ?_) #[true, true, true, true, true, true, true, true, true, true, true, true, true, true] rfl rfl (by kernel_rfl) (fun _ _ _ h => h) (Or.inl ⟨by rfl, ?_⟩) ?_ ?_
                rotate_left
                · intro w'
                  go_simp
                  with_reducible rfl
                rotate_left
                · simp only [Act.put, List.setIfInBounds_toArray, List.set_cons_zero, List.set_cons_succ]
                  rfl
                refine done_ (by kernel_rfl) ?_
                go_wp2
                go_roundw
                case rel => exact ⟨m + 1, by go_num, ⟨by omega, by omega, fun k hk y hy => by
                  by_cases hkm : k < m.toNat
                  · exact HM.out.2.2 k hkm y hy
                  · obtain rfl : k = m.toNat := by omega
                    rw [HIN.out] at hy
                    injection hy with hy
                    subst hy
                    exact HMJ.out⟩, ⟨HB.out.trans (HB3.out.mono HB.out.size)⟩⟩
                case measure => simp [intOf]; omega
              | true =>
                have HCT : Aside0 (clock_clash.f ei.f0 ei.f1 ei.f2 ei.f3 e.f0 e.f1 e.f2 e.f3 = some true) := ⟨by rw [HCL.out, hcl]⟩
                go_upto_region 10 with fail
                go_region_held3 (fun w' => w'.cell? (ad.add (x.toNat * 4)) = some (.int .i64 ei.f0) ∧ w'.cell? ⟨(ad.add (x.toNat * 4)).block, (ad.add (x.toNat * 4)).off + 1, none⟩ = some (.int .i64 ei.f1) ∧ w'.cell? ⟨(ad.add (x.toNat * 4)).block, (ad.add (x.toNat * 4)).off + 2, none⟩ = some (.int .i64 ei.f2) ∧ w'.cell? ⟨(ad.add (x.toNat * 4)).block, (ad.add (x.toNat * 4)).off + 3, none⟩ = some (.bool ei.f3) ∧ w'.cell? ⟨be, 0, none⟩ = some (.int .i64 e.f0) ∧ w'.cell? ⟨be, 1, none⟩ = some (.int .i64 e.f1) ∧ w'.cell? ⟨be, 2, none⟩ = some (.int .i64 e.f2) ∧ w'.cell? ⟨be, 3, none⟩ = some (.bool e.f3))
                  (first | exact HMK.out _ (below_drew (Below.refl _ _)) | exact HMK.out _ hB4 | exact HMK.out _ hB3)
                  (first | (go_at_call 83; (with_reducible refine (clock_clash.calls _ _ _ _ _ _ _ _ true _ HCT.out).mono ?_); rintro e_ w3 ⟨rfl, hb3⟩; have hB3 : Below wr.heap.size wr w3 := (below_drew (Below.refl _ wr)).trans (hb3.mono (Nat.le_refl _))) | (go_at_call 80; (with_reducible refine (before_calls l0 (some ad) c0 _ AS cS x j _ (Kd.C_below HCW.out hB3) hc0 (HSW.out.below hB3) HOK.out x0 x1 j0 hlt).mono ?_); rintro e_ w4 ⟨rfl, hb4⟩; have hB4 : Below wr.heap.size wr w4 := hB3.trans (hb4.mono hB3.size)))
                all_goals
                  have HB4 := Aside0.mk hB4
                  have HMJ : Aside0 (meets (gl l0) j.toNat iN = !bef (gl l0) x.toNat j.toNat) := ⟨by unfold meets; rw [HGI.out, HG.out, hcl, HXN.out]; simp⟩
                  cases hbf : bef (gl l0) x.toNat j.toNat with
                  | true =>
                    have HBF := Aside0.mk hbf
                    go_wp2
                    go_roundw
                    case rel => exact ⟨m + 1, by go_num, ⟨by omega, by omega, fun k hk y hy => by
                      by_cases hkm : k < m.toNat
                      · exact HM.out.2.2 k hkm y hy
                      · obtain rfl : k = m.toNat := by omega
                        rw [HIN.out] at hy
                        injection hy with hy
                        subst hy
                        rw [HMJ.out, HBF.out]; rfl⟩, ⟨HB.out.trans (HB4.out.mono HB.out.size)⟩⟩
                    case measure => simp [intOf]; omega
                  | false =>
                    have HBF := Aside0.mk hbf
                    have HRA : Aside0 (x = r1 ∧ j = r2) := ⟨by
                      have h1 : raceAt (gl l0) j.toNat = some iN := by
                        rw [raceAt_box, ← HBX.out]
                        exact find_at BX m.toNat iN HIN.out (by rw [HMJ.out, HBF.out]; rfl) HM.out.2.2
                      have h2 := HJ.out.2.2
                      rw [show l0.length - j.toNat = (l0.length - j.toNat - 1) + 1 by omega, race_some h1] at h2
                      injection h2 with h3 h4
                      have := HX.out
                      omega⟩
                    go_wp2
                    go_ret2
                    exact ⟨by rw [HRA.out.1, HRA.out.2]; rfl, ((HB1.out.trans (HBW3.out.mono HB1.out.size)).trans (HB.out.mono (Nat.le_trans HB1.out.size HBW3.out.size))).trans (HB4.out.mono (Nat.le_trans HB1.out.size (Nat.le_trans HBW3.out.size HB.out.size)))⟩
            · have hmtb := decide_eq_false hmt
              have HNO : Aside0 (raceAt (gl l0) j.toNat = none) := ⟨by
                rw [raceAt_box, ← HBX.out]
                exact find_no (fun k hk y hy => HM.out.2.2 k (by omega) y hy)⟩
              go_upto_region 13 with fail
              have HGD := Aside0.mk ((HGM3.out.below HB.out).below (below_drew (Below.refl _ wr)))
              have hBE := blk_below HEB2.out HB.out
              obtain ⟨hf0, hf1, hf2, hf3⟩ := blk4 hBE
              have HBE := Aside0.mk hBE
              clear hBE hf0 hf1 hf3 HRI HM hmtb hmt hrun
              obtain ⟨A2, c2, hrun2, ho2, hle2, hback2⟩ := HGD.out.at_ (by unfold maxLen; omega) HWF.out
              simp only [hbx] at hrun2 ho2 hle2 hback2
              obtain ⟨es2, cl2, hm2⟩ := HGD.out.map_at
              have hb2 : w1.heap.size < wr.drew.heap.size := (Array.getElem?_eq_some_iff.1 hm2).1
              have hrun3 := HGD.out.look_same (w' := (wr.alloc (.cells #[.int .i64 j] 3)).drew) HWF.out hrun2 (Below.heap_alloc _ _ _ hb2)
              have HRO : Aside0 (Kd.R (Kd.int .i64) 3 wr.drew (w1.heap.size + 1) (fun _ => True) (.slice A2 BX.length c2) (BX.map Int.ofNat)) := ⟨Kd.R_of_own (enc := Value.int .i64) ho2.1 (fun _ _ => trivial)⟩
              have HO2 := Aside0.mk ho2
              have HBK := Aside0.mk hback2
              have HM2 := Aside0.mk hm2
              clear ho2 hback2 hm2
              have hS0 : wr.drew.cell? ⟨be, 2, none⟩ = some (.int .i64 e.f2) := hf2
              have hS1 := pw_cell_below (below_alloc (Below.refl _ wr.drew) (.cells #[.int .i64 j] 3)) hS0
              have hjw : (Lit.int .i64 j).wf = true := WalkArith.wf_i64 (by omega)
              have HJW := Aside0.mk hjw
              clear hjw
              go_region_held_law (fun w' => w'.cell? ⟨be, 2, none⟩ = some (.int .i64 e.f2))
                (first | exact hS0 | exact hS1 | exact hS8 | exact hS7)
                (first | (refine Kd.R_append_step (Kd.int .i64) (w0 := wr.drew) (W := wr.drew) (w1.heap.size + 1) (by rfl) (.tmp 55) (.tmp 57) 25 3 (.int .i64 0) 8 (by rfl) Try.underlying25 info3 rfl (by decide) (by omega) (.slice A2 BX.length c2) (BX.map Int.ofNat) j [.int .i64 j] (fun _ => True) (fun _ => False) (by rfl) (by rfl) ?_ ?_ ?_ ?_ ?_ ?_ ?_ ?_; exact rfl; exact (fun _ hk => hk.elim); exact (fun _ _ => trivial); exact HRO.out; exact (Below.refl _ _); exact hb2; (rw [List.length_map]; omega); intro v7 w7 ho7 hb7 hg7 hat7; have HS7 := Aside0.mk (race_row (w := wr.drew) HBE.out HO2.out hg7); have hS7 := (blk4 HS7.out).2.2.1; obtain ⟨w8, hr8, hgm8, hg8⟩ := HBK.out w7 v7 j.toNat hg7 (race_own HO2.out HJW.out j0 ho7) hat7; have HS8 := Aside0.mk (race_map (w := wr.drew) HM2.out HBE.out HS7.out hg8); have hS8 := (blk4 HS8.out).2.2.1))
              all_goals
                have HBF := Aside0.mk (((below_drew (HBW3.out.trans (HB.out.mono HBW3.out.size))).trans (hb7.mono (Nat.le_succ _))).grown hg8 (Nat.le_trans (Nat.le_of_lt hb2) hb7.size) (fun k hk => by injection hk with hk; omega))
                have HGF : Aside0 (GM w8 (w1.heap.size + 1) w1.heap.size (j.toNat + 1) (boxAt (gl l0) (j.toNat + 1))) := ⟨by
                  have h := hgm8
                  rw [← boxAt_upd (by rw [HG.out]; exact HPT.out), ← HBX.out, HG.out]
                  exact h⟩
                clear hgm8 hb7 hg7 hg8 ho7 hat7
                go_wp2
                go_roundw
                case rel => exact ⟨j + 1, by go_num, ⟨by omega, by omega, by rw [show (j + 1).toNat = j.toNat + 1 by omega, ← race_none HNO.out, show l0.length - (j.toNat + 1) + 1 = l0.length - j.toNat by omega]; exact HJ.out.2.2⟩, ⟨by rw [show (j + 1).toNat = j.toNat + 1 by omega]; exact HGF.out⟩, HBF⟩
                case measure => simp [intOf]; omega
      · have hltb := decide_eq_false hlt
        have HRA : Aside0 (r1 = -1 ∧ r2 = -1) := ⟨by
          have h := HJ.out.2.2
          have h2 := HJ.out.2.1
          rw [show l0.length - j.toNat = 0 by omega] at h
          have h : ((-1 : Int), (-1 : Int)) = (r1, r2) := h
          injection h with h3 h4
          exact ⟨h3.symm, h4.symm⟩⟩
        go_wp2
        go_ret2
        exact ⟨by rw [HRA.out.1, HRA.out.2]; rfl, HB1.out.trans (HBW.out.mono HB1.out.size)⟩
  · rw [if_neg hok] at h; cases h
open Go Go.Proofs.Ytlcnckbmolefpaa.CK
theorem race_free {g : Nat → Ev} : ∀ (d j : Nat), (∀ m, j ≤ m → m < j + d → raceAt g m = none) → raceFrom g j d = (-1, -1)
  | 0, _, _ => rfl
  | d + 1, j, h => by
    rw [race_none (h j (by omega) (by omega))]
    exact race_free d (j + 1) (fun m h1 h2 => h m (by omega) (by omega))
theorem raceAt_none {g : Nat → Ev} {j : Nat} (h : ∀ i, i < j → clashE (g i) (g j) = true → hb g i j) : raceAt g j = none := by
  unfold raceAt
  rw [List.find?_eq_none]
  intro i hi hm
  have hlt := List.mem_range.1 hi
  unfold meets at hm
  rw [Bool.and_eq_true, Bool.not_eq_true'] at hm
  have := (bef_iff (g := g) hlt).2 (h i hlt hm.1)
  rw [this] at hm
  cases hm.2
theorem gl_get {l : List S128} {i : Nat} {e : S128} (h : l[i]? = some e) : gl l i = ev e := by unfold gl; rw [List.getD_eq_getElem?_getD, h]; rfl
end Go.Proofs.Ytlcnckbmolefpaa.P
end
