/- Walks and laws of several statements of this seat, joined into one text; no condition. -/
import Derived.Test.YtlcnckbmolefpaaProg
import Derived.Below
import Derived.Deep.Draws
import Derived.Deep.AppendLies
import Derived.Maps.AppendAt
import Derived.OwnWalk
import Derived.Laws.BytesArg
import Derived.Laws.MakeOwn
import Derived.Laws.OwnMore
import Derived.Deep.OwnRows
import Derived.Tactics
import Derived.Lib.ConvBytes
import Derived.Laws.Slices
import Derived.WalkKit
import Derived.KernelRfl
import Derived.RowKit3
import Derived.Deep.LoopGhost
import Derived.Deep.QuietTactic
import Derived.BigQuiet
import Derived.WideLaws
import Derived.Deep.DeepCutAuto
import Derived.Deep.CutBlock
import Derived.Deep.RegionHeld3
import Derived.Laws.Rows
import Derived.Lib.AppendStr
import Derived.ArgAppend
import Derived.Laws.IdiomCopy
import Derived.OrdersHeld
import Derived.Laws.BitsLemmas
import Derived.RowKit
import Derived.Laws.StructEq
import Derived.Maps.RangeWalk
import Derived.Maps.OwnRows
import Derived.Maps.Views
import Derived.Maps.OwnSet
import Derived.IntWalk
import Derived.Shelf.SlMaps.Clone
import Derived.Laws.CopyOwn
import Derived.Deep.RegionLaw
import Derived.LoopTactic
import Derived.Outline
import Derived.Lib.BufferMore
import Derived.Deep.CutRange
import Derived.Deep.RegionHeldLaw
import Derived.Test.YtlcnckbmolefpaaCLa0
import Derived.Test.YtlcnckbmolefpaaCLa1
section
namespace Go.Proofs.Ytlcnckbmolefpaa.P
open Go.RowKit Go.Maps Go.Proofs.Ytlcnckbmolefpaa.CK Go.Proofs.YtlcnckbmolefpaaW.PrintWords Go.Proofs.YtlcnckbmolefpaaW.PrintLast Go.Proofs.YtlcnckbmolefpaaW.PrintMore
set_option linter.unusedVariables false
set_option linter.unusedSimpArgs false
set_option maxRecDepth 100000
def MemC (w : World) (B : Nat) (own : Nat → Prop) (g : Nat) (M : MS) : Prop := MemR w B own g M ∧ ∀ k, own k → k < w.heap.size
def MemNext (w w' : World) (B : Nat) (own : Nat → Prop) (g : Nat) (M : MS) : Prop := (∃ own', MemC w' B own' g M ∧ ∀ k, own' k → own k ∨ w.heap.size ≤ k) ∧ Kept w w' own ∧ Below B w w'
theorem MemC.grown {w : World} {B : Nat} {own : Nat → Prop} {g : Nat} {M : MS} (h : MemC w B own g M) : ∃ bm vw vb vl vo, MemV w B (fun k => own k ∨ w.heap.size ≤ k) g bm vw vb vl vo M := by
  obtain ⟨bm, vw, vb, vl, vo, h⟩ := h.1
  exact ⟨bm, vw, vb, vl, vo, h.mono (fun k hk => .inl hk)⟩
theorem MemTo.next {w w' : World} {B : Nat} {own : Nat → Prop} {g bm : Nat} {vw vb vl : Value} {M : MS} (h : MemTo w w' B (fun k => own k ∨ w.heap.size ≤ k) g bm vw vb vl M) : MemNext w w' B own g M := by
  obtain ⟨vo, hm, hk, hb⟩ := h
  exact ⟨⟨_, ⟨⟨_, _, _, _, _, hm.bound⟩, fun k hk => hk.2⟩, fun k hk => hk.1⟩, ⟨hk.1, fun i hi hn => hk.2 i hi (fun hs => hs.elim hn (fun h => by omega))⟩, hb⟩
theorem MemC.below {w w' : World} {B : Nat} {own : Nat → Prop} {g : Nat} {M : MS} (h : MemC w B own g M) (hb : Below w.heap.size w w') : MemC w' B own g M := ⟨h.1.below hb, fun k hk => Nat.lt_of_lt_of_le (h.2 k hk) hb.size⟩
theorem MemC.kept {w w' : World} {B : Nat} {own S : Nat → Prop} {g : Nat} {M : MS} (h : MemC w B own g M) (hk : Kept w w' S) (hne : ∀ k, own k → ¬ S k) : MemC w' B own g M := ⟨h.1.kept hk hne, fun k ho => Nat.lt_of_lt_of_le (h.2 k ho) hk.1⟩
theorem MemC.size {w : World} {B : Nat} {own : Nat → Prop} {g : Nat} {M : MS} (h : MemC w B own g M) : B ≤ w.heap.size := by
  obtain ⟨bm, vw, vb, vl, vo, h⟩ := h.1
  exact Nat.le_trans h.bg (Nat.le_of_lt (blk_lt h.hg))
theorem New_C (a b c : Nat) (ha : a ≤ 65536) (hb : b ≤ 65536) (hc : c ≤ 65536) (W : World) :
    Calls Try.prog 30 #[.int .i64 a, .int .i64 b, .int .i64 c] W fun e w' => ∃ g own, e = .returned (.tuple #[.pointer (some ⟨g, 0, none⟩), .int .i64 0]) ∧ MemC w' W.heap.size own g ⟨List.replicate a 0, List.replicate b [], List.replicate c (-1), fun _ => none, 0, []⟩ ∧ (∀ k, own k → W.heap.size ≤ k) ∧ Below W.heap.size W w' := by
  refine (New_ok a b c ha hb hc W).mono ?_
  rintro e w' ⟨g, rfl, ⟨bm, vw, vb, vl, vo, hm⟩, hb⟩
  exact ⟨g, _, rfl, ⟨⟨_, _, _, _, _, hm.bound⟩, fun k hk => hk.2⟩, fun k hk => hk.1, hb⟩
section
variable {w : World} {B : Nat} {own : Nat → Prop} {g : Nat} {M : MS}
theorem Log_C (h : MemC w B own g M) (hlog : M.log.length ≤ 1000000) : Calls Try.prog 48 #[.pointer (some ⟨g, 0, none⟩)] w fun e w' => ∃ v, e = .returned v ∧ Kd.R k128 128 w' w.heap.size (fun _ => True) v M.log ∧ Below w.heap.size w w' := by
  obtain ⟨bm, vw, vb, vl, vo, h⟩ := h.1
  exact Log_V w h hlog
theorem Take_C (who at_ : Int) (hwho : (Lit.int .i64 who).wf = true) (h : MemC w B own g M) (hlog : M.log.length ≤ 1000000) : Calls Try.prog 49 #[.pointer (some ⟨g, 0, none⟩), .int .i64 who, .int .i64 at_] w fun e w' => e = .returned (.bool (M.passB who at_ (-1))) ∧ MemNext w w' B own g (M.pass who 4 at_ (-1) who) := by
  obtain ⟨bm, vw, vb, vl, vo, h⟩ := h.grown
  refine (Take_V who at_ hwho w h (fun k hk => .inr hk) hlog).mono ?_
  rintro e w' ⟨rfl, hm⟩
  exact ⟨rfl, hm.next⟩
theorem Free_C (who at_ : Int) (hwho : (Lit.int .i64 who).wf = true) (h : MemC w B own g M) (hlog : M.log.length ≤ 1000000) : Calls Try.prog 50 #[.pointer (some ⟨g, 0, none⟩), .int .i64 who, .int .i64 at_] w fun e w' => e = .returned (.bool (M.passB who at_ who)) ∧ MemNext w w' B own g (M.pass who 5 at_ who (-1)) := by
  obtain ⟨bm, vw, vb, vl, vo, h⟩ := h.grown
  refine (Free_V who at_ hwho w h (fun k hk => .inr hk) hlog).mono ?_
  rintro e w' ⟨rfl, hm⟩
  exact ⟨rfl, hm.next⟩
theorem Get_C (who at_ : Int) (hwho : (Lit.int .i64 who).wf = true) (h : MemC w B own g M) (hlog : M.log.length ≤ 1000000) (hbox : ∀ b ∈ M.boxes, b.length ≤ 1000000) : Calls Try.prog 39 #[.pointer (some ⟨g, 0, none⟩), .int .i64 who, .int .i64 at_] w fun e w' => ∃ v own', e = .returned v ∧ Kd.R k143 143 w' w.heap.size (fun k => ¬ own' k) v (M.get who at_) ∧ (MemC w' B own' g (M.getTo who at_) ∧ ∀ k, own' k → own k ∨ w.heap.size ≤ k) ∧ Kept w w' own ∧ Below B w w' := by
  obtain ⟨bm, vw, vb, vl, vo, h⟩ := h.grown
  refine (Get_V who at_ hwho w h (fun k hk => .inr hk) hlog hbox).mono ?_
  rintro e w' ⟨v, N, rfl, hN, hR, ⟨vo', hm⟩, hk, hb⟩
  have hm2 := hm.bound
  exact ⟨v, _, rfl, Kd.R_lower (Kd.R_mono (Kd.R_bound hR) (fun k hk hn => by have h1 := hk.2.1; have h2 := hn.1.2; omega)) hN, ⟨⟨⟨_, _, _, _, _, hm2⟩, fun k hk => hk.2⟩, fun k hk => hk.1.1⟩, ⟨hk.1, fun i hi hn => hk.2 i hi (fun hs => hs.elim hn (fun h => by omega))⟩, hb⟩
theorem Set_C (who at_ : Int) (hwho : (Lit.int .i64 who).wf = true) (A : Option Addr) (c : Nat) (b : List S143) (h : MemC w B own g M) (hlog : M.log.length ≤ 1000000) (hC : Kd.F k143 w (fun k => ¬ own k ∧ k < w.heap.size) A b.length b) (hc : b.length ≤ c) (hbl : b.length ≤ 1000000) : Calls Try.prog 34 #[.pointer (some ⟨g, 0, none⟩), .int .i64 who, .int .i64 at_, .slice A b.length c] w fun e w' => e = .returned (.tuple #[]) ∧ MemNext w w' B own g (M.set_ who at_ b) := by
  obtain ⟨bm, vw, vb, vl, vo, h⟩ := h.grown
  refine (Set_V who at_ hwho A c b w h (fun k hk => .inr hk) hlog (Kd.F_mono hC (fun k hk hn => hn.elim hk.1 (fun h => by have := hk.2; omega))) hc hbl).mono ?_
  rintro e w' ⟨rfl, hm⟩
  exact ⟨rfl, hm.next⟩
end
def kSeen : Kd (Int × Option Nat) := Kd.pair (Kd.int .i64) (Kd.scalar Value.map (fun _ => rfl))
def RefIs (τ : Nat → Option T) : Option Nat → T → Prop
  | none, t => t = zeroT
  | some b, t => τ b = some t
def updN (τ : Nat → Option T) (b : Nat) (t : T) : Nat → Option T := fun x => if x = b then some t else τ x
theorem RefIs.other {τ : Nat → Option T} {r : Option Nat} {t t' : T} {b : Nat} (h : RefIs τ r t) (hne : r ≠ some b) : RefIs (updN τ b t') r t := by
  cases r with
  | none => exact h
  | some c => show (if c = b then some t' else τ c) = some t; rw [if_neg (fun e => hne (by rw [e]))]; exact h
theorem RefIs.self (τ : Nat → Option T) (b : Nat) (t : T) : RefIs (updN τ b t) (some b) t := if_pos rfl
structure WR (w0 w : World) (B bc bw bl n : Nat) (K : List Int) (eo : Option (Nat × S128)) (s : St) (fC fW fL : Int → Option Nat) (τ : Nat → Option T) (vo : Value) (rs : List (Int × Option Nat)) (os : List (Int × T)) : Prop where
  oc : OMap Try.prog 3 w bc n fC
  ow : OMap Try.prog 3 w bw n fW
  ol : OMap Try.prog 3 w bl n fL
  ne : bc ≠ bw ∧ bc ≠ bl ∧ bw ≠ bl
  ge : B ≤ bc ∧ B ≤ bw ∧ B ≤ bl
  maps : ∀ b t, τ b = some t → TOwn Try.prog 3 w b K t ∧ B ≤ b ∧ b ≠ bc ∧ b ≠ bw ∧ b ≠ bl
  rC : ∀ x, RefIs τ (fC x) (s.C x)
  rW : ∀ x, RefIs τ (fW x) (s.W x)
  rL : ∀ x, RefIs τ (fL x) (s.L x)
  inj : ∀ x y b, fC x = some b → fC y = some b → x = y
  apart : ∀ x b, fC x = some b → (∀ y, fW y ≠ some b) ∧ (∀ y, fL y ≠ some b) ∧ ∀ r ∈ rs, r.2 ≠ some b
  out : Kd.R kSeen 171 w B (fun _ => True) vo rs
  outs : rs.length = os.length ∧ ∀ (j : Nat) (r : Int × Option Nat) (o : Int × T), rs[j]? = some r → os[j]? = some o → r.1 = o.1 ∧ RefIs τ r.2 o.2
  eb : ∀ be e, eo = some (be, e) → w.heap[be]? = some (.cells #[.int .i64 e.f0, .int .i64 e.f1, .int .i64 e.f2, .bool e.f3] 128 (0, 0))
  bel : Below B w0 w
  lo : B ≤ w.heap.size
section
variable {w0 w w' : World} {B bc bw bl n : Nat} {K : List Int} {eo : Option (Nat × S128)} {s : St} {fC fW fL : Int → Option Nat} {τ : Nat → Option T} {vo : Value} {rs : List (Int × Option Nat)} {os : List (Int × T)}
theorem omap_block {b : Nat} {f : Int → Option Nat} (h : OMap Try.prog 3 w b n f) : ∃ es clock, w.heap[b]? = some (.map es clock) := by
  obtain ⟨D, ⟨es, clock, hb, _⟩, _⟩ := h; exact ⟨es, clock, hb⟩
theorem town_block {b : Nat} {t : T} (h : TOwn Try.prog 3 w b K t) : ∃ es clock, w.heap[b]? = some (.map es clock) := by
  obtain ⟨D, ⟨⟨es, clock, hb, _⟩, _⟩⟩ := h; exact ⟨es, clock, hb⟩
theorem WR.ref_lt (h : WR w0 w B bc bw bl n K eo s fC fW fL τ vo rs os) {b : Nat} {t : T} (hb : τ b = some t) : b < w.heap.size := (h.maps b t hb).1.lt
theorem WR.refW_lt (h : WR w0 w B bc bw bl n K eo s fC fW fL τ vo rs os) {y : Int} {b : Nat} (hb : fW y = some b) : b < w.heap.size := by have := h.rW y; rw [hb] at this; exact h.ref_lt this
theorem WR.refL_lt (h : WR w0 w B bc bw bl n K eo s fC fW fL τ vo rs os) {y : Int} {b : Nat} (hb : fL y = some b) : b < w.heap.size := by have := h.rL y; rw [hb] at this; exact h.ref_lt this
theorem WR.refC_lt (h : WR w0 w B bc bw bl n K eo s fC fW fL τ vo rs os) {y : Int} {b : Nat} (hb : fC y = some b) : b < w.heap.size := by have := h.rC y; rw [hb] at this; exact h.ref_lt this
theorem WR.refO_lt (h : WR w0 w B bc bw bl n K eo s fC fW fL τ vo rs os) {r : Int × Option Nat} (hr : r ∈ rs) {b : Nat} (hb : r.2 = some b) : b < w.heap.size := by
  obtain ⟨j, hj, e⟩ := List.getElem_of_mem hr
  have hj' : j < os.length := by have := h.outs.1; omega
  have := (h.outs.2 j r os[j] (by rw [List.getElem?_eq_getElem hj, e]) (List.getElem?_eq_getElem hj')).2
  rw [hb] at this
  exact h.ref_lt this
theorem out_kept {vo : Value} (h : Kd.R kSeen 171 w B (fun _ => True) vo rs) {b : Nat} (hg : w.grownBy w' (some b)) (hb : ∀ c q f, w.heap[b]? ≠ some (.cells c q f)) : Kd.R kSeen 171 w' B (fun _ => True) vo rs := by
  refine Kd.R_mono (Kd.R_grown (Kd.R_bound h) hg (fun k hk e => ?_)) (fun _ _ => trivial)
  obtain ⟨_, _, _, q, _, cells, hc⟩ := hk
  injection e with e
  subst e
  exact hb _ _ _ hc
theorem eb_kept {be b : Nat} {o : Obj} (h : w.heap[be]? = some o) (hg : w.grownBy w' (some b)) (hne : be ≠ b) : w'.heap[be]? = some o := by
  have hlt : be < w.heap.size := (Array.getElem?_eq_some_iff.1 h).1
  exact (hg.block be hlt (by intro e; injection e with e; exact hne e)).trans h
theorem map_ne {b : Nat} {es : Array MapEntry} {clock : Nat} (h : w.heap[b]? = some (.map es clock)) : ∀ c q f, w.heap[b]? ≠ some (.cells c q f) := fun c q f e => by rw [h] at e; cases e
theorem new_ne {b : Nat} (h : w.heap.size ≤ b) : ∀ c q f, w.heap[b]? ≠ some (.cells c q f) := fun c q f e => by
  have := (Array.getElem?_eq_some_iff.1 e).1; omega
theorem WR.below (h : WR w0 w B bc bw bl n K eo s fC fW fL τ vo rs os) (hb : Below w.heap.size w w') : WR w0 w' B bc bw bl n K eo s fC fW fL τ vo rs os := by
  have g : w.grownBy w' none := grown_of_below hb none
  exact { h with oc := h.oc.kept g (by simp), ow := h.ow.kept g (by simp), ol := h.ol.kept g (by simp), maps := fun b t hbt => ⟨(h.maps b t hbt).1.kept g (by simp), (h.maps b t hbt).2⟩, out := Kd.R_below h.out hb, eb := fun be e he => blk_below (h.eb be e he) hb, bel := h.bel.trans (hb.mono h.lo), lo := Nat.le_trans h.lo hb.size }
theorem WR.more (h : WR w0 w B bc bw bl n K eo s fC fW fL τ vo rs os) {n' : Nat} (hn : n ≤ n') : WR w0 w B bc bw bl n' K eo s fC fW fL τ vo rs os := { h with oc := h.oc.mono hn, ow := h.ow.mono hn, ol := h.ol.mono hn }
theorem WR.drop (h : WR w0 w B bc bw bl n K eo s fC fW fL τ vo rs os) : WR w0 w B bc bw bl n K none s fC fW fL τ vo rs os := { h with eb := fun _ _ e => by cases e }
theorem WR.laid (h : WR w0 w B bc bw bl n K none s fC fW fL τ vo rs os) {be : Nat} {e : S128} (hb : w.heap[be]? = some (.cells #[.int .i64 e.f0, .int .i64 e.f1, .int .i64 e.f2, .bool e.f3] 128 (0, 0))) : WR w0 w B bc bw bl n K (some (be, e)) s fC fW fL τ vo rs os := { h with eb := fun be' e' he => by injection he with he; injection he with h1 h2; subst h1 h2; exact hb }
theorem WR.turn (h : WR w0 w B bc bw bl n K eo s fC fW fL τ vo rs os) {b : Nat} {t' : T} {C' : Int → T} (hg : w.grownBy w' (some b)) (hB : B ≤ b) (hc : ∀ c q f, w.heap[b]? ≠ some (.cells c q f)) (hne : b ≠ bc ∧ b ≠ bw ∧ b ≠ bl) (hb : TOwn Try.prog 3 w' b K t')
    (uW : ∀ y, fW y ≠ some b) (uL : ∀ y, fL y ≠ some b) (uO : ∀ r ∈ rs, r.2 ≠ some b) (hC : ∀ x, RefIs (updN τ b t') (fC x) (C' x)) : WR w0 w' B bc bw bl n K eo ⟨C', s.W, s.L⟩ fC fW fL (updN τ b t') vo rs os where
  oc := h.oc.kept hg (by intro e; injection e with e; exact hne.1 e.symm)
  ow := h.ow.kept hg (by intro e; injection e with e; exact hne.2.1 e.symm)
  ol := h.ol.kept hg (by intro e; injection e with e; exact hne.2.2 e.symm)
  ne := h.ne
  ge := h.ge
  maps := fun c t hct => by
    by_cases e : c = b
    · subst e
      have : t = t' := by have q : (if c = c then some t' else τ c) = some t := hct; rw [if_pos rfl] at q; injection q with q; exact q.symm
      subst this
      exact ⟨hb, hB, hne⟩
    · have q : (if c = b then some t' else τ c) = some t := hct
      rw [if_neg e] at q
      exact ⟨(h.maps c t q).1.kept hg (by intro k; injection k with k; exact e k), (h.maps c t q).2⟩
  rC := hC
  rW := fun x => (h.rW x).other (uW x)
  rL := fun x => (h.rL x).other (uL x)
  inj := h.inj
  apart := h.apart
  out := out_kept h.out hg hc
  outs := ⟨h.outs.1, fun j r o hr ho => ⟨(h.outs.2 j r o hr ho).1, (h.outs.2 j r o hr ho).2.other (uO r (List.mem_of_getElem? hr))⟩⟩
  eb := fun be e he => eb_kept (h.eb be e he) hg (fun q => by subst q; exact hc _ _ _ (h.eb be e he))
  bel := h.bel.grown hg h.lo (fun k hk => by injection hk with hk; omega)
  lo := Nat.le_trans h.lo hg.size
theorem WR.turnC (h : WR w0 w B bc bw bl n K eo s fC fW fL τ vo rs os) {b : Nat} {x0 : Int} {t' : T} (hx : fC x0 = some b) (hg : w.grownBy w' (some b)) (hb : TOwn Try.prog 3 w' b K t') : WR w0 w' B bc bw bl n K eo ⟨upd s.C x0 t', s.W, s.L⟩ fC fW fL (updN τ b t') vo rs os := by
  have hr := h.rC x0
  rw [hx] at hr
  obtain ⟨m1, m2, m3⟩ := h.maps b _ hr
  obtain ⟨es, clock, hm⟩ := town_block m1
  obtain ⟨a1, a2, a3⟩ := h.apart x0 b hx
  refine h.turn hg m2 (map_ne hm) m3 hb a1 a2 a3 (fun x => ?_)
  by_cases e : x = x0
  · subst e
    rw [hx, show upd s.C x t' x = t' from if_pos rfl]
    exact RefIs.self _ _ _
  · rw [show upd s.C x0 t' x = s.C x from if_neg e]
    exact (h.rC x).other (fun q => e (h.inj x x0 b q hx))
theorem WR.fresh (h : WR w0 w B bc bw bl n K eo s fC fW fL τ vo rs os) {t' : T} (hg : Below w.heap.size w w') (hb : TOwn Try.prog 3 w' w.heap.size K t') : WR w0 w' B bc bw bl n K eo s fC fW fL (updN τ w.heap.size t') vo rs os := by
  have q1 := h.oc.lt; have q2 := h.ow.lt; have q3 := h.ol.lt
  exact h.turn (C' := s.C) (grown_of_below hg _) h.lo (new_ne (Nat.le_refl _)) ⟨by omega, by omega, by omega⟩ hb (fun y e => by have := h.refW_lt e; omega) (fun y e => by have := h.refL_lt e; omega) (fun r hr e => by have := h.refO_lt hr e; omega) (fun x => (h.rC x).other (fun e => by have := h.refC_lt e; omega))
theorem WR.turnN (h : WR w0 w B bc bw bl n K eo s fC fW fL τ vo rs os) {b : Nat} {t t' : T} (ht : τ b = some t) (uC : ∀ y, fC y ≠ some b) (uW : ∀ y, fW y ≠ some b) (uL : ∀ y, fL y ≠ some b) (uO : ∀ r ∈ rs, r.2 ≠ some b) (hg : w.grownBy w' (some b)) (hb : TOwn Try.prog 3 w' b K t') : WR w0 w' B bc bw bl n K eo s fC fW fL (updN τ b t') vo rs os := by
  obtain ⟨m1, m2, m3⟩ := h.maps b _ ht
  obtain ⟨es, clock, hm⟩ := town_block m1
  exact h.turn (C' := s.C) hg m2 (map_ne hm) m3 hb uW uL uO (fun x => (h.rC x).other (uC x))
theorem put_kept (h : WR w0 w B bc bw bl n K eo s fC fW fL τ vo rs os) {b : Nat} (hg : w.grownBy w' (some b)) (hB : B ≤ b) (hc : ∀ c q f, w.heap[b]? ≠ some (.cells c q f)) (hne : b = bc ∨ b = bw ∨ b = bl) :
    (∀ c t, τ c = some t → TOwn Try.prog 3 w' c K t ∧ B ≤ c ∧ c ≠ bc ∧ c ≠ bw ∧ c ≠ bl) ∧ Kd.R kSeen 171 w' B (fun _ => True) vo rs ∧ (∀ be e, eo = some (be, e) → w'.heap[be]? = some (.cells #[.int .i64 e.f0, .int .i64 e.f1, .int .i64 e.f2, .bool e.f3] 128 (0, 0))) ∧ Below B w0 w' ∧ B ≤ w'.heap.size := by
  refine ⟨fun c t hct => ?_, out_kept h.out hg hc, fun be e he => eb_kept (h.eb be e he) hg (fun q => by subst q; exact hc _ _ _ (h.eb be e he)), h.bel.grown hg h.lo (fun k hk => by injection hk with hk; omega), Nat.le_trans h.lo hg.size⟩
  obtain ⟨m1, m2, m3, m4, m5⟩ := h.maps c t hct
  refine ⟨m1.kept hg (by intro k; injection k with k; rcases hne with q | q | q <;> omega), m2, m3, m4, m5⟩
theorem WR.putC (h : WR w0 w B bc bw bl n K eo s fC fW fL τ vo rs os) {b : Nat} {x0 : Int} {t : T} (hg : w.grownBy w' (some bc)) (ho : OMap Try.prog 3 w' bc (n + 1) (upd fC x0 (some b))) (ht : τ b = some t) (uC : ∀ y, fC y ≠ some b) (uW : ∀ y, fW y ≠ some b) (uL : ∀ y, fL y ≠ some b) (uO : ∀ r ∈ rs, r.2 ≠ some b) : WR w0 w' B bc bw bl (n + 1) K eo ⟨upd s.C x0 t, s.W, s.L⟩ (upd fC x0 (some b)) fW fL τ vo rs os := by
  obtain ⟨es, clock, hm⟩ := omap_block h.oc
  obtain ⟨k1, k2, k3, k4, k5⟩ := put_kept h hg h.ge.1 (map_ne hm) (Or.inl rfl)
  refine ⟨ho, (h.ow.kept hg (by intro e; injection e with e; exact h.ne.1 e.symm)).mono (Nat.le_succ _), (h.ol.kept hg (by intro e; injection e with e; exact h.ne.2.1 e.symm)).mono (Nat.le_succ _), h.ne, h.ge, k1, fun x => ?_, h.rW, h.rL, fun x y c hx hy => ?_, fun x c hx => ?_, k2, h.outs, k3, k4, k5⟩
  · show RefIs τ (if x = x0 then some b else fC x) (if x = x0 then t else s.C x)
    by_cases e : x = x0
    · rw [if_pos e, if_pos e]; exact ht
    · rw [if_neg e, if_neg e]; exact h.rC x
  · have hx : (if x = x0 then some b else fC x) = some c := hx
    have hy : (if y = x0 then some b else fC y) = some c := hy
    by_cases e : x = x0
    · rw [if_pos e] at hx
      by_cases e' : y = x0
      · rw [e, e']
      · rw [if_neg e'] at hy; exact absurd (hy.trans hx.symm) (uC y)
    · rw [if_neg e] at hx
      by_cases e' : y = x0
      · rw [if_pos e'] at hy; exact absurd (hx.trans hy.symm) (uC x)
      · rw [if_neg e'] at hy; exact h.inj x y c hx hy
  · have hx : (if x = x0 then some b else fC x) = some c := hx
    by_cases e : x = x0
    · rw [if_pos e] at hx; injection hx with hx; subst hx; exact ⟨uW, uL, uO⟩
    · rw [if_neg e] at hx; exact h.apart x c hx
theorem WR.putW (h : WR w0 w B bc bw bl n K eo s fC fW fL τ vo rs os) {b : Nat} {x0 : Int} {t : T} (hg : w.grownBy w' (some bw)) (ho : OMap Try.prog 3 w' bw (n + 1) (upd fW x0 (some b))) (ht : τ b = some t) (uC : ∀ y, fC y ≠ some b) : WR w0 w' B bc bw bl (n + 1) K eo ⟨s.C, upd s.W x0 t, s.L⟩ fC (upd fW x0 (some b)) fL τ vo rs os := by
  obtain ⟨es, clock, hm⟩ := omap_block h.ow
  obtain ⟨k1, k2, k3, k4, k5⟩ := put_kept h hg h.ge.2.1 (map_ne hm) (Or.inr (Or.inl rfl))
  refine ⟨(h.oc.kept hg (by intro e; injection e with e; exact h.ne.1 e)).mono (Nat.le_succ _), ho, (h.ol.kept hg (by intro e; injection e with e; exact h.ne.2.2 e.symm)).mono (Nat.le_succ _), h.ne, h.ge, k1, h.rC, fun x => ?_, h.rL, h.inj, fun x c hx => ⟨fun y hy => ?_, (h.apart x c hx).2⟩, k2, h.outs, k3, k4, k5⟩
  · show RefIs τ (if x = x0 then some b else fW x) (if x = x0 then t else s.W x)
    by_cases e : x = x0
    · rw [if_pos e, if_pos e]; exact ht
    · rw [if_neg e, if_neg e]; exact h.rW x
  · have hy : (if y = x0 then some b else fW y) = some c := hy
    by_cases e : y = x0
    · rw [if_pos e] at hy; exact uC x (hx.trans hy.symm)
    · rw [if_neg e] at hy; exact (h.apart x c hx).1 y hy
theorem WR.putL (h : WR w0 w B bc bw bl n K eo s fC fW fL τ vo rs os) {b : Nat} {x0 : Int} {t : T} (hg : w.grownBy w' (some bl)) (ho : OMap Try.prog 3 w' bl (n + 1) (upd fL x0 (some b))) (ht : τ b = some t) (uC : ∀ y, fC y ≠ some b) : WR w0 w' B bc bw bl (n + 1) K eo ⟨s.C, s.W, upd s.L x0 t⟩ fC fW (upd fL x0 (some b)) τ vo rs os := by
  obtain ⟨es, clock, hm⟩ := omap_block h.ol
  obtain ⟨k1, k2, k3, k4, k5⟩ := put_kept h hg h.ge.2.2 (map_ne hm) (Or.inr (Or.inr rfl))
  refine ⟨(h.oc.kept hg (by intro e; injection e with e; exact h.ne.2.1 e)).mono (Nat.le_succ _), (h.ow.kept hg (by intro e; injection e with e; exact h.ne.2.2 e)).mono (Nat.le_succ _), ho, h.ne, h.ge, k1, h.rC, h.rW, fun x => ?_, h.inj, fun x c hx => ⟨(h.apart x c hx).1, fun y hy => ?_, (h.apart x c hx).2.2⟩, k2, h.outs, k3, k4, k5⟩
  · show RefIs τ (if x = x0 then some b else fL x) (if x = x0 then t else s.L x)
    by_cases e : x = x0
    · rw [if_pos e, if_pos e]; exact ht
    · rw [if_neg e, if_neg e]; exact h.rL x
  · have hy : (if y = x0 then some b else fL y) = some c := hy
    by_cases e : y = x0
    · rw [if_pos e] at hy; exact uC x (hx.trans hy.symm)
    · rw [if_neg e] at hy; exact (h.apart x c hx).2.1 y hy
theorem WR.snoc (h : WR w0 w B bc bw bl n K eo s fC fW fL τ vo rs os) {vo' : Value} {r : Int × Option Nat} {o : Int × T} (hg : w.grownBy w' vo.ownBlock) (ho : Kd.R kSeen 171 w' B (fun _ => True) vo' (rs ++ [r])) (h1 : r.1 = o.1) (h2 : RefIs τ r.2 o.2) (uC : ∀ x b, fC x = some b → r.2 ≠ some b) : WR w0 w' B bc bw bl n K eo s fC fW fL τ vo' (rs ++ [r]) (os ++ [o]) := by
  obtain ⟨inner, hown⟩ := Kd.R_own h.out
  have hne : ∀ b es clock, w.heap[b]? = some (.map es clock) → some b ≠ vo.ownBlock := fun b es clock hb e => by
    obtain ⟨cells, hc⟩ := own_typed hown b e.symm
    rw [hb] at hc; cases hc
  obtain ⟨es1, cl1, m1⟩ := omap_block h.oc
  obtain ⟨es2, cl2, m2⟩ := omap_block h.ow
  obtain ⟨es3, cl3, m3⟩ := omap_block h.ol
  refine ⟨h.oc.kept hg (hne _ _ _ m1), h.ow.kept hg (hne _ _ _ m2), h.ol.kept hg (hne _ _ _ m3), h.ne, h.ge, fun b t hb => ⟨?_, (h.maps b t hb).2⟩, h.rC, h.rW, h.rL, h.inj, fun x b hx => ⟨(h.apart x b hx).1, (h.apart x b hx).2.1, fun q hq => ?_⟩, ho, ⟨by simp [h.outs.1], fun j p q hp hq => ?_⟩, fun be e he => ?_, h.bel.grown hg h.lo (fun k hk => own_base hown k hk), Nat.le_trans h.lo hg.size⟩
  · obtain ⟨es, cl, m⟩ := town_block (h.maps b t hb).1
    exact (h.maps b t hb).1.kept hg (hne _ _ _ m)
  · rcases List.mem_append.1 hq with hq | hq
    · exact (h.apart x b hx).2.2 q hq
    · rw [List.mem_singleton.1 hq]; exact uC x b hx
  · rcases Nat.lt_or_ge j rs.length with c | c
    · rw [List.getElem?_append_left c] at hp
      rw [List.getElem?_append_left (by have := h.outs.1; omega)] at hq
      exact h.outs.2 j p q hp hq
    · rw [List.getElem?_append_right c] at hp
      rw [List.getElem?_append_right (by have := h.outs.1; omega)] at hq
      have e1 := (List.getElem?_eq_some_iff.1 hp).1
      simp at e1
      have e2 : j - rs.length = 0 := by omega
      have e3 : j - os.length = 0 := by have := h.outs.1; omega
      rw [e2] at hp; rw [e3] at hq
      simp at hp hq
      subst hp hq
      exact ⟨h1, h2⟩
  · have hb := h.eb be e he
    have hlt : be < w.heap.size := (Array.getElem?_eq_some_iff.1 hb).1
    refine (hg.block be hlt (fun q => ?_)).trans hb
    obtain ⟨cells, hc⟩ := own_typed hown be q.symm
    rw [hb] at hc
    injection hc with hc
    injection hc with _ hc _
    cases hc
end
def ev (e : S128) : Ev := ⟨e.f0, e.f1, e.f2, e.f3⟩
def gl (l : List S128) (i : Nat) : Ev := ev (l.getD i z128)
theorem WR.start (W : World) (K : List Int) : WR W (((W.alloc (.map #[] 0)).alloc (.map #[] 0)).alloc (.map #[] 0)) W.heap.size W.heap.size (W.heap.size + 1) (W.heap.size + 1 + 1) 0 K none st0 (fun _ => none) (fun _ => none) (fun _ => none) (fun _ => none) (.slice none 0 0) [] [] := by
  have g1 := World.grownBy_alloc (W.alloc (.map #[] 0)) (.map #[] 0) none
  have g2 := World.grownBy_alloc ((W.alloc (.map #[] 0)).alloc (.map #[] 0)) (.map #[] 0) none
  have o1 : OMap Try.prog 3 (W.alloc (.map #[] 0)) W.heap.size 0 (fun _ => none) := OMap.made W
  have o2 : OMap Try.prog 3 ((W.alloc (.map #[] 0)).alloc (.map #[] 0)) (W.heap.size + 1) 0 (fun _ => none) := by have := OMap.made (P := Try.prog) (k := 3) (W.alloc (.map #[] 0)); simpa using this
  have o3 : OMap Try.prog 3 (((W.alloc (.map #[] 0)).alloc (.map #[] 0)).alloc (.map #[] 0)) (W.heap.size + 1 + 1) 0 (fun _ => none) := by have := OMap.made (P := Try.prog) (k := 3) ((W.alloc (.map #[] 0)).alloc (.map #[] 0)); simpa using this
  exact ⟨(o1.kept g1 (by simp)).kept g2 (by simp), o2.kept g2 (by simp), o3, by omega, by omega, fun b t h => (by cases h), fun x => rfl, fun x => rfl, fun x => rfl, fun x y b h => (by cases h), fun x b h => (by cases h), Kd.R_nil _ _ _ _ _, ⟨rfl, fun j r o h => (by simp at h)⟩, fun be e h => (by cases h), ((((Below.refl _ W).alloc (Nat.le_refl _) _).alloc (by simp) _).alloc (by simp; omega) _), by simp; omega⟩
def in64 (x : Int) : Prop := -9223372036854775808 ≤ x ∧ x ≤ 9223372036854775807
def EvOk (e : S128) : Prop := in64 e.f0 ∧ in64 e.f2
theorem rd_mem {l0 : List S128} {i : Int} (h0 : 0 ≤ i) (h1 : i < l0.length) : rd_T128 l0 i ∈ l0 := by
  unfold rd_T128
  rw [List.getD_eq_getElem?_getD, List.getElem?_eq_getElem (by omega : i.toNat < l0.length)]
  exact List.getElem_mem _
theorem gl_rd (l0 : List S128) (i : Int) : gl l0 i.toNat = ev (rd_T128 l0 i) := rfl
section
variable {w0 w w' : World} {B bc bw bl n : Nat} {K : List Int} {be : Nat} {e : S128} {s : St} {fC fW fL : Int → Option Nat} {τ : Nat → Option T} {vo : Value} {rs : List (Int × Option Nat)} {os : List (Int × T)}
theorem WR.cells (h : WR w0 w B bc bw bl n K (some (be, e)) s fC fW fL τ vo rs os) : w.cell? ⟨be, 0, none⟩ = some (.int .i64 e.f0) ∧ w.cell? ⟨be, 1, none⟩ = some (.int .i64 e.f1) ∧ w.cell? ⟨be, 2, none⟩ = some (.int .i64 e.f2) ∧ w.cell? ⟨be, 3, none⟩ = some (.bool e.f3) := by
  have hb := h.eb be e rfl
  refine ⟨?_, ?_, ?_, ?_⟩ <;> (rw [blk_cell hb]; rfl)
theorem WR.newC (h : WR w0 w B bc bw bl n K (some (be, e)) s fC fW fL τ vo rs os) {x0 : Int} (hx : fC x0 = none) (hg : (w.alloc (.map #[] 0)).grownBy w' (some bc)) (ho : OMap Try.prog 3 w' bc (n + 1) (upd fC x0 (some w.heap.size))) : WR w0 w' B bc bw bl (n + 1) K (some (be, e)) s (upd fC x0 (some w.heap.size)) fW fL (updN τ w.heap.size zeroT) vo rs os := by
  have h1 := h.fresh ((Below.refl _ w).alloc (Nat.le_refl _) (.map #[] 0)) (TOwn.made w K)
  have h2 := h1.putC (x0 := x0) hg ho (RefIs.self τ w.heap.size zeroT) (fun y e => by have := h.refC_lt e; omega) (fun y e => by have := h.refW_lt e; omega) (fun y e => by have := h.refL_lt e; omega) (fun r hr e => by have := h.refO_lt hr e; omega)
  have hz := h.rC x0
  rw [hx] at hz
  have : (⟨upd s.C x0 zeroT, s.W, s.L⟩ : St) = s := by
    have : upd s.C x0 zeroT = s.C := by funext y; show (if y = x0 then zeroT else s.C y) = _; by_cases q : y = x0; (rw [if_pos q, q]; exact hz.symm); (rw [if_neg q])
    rw [this]
  rw [this] at h2
  exact h2
end
section
variable {w0 w w' : World} {B bc bw bl n : Nat} {K : List Int} {eo : Option (Nat × S128)} {s : St} {fC fW fL : Int → Option Nat} {τ : Nat → Option T} {vo : Value} {rs : List (Int × Option Nat)} {os : List (Int × T)}
theorem upd_self {α : Type} (f : Int → α) (x : Int) : upd f x (f x) = f := by funext y; show (if y = x then f x else f y) = f y; by_cases q : y = x; (rw [if_pos q, q]); (rw [if_neg q])
theorem WR.same (h : WR w0 w B bc bw bl n K eo s fC fW fL τ vo rs os) (x : Int) {t : T} (ht : t = s.C x) : WR w0 w B bc bw bl n K eo ⟨upd s.C x t, s.W, s.L⟩ fC fW fL τ vo rs os := by rw [ht, upd_self]; exact h
theorem WR.ownC (h : WR w0 w B bc bw bl n K eo s fC fW fL τ vo rs os) {x : Int} {b : Nat} (hx : fC x = some b) : TOwn Try.prog 3 w b K (s.C x) := by have := h.rC x; rw [hx] at this; exact (h.maps b _ this).1
theorem WR.ownW (h : WR w0 w B bc bw bl n K eo s fC fW fL τ vo rs os) {x : Int} {b : Nat} (hx : fW x = some b) : TOwn Try.prog 3 w b K (s.W x) := by have := h.rW x; rw [hx] at this; exact (h.maps b _ this).1
theorem WR.ownL (h : WR w0 w B bc bw bl n K eo s fC fW fL τ vo rs os) {x : Int} {b : Nat} (hx : fL x = some b) : TOwn Try.prog 3 w b K (s.L x) := by have := h.rL x; rw [hx] at this; exact (h.maps b _ this).1
theorem WR.zeroW (h : WR w0 w B bc bw bl n K eo s fC fW fL τ vo rs os) {x : Int} (hx : fW x = none) : s.W x = zeroT := by have := h.rW x; rw [hx] at this; exact this
theorem WR.zeroL (h : WR w0 w B bc bw bl n K eo s fC fW fL τ vo rs os) {x : Int} (hx : fL x = none) : s.L x = zeroT := by have := h.rL x; rw [hx] at this; exact this
theorem join_zero {t : T} (h : ∀ x, 0 ≤ t x) : joinT t zeroT = t := by funext x; show max (t x) 0 = t x; have := h x; omega
end
theorem range_nil (w : World) : (Instr.range 169 (.map none)).run Try.prog w = .ok (.pointer (some ⟨w.heap.size, 0, none⟩)) (w.alloc (.mapIter none 0 #[] 0)) :=
  run_range_nilMap w 169 _ _ Try.underlying169
set_option maxHeartbeats 1000000 in
theorem join_nil (bt : Nat) (w : World) : Calls Try.prog 106 #[.map (some bt), .map none] w fun e w' => e = .returned (.tuple #[]) ∧ Below w.heap.size w w' := by
  have hr := range_nil
  go_enter Try.func106, Try.ntmps106
  go_wp2
  have hn := fun ty => run_next_nilMap (P := Try.prog) w ty 0 0 #[]
  go_loopw [4] (fun _ wr => wr = w.alloc (.mapIter none 0 #[] 0)) (fun _ _ => 0)
  case atStart => rfl
  case round =>
    subst hrel
    go_wp2
    ((try simp only [Exit.inBlock, Exit.then]); first | refine bodyPost_ret (results_none rfl _ _ _) rfl ?_ | refine bodyPost_end (results_none rfl _ _ _) rfl ?_)
    exact ⟨rfl, (Below.refl _ w).alloc (Nat.le_refl _) _⟩
theorem info171 : (Try.prog.info? 171).map (fun i => (i.zero, i.size, i.bytes)) = some (some (.agg #[.int .i64 0, .map none]), 2, 16) := by kernel_rfl
theorem kSeen_mk (w : World) (base : Nat) (ok : Nat → Prop) (x : Int × Option Nat) : kSeen.M w base ok x [.int .i64 x.1, .map x.2] := ⟨[.int .i64 x.1], [.map x.2], rfl, rfl, rfl⟩
theorem upd_upd {α : Type} (f : Int → α) (x : Int) (a b : α) : upd (upd f x a) x b = upd f x b := by
  funext y; show (if y = x then b else (if y = x then a else f y)) = if y = x then b else f y
  by_cases q : y = x; (rw [if_pos q, if_pos q]); (rw [if_neg q, if_neg q, if_neg q])
theorem range_snoc {α : Type} (g : Nat → α) (n : Nat) : (List.range (n + 1)).map g = (List.range n).map g ++ [g n] := by simp [List.range_succ]
theorem WR.round {w0 w : World} {B bc bw bl m : Nat} {K : List Int} {eo : Option (Nat × S128)} {s : St} {fC fW fL : Int → Option Nat} {τ : Nat → Option T} {vo : Value} {rs : List (Int × Option Nat)} {os : List (Int × T)} {g : Nat → Ev} {i : Int} (h : WR w0 w B bc bw bl m K eo s fC fW fL τ vo rs os) (i0 : 0 ≤ i) (hs : S g (i.toNat + 1) = s) (ho : (List.range (i.toNat + 1)).map (seenAt g) = os) (hm : m ≤ 3 * i.toNat + 3) : WR w0 w B bc bw bl (3 * (i + 1).toNat) K none (S g (i + 1).toNat) fC fW fL τ vo rs ((List.range (i + 1).toNat).map (seenAt g)) := by
  rw [show (i + 1).toNat = i.toNat + 1 by omega, hs, ho]
  exact (h.more (by omega)).drop
theorem omap_update {P : Program} {k : TypeId} {w : World} {b n : Nat} {f : Int → Option Nat} (h : OMap P k w b n f) (hk : P.underlying k = some (.int .i64)) {t e : TypeId} (ht : P.underlying t = some (.map k e)) (hn : n < maxLen) (x0 : Int) (hw : (Lit.int .i64 x0).wf = true) (r : Option Nat) : ∃ w', (Instr.mapUpdate t (.map (some b)) (.int .i64 x0) (.map r)).run P w = .ok () w' ∧ OMap P k w' b (n + 1) (upd f x0 r) ∧ w.grownBy w' (some b) := by
  obtain ⟨D, h, hr⟩ := h
  obtain ⟨w', hrun, h', hg⟩ := h.update (int_keyed hk) ht hn (keyOf_int_mk hk hw) (val := .map r) (d := encR r) (ps := []) rfl
  refine ⟨w', hrun, ⟨_, h', fun y => ?_⟩, hg⟩
  by_cases e : y = x0
  · subst e
    rw [atKey_put_same (k := .int .i64 y) h.isMap trivial]
    show _ = encR (if y = y then r else f y)
    rw [if_pos rfl]
  · rw [atKey_put_other (keyI_ne e), hr]
    show _ = encR (if y = x0 then r else f y)
    rw [if_neg e]
set_option maxRecDepth 100000 in
theorem town_look {w : World} {b : Nat} {K : List Int} {t : T} (h : TOwn Try.prog 3 w b K t) {x : Int} (hw : (Lit.int .i64 x).wf = true) : (Instr.lookup 169 (.map (some b)) (.int .i64 x) false).run Try.prog w = .ok (.int .i64 (t x)) w := by
  obtain ⟨D, h, hr, _⟩ := h
  obtain ⟨c, hrun, hat, _⟩ := h.lookup_int law3c Try.underlying169 Try.underlying3 (Try.zeroValue3 w) (keyOf_int_mk Try.underlying3 hw)
  rw [hr x] at hat
  injection hat with hat
  injection hat with _ hat
  subst hat
  exact hrun
theorem S_bad {g : Nat → Ev} {n : Nat} {e : Ev} (he : g n = e) (h : ¬ valid e) : S g (n + 1) = ⟨upd (S g n).C e.who (c1 (S g n) e), (S g n).W, (S g n).L⟩ := by
  have e1 : c1 (S g n) e = (S g n).C e.who := by
    unfold valid at h
    exact (if_neg (by omega)).trans (if_neg (by omega))
  rw [e1, upd_self]
  show stepS (S g n) (g n) = _
  rw [he]
  exact if_neg h
theorem c2_in {g : Nat → Ev} {n : Nat} {e : Ev} (he : g n = e) (hv : valid e) (x : Int) : 0 ≤ c2 (S g n) e x := by
  have := (known_c2 (inv (g := g) n) (by rw [he]; exact hv)).lo x
  rwa [he] at this
theorem S_store {g : Nat → Ev} {n : Nat} {e : Ev} (he : g n = e) (h : valid e) (hs : e.kind = 1) : S g (n + 1) = ⟨upd (S g n).C e.who (c2 (S g n) e), upd (S g n).W e.at_ (c2 (S g n) e), (S g n).L⟩ := by
  show stepS (S g n) (g n) = _
  rw [he]
  unfold stepS
  rw [if_pos h, if_pos (show stores e from hs), if_neg (show ¬ frees e from fun q => by have := q.1; omega)]
theorem S_free {g : Nat → Ev} {n : Nat} {e : Ev} (he : g n = e) (h : valid e) (hs : frees e) : S g (n + 1) = ⟨upd (S g n).C e.who (c2 (S g n) e), (S g n).W, upd (S g n).L e.at_ (joinT (c2 (S g n) e) ((S g n).L e.at_))⟩ := by
  show stepS (S g n) (g n) = _
  rw [he]
  unfold stepS
  rw [if_pos h, if_neg (show ¬ stores e from fun q => by have := hs.1; have q : e.kind = 1 := q; omega), if_pos hs]
theorem S_else {g : Nat → Ev} {n : Nat} {e : Ev} (he : g n = e) (h : valid e) (h1 : ¬ e.kind = 1) (h2 : ¬ frees e) : S g (n + 1) = ⟨upd (S g n).C e.who (c2 (S g n) e), (S g n).W, (S g n).L⟩ := by
  show stepS (S g n) (g n) = _
  rw [he]
  unfold stepS
  rw [if_pos h, if_neg (show ¬ stores e from h1), if_neg h2]
theorem out_good {g : Nat → Ev} {n : Nat} {e : Ev} (he : g n = e) (h : valid e) : seenAt g n = (c2 (S g n) e e.who, c2 (S g n) e) := by unfold seenAt; rw [he]; exact if_pos h
theorem out_bad {g : Nat → Ev} {n : Nat} {e : Ev} (he : g n = e) (h : ¬ valid e) : seenAt g n = (0, zeroT) := by unfold seenAt; rw [he]; exact if_neg h
theorem c1_in {g : Nat → Ev} {n : Nat} {e : Ev} (he : g n = e) : 0 ≤ c1 (S g n) e e.who ∧ c1 (S g n) e e.who ≤ n := by
  have := c1_me (inv (g := g) n)
  rw [he] at this
  rw [this]
  exact ⟨cnt_nonneg _ _, cnt_le _ _⟩
set_option maxHeartbeats 4000000 in
set_option maxRecDepth 100000 in
theorem walk_calls (l0 : List S128) (A0 : Option Addr) (c0 : Nat) (W : World) (hC : Kd.C k128 W A0 l0.length l0) (hc0 : l0.length ≤ c0) (hl : l0.length ≤ 1000000) (hok : ∀ e ∈ l0, EvOk e) :
    Calls Try.prog 81 #[.slice A0 l0.length c0] W fun e w' => ∃ bc bw bl n fC fW fL τ vo rs, e = .returned vo ∧ WR W w' W.heap.size bc bw bl n (l0.map (·.f0)) none (S (gl l0) l0.length) fC fW fL τ vo rs ((List.range l0.length).map (seenAt (gl l0))) := by
  have HC := Aside0.mk hC
  have HS := Aside0.mk (WR.start W (l0.map (·.f0)))
  have HOK := Aside0.mk hok
  have hmm := @run_makeMap Try.prog
  clear hC hok
  go_enter Try.func81, Try.ntmps81
  go_wp2
  go_loopw [3, 16] (fun v3 v16 wr => ∃ (i : Int) (fC fW fL : Int → Option Nat) (τ : Nat → Option T) (rs : List (Int × Option Nat)), v16 = .int .i64 i ∧ Aside0 (0 ≤ i ∧ i ≤ l0.length) ∧ Aside0 (WR W wr W.heap.size W.heap.size (W.heap.size + 1) (W.heap.size + 1 + 1) (3 * i.toNat) (l0.map (·.f0)) none (S (gl l0) i.toNat) fC fW fL τ v3 rs ((List.range i.toNat).map (seenAt (gl l0))))) (fun _ v16 _ => (l0.length - intOf v16).toNat)
  case atStart => exact ⟨0, _, _, _, _, _, rfl, ⟨by omega, by omega⟩, HS⟩
  case round =>
    clear HS
    obtain ⟨i, fC, fW, fL, τ, rs, rfl, HI, HW⟩ := hrel
    have i0 := HI.out.1
    by_cases hlt : i < (l0.length : Int)
    · have hltb := decide_eq_true hlt
      obtain ⟨ad, rfl, hx0, hx1, hx2, hx3⟩ := at_T128 (Kd.C_below HC.out (HW.out.bel)) i i0 hlt
      have HE := Aside0.mk (HOK.out _ (rd_mem i0 hlt))
      have HM := Aside0.mk (List.mem_map_of_mem (f := (·.f0)) (rd_mem i0 hlt))
      have HG := Aside0.mk (gl_rd l0 i)
      have hKl : (l0.map (·.f0)).length ≤ 1000000 := by rw [List.length_map]; exact hl
      go_upto_region 7 with fail
      have HW1 := Aside0.mk ((HW.out.below ((Below.refl _ wr).alloc (Nat.le_refl _) (.cells #[.int .i64 (rd_T128 l0 i).f0, .int .i64 (rd_T128 l0 i).f1, .int .i64 (rd_T128 l0 i).f2, .bool (rd_T128 l0 i).f3] 128))).laid (blk_new wr _))
      have hbe : wr.heap.size = wr.heap.size := rfl
      clear HW hx0 hx1 hx2 hx3
      generalize wr.alloc (.cells #[.int .i64 (rd_T128 l0 i).f0, .int .i64 (rd_T128 l0 i).f1, .int .i64 (rd_T128 l0 i).f2, .bool (rd_T128 l0 i).f3] 128) = W1 at HW1 ⊢
      generalize wr.heap.size = be at HW1 ⊢
      generalize hee : rd_T128 l0 i = e at HE HM HG HW1 ⊢
      generalize hKK : l0.map (·.f0) = K at HM HW1 hKl ⊢
      obtain ⟨he0, he1, he2, he3⟩ := HW1.out.cells
      have hq := fun w => run_eql_map_nil_sl (P := Try.prog) w 169 _ _ (fC e.f0) Try.underlying169
      go_upto_if 25 with (first | (at_lookup; refine wpList_lookup_R _ Try.underlying3 rfl _ _ 172 169 rfl Try.underlying172 (Try.zeroValue169 _) W.heap.size (3 * i.toNat) fC rfl HW1.out.oc e.f0 rfl (WalkArith.wf_i64 (by have := HE.out.1; unfold in64 at this; omega)) ?_))
      go_cut [9] from 17 to 116 (fun v9 w' => ∃ (b : Nat) (fC' : Int → Option Nat) (τ' : Nat → Option T), v9 = .map (some b) ∧ Aside0 (fC' e.f0 = some b) ∧ Aside0 (WR W w' W.heap.size W.heap.size (W.heap.size + 1) (W.heap.size + 1 + 1) (3 * i.toNat + 1) K (some (be, e)) (S (gl l0) i.toNat) fC' fW fL τ' u3 rs ((List.range i.toNat).map (seenAt (gl l0)))))
      case first =>
        cases hc : fC e.f0 with
        | none =>
          have hcb : (fC e.f0).isNone = true := by rw [hc]; rfl
          have he0' := pw_cell_below ((Below.refl _ W1).alloc (Nat.le_refl _) (.map #[] 0)) he0
          go_wp2_with (first | (at_mapUpdate; refine wpList_update_R _ Try.underlying3 rfl _ _ _ 172 169 rfl Try.underlying172 W.heap.size (3 * i.toNat) fC rfl (HW1.out.oc.kept (World.grownBy_alloc W1 (.map #[] 0) none) (by simp)) (by unfold maxLen; omega) e.f0 rfl (WalkArith.wf_i64 (by have := HE.out.1; unfold in64 at this; omega)) (some W1.heap.size) rfl ?_; intro w2 ho2 hg2))
          go_meet
          case rel => exact ⟨_, _, _, rfl, ⟨if_pos rfl⟩, ⟨HW1.out.newC hc hg2 ho2⟩⟩
        | some b =>
          have hcb : (fC e.f0).isNone = false := by rw [hc]; rfl
          go_wp2
          go_meet
          case rel => exact ⟨b, fC, τ, rfl, ⟨hc⟩, ⟨HW1.out.more (Nat.le_succ _)⟩⟩
      case rest =>
        clear HW1 he0 he1 he2 he3 hq
        obtain ⟨b, fC', τ', rfl, HB, HW2⟩ := hcut
        obtain ⟨he0, he1, he2, he3⟩ := HW2.out.cells
        go_upto_block 2 with fail
        go_cut [] from 17 to 116 (fun w' => ∃ τ2 : Nat → Option T, Aside0 (WR W w' W.heap.size W.heap.size (W.heap.size + 1) (W.heap.size + 1 + 1) (3 * i.toNat + 1) K (some (be, e)) ⟨upd (S (gl l0) i.toNat).C e.f0 (c1 (S (gl l0) i.toNat) (ev e)), (S (gl l0) i.toNat).W, (S (gl l0) i.toNat).L⟩ fC' fW fL τ2 u3 rs ((List.range i.toNat).map (seenAt (gl l0)))))
        case first =>
          have HN := Aside0.mk (fun x => (clocks_in (g := gl l0) i.toNat e.f0 x).1)
          by_cases k0 : e.f1 = 0
          · have k0b := decide_eq_true k0
            have HC1 : Aside0 (c1 (S (gl l0) i.toNat) (ev e) = joinT ((S (gl l0) i.toNat).C e.f0) ((S (gl l0) i.toNat).W e.f2)) := ⟨if_pos k0⟩
            cases hw : fW e.f2 with
            | none =>
              go_wp2_with (first | (at_lookup; refine wpList_lookup_R _ Try.underlying3 rfl _ _ 172 169 rfl Try.underlying172 (Try.zeroValue169 _) (W.heap.size + 1) (3 * i.toNat + 1) fW rfl HW2.out.ow e.f2 rfl (WalkArith.wf_i64 (by have := HE.out.2; unfold in64 at this; omega)) ?_) | (go_at_call 106; (with_reducible refine (join_nil b _).mono ?_); rintro e_ w2 ⟨rfl, hb2⟩))
              go_meet
              case rel => exact ⟨_, ⟨(HW2.out.below hb2).same e.f0 (by rw [HC1.out, HW2.out.zeroW hw, join_zero HN.out])⟩⟩
            | some bu =>
              have HJ := Aside0.mk (join_T b bu K ((S (gl l0) i.toNat).C e.f0) ((S (gl l0) i.toNat).W e.f2) wc (HW2.out.ownC HB.out) (HW2.out.ownW hw) (fun q => (HW2.out.apart _ _ HB.out).1 e.f2 (by rw [hw, q])) hKl HN.out)
              go_wp2_with (first | (at_lookup; refine wpList_lookup_R _ Try.underlying3 rfl _ _ 172 169 rfl Try.underlying172 (Try.zeroValue169 _) (W.heap.size + 1) (3 * i.toNat + 1) fW rfl HW2.out.ow e.f2 rfl (WalkArith.wf_i64 (by have := HE.out.2; unfold in64 at this; omega)) ?_) | (go_at_call 106; (with_reducible refine HJ.out.mono ?_); rintro e_ w2 ⟨rfl, ht2, hg2⟩))
              go_meet
              case rel => exact ⟨_, ⟨HC1.out ▸ HW2.out.turnC HB.out hg2 ht2⟩⟩
          · have k0b := decide_eq_false k0
            by_cases k4 : e.f1 = 4
            · have k4b := decide_eq_true k4
              cases ho : e.f3 with
              | true =>
                have HC1 : Aside0 (c1 (S (gl l0) i.toNat) (ev e) = joinT ((S (gl l0) i.toNat).C e.f0) ((S (gl l0) i.toNat).L e.f2)) := ⟨(if_neg k0).trans (if_pos ⟨k4, ho⟩)⟩
                cases hw : fL e.f2 with
                | none =>
                  go_wp2_with (first | (at_lookup; refine wpList_lookup_R _ Try.underlying3 rfl _ _ 172 169 rfl Try.underlying172 (Try.zeroValue169 _) (W.heap.size + 1 + 1) (3 * i.toNat + 1) fL rfl HW2.out.ol e.f2 rfl (WalkArith.wf_i64 (by have := HE.out.2; unfold in64 at this; omega)) ?_) | (go_at_call 106; (with_reducible refine (join_nil b _).mono ?_); rintro e_ w2 ⟨rfl, hb2⟩))
                  go_meet
                  case rel => exact ⟨_, ⟨(HW2.out.below hb2).same e.f0 (by rw [HC1.out, HW2.out.zeroL hw, join_zero HN.out])⟩⟩
                | some bu =>
                  have HJ := Aside0.mk (join_T b bu K ((S (gl l0) i.toNat).C e.f0) ((S (gl l0) i.toNat).L e.f2) wc (HW2.out.ownC HB.out) (HW2.out.ownL hw) (fun q => (HW2.out.apart _ _ HB.out).2.1 e.f2 (by rw [hw, q])) hKl HN.out)
                  go_wp2_with (first | (at_lookup; refine wpList_lookup_R _ Try.underlying3 rfl _ _ 172 169 rfl Try.underlying172 (Try.zeroValue169 _) (W.heap.size + 1 + 1) (3 * i.toNat + 1) fL rfl HW2.out.ol e.f2 rfl (WalkArith.wf_i64 (by have := HE.out.2; unfold in64 at this; omega)) ?_) | (go_at_call 106; (with_reducible refine HJ.out.mono ?_); rintro e_ w2 ⟨rfl, ht2, hg2⟩))
                  go_meet
                  case rel => exact ⟨_, ⟨HC1.out ▸ HW2.out.turnC HB.out hg2 ht2⟩⟩
              | false =>
                have HC1 : Aside0 (c1 (S (gl l0) i.toNat) (ev e) = (S (gl l0) i.toNat).C e.f0) := ⟨(if_neg k0).trans (if_neg (fun q => by have q2 : e.f3 = true := q.2; rw [ho] at q2; cases q2))⟩
                go_wp2
                go_meet
                case rel => exact ⟨_, ⟨HW2.out.same e.f0 HC1.out⟩⟩
            · have k4b := decide_eq_false k4
              have HC1 : Aside0 (c1 (S (gl l0) i.toNat) (ev e) = (S (gl l0) i.toNat).C e.f0) := ⟨(if_neg k0).trans (if_neg (fun q => k4 q.1))⟩
              go_wp2
              go_meet
              case rel => exact ⟨_, ⟨HW2.out.same e.f0 HC1.out⟩⟩
        case rest =>
          clear HW2 he0 he1 he2 he3
          obtain ⟨τ2, HW3⟩ := hcut
          obtain ⟨he0, he1, he2, he3⟩ := HW3.out.cells
          have hrl : rs.length ≤ 1000000 := by have h1 := HW3.out.outs.1; rw [List.length_map, List.length_range] at h1; omega
          by_cases hv : valid (ev e)
          · have HV := Aside0.mk hv
            have v0 : ¬ e.f1 < 0 := by have h : 0 ≤ e.f1 := hv.1; omega
            have v7 : ¬ 7 < e.f1 := by have h : e.f1 ≤ 7 := hv.2; omega
            have v0b := decide_eq_false v0
            have v7b := decide_eq_false v7
            have HCI := Aside0.mk (c1_in (g := gl l0) (n := i.toNat) (HG.out.trans rfl))
            have hOC : TOwn Try.prog 3 wc b K (c1 (S (gl l0) i.toNat) (ev e)) := by
              have h : TOwn Try.prog 3 wc b K (upd (S (gl l0) i.toNat).C e.f0 (c1 (S (gl l0) i.toNat) (ev e)) e.f0) := HW3.out.ownC HB.out
              rwa [show upd (S (gl l0) i.toNat).C e.f0 (c1 (S (gl l0) i.toNat) (ev e)) e.f0 = c1 (S (gl l0) i.toNat) (ev e) from if_pos rfl] at h
            have HOC := Aside0.mk hOC
            have y0 : 0 ≤ c1 (S (gl l0) i.toNat) (ev e) e.f0 := HCI.out.1
            have y1 : c1 (S (gl l0) i.toNat) (ev e) e.f0 ≤ 1000000 := by have h2 : c1 (S (gl l0) i.toNat) (ev e) e.f0 ≤ (i.toNat : Int) := HCI.out.2; omega
            clear hOC HCI
            go_upto_block 3 with (first | (at_lookup; refine wpList_lookup_T _ Try.underlying3 rfl _ _ 169 rfl Try.underlying169 (Try.zeroValue3 _) b K _ rfl HOC.out e.f0 rfl (WalkArith.wf_i64 (by have := HE.out.1; unfold in64 at this; omega)) ?_; intro hwt) | (at_mapUpdate; refine wpList_update_T _ Try.underlying3 rfl _ _ _ 169 rfl Try.underlying169 b K _ rfl HOC.out (by unfold maxLen; omega) e.f0 rfl (WalkArith.wf_i64 (by have := HE.out.1; unfold in64 at this; omega)) HM.out (c1 (S (gl l0) i.toNat) (ev e) e.f0 + 1) rfl (WalkArith.wf_i64 (by omega)) ?_; intro w2 ht2 hg2))
            have HW4 : Aside0 (WR W w2 W.heap.size W.heap.size (W.heap.size + 1) (W.heap.size + 1 + 1) (3 * i.toNat + 1) K (some (be, e)) ⟨upd (S (gl l0) i.toNat).C e.f0 (c2 (S (gl l0) i.toNat) (ev e)), (S (gl l0) i.toNat).W, (S (gl l0) i.toNat).L⟩ fC' fW fL (updN τ2 b (c2 (S (gl l0) i.toNat) (ev e))) u3 rs ((List.range i.toNat).map (seenAt (gl l0)))) := ⟨by
              have h := HW3.out.turnC HB.out hg2 ht2
              rw [upd_upd] at h
              exact h⟩
            clear HW3 HOC ht2 hg2 he0 he1 he2 he3
            go_frame
            obtain ⟨he0, he1, he2, he3⟩ := HW4.out.cells
            go_cut [] from 17 to 116 (fun w' => ∃ (fW' fL' : Int → Option Nat) (τ3 : Nat → Option T), Aside0 (WR W w' W.heap.size W.heap.size (W.heap.size + 1) (W.heap.size + 1 + 1) (3 * i.toNat + 2) K (some (be, e)) (S (gl l0) (i.toNat + 1)) fC' fW' fL' τ3 u3 rs ((List.range i.toNat).map (seenAt (gl l0)))))
            case first =>
              by_cases k1 : e.f1 = 1
              · have k1b := decide_eq_true k1
                have HT := Aside0.mk (show TOwn Try.prog 3 w2 b K (c2 (S (gl l0) i.toNat) (ev e)) from by
                  have h : TOwn Try.prog 3 w2 b K (upd (S (gl l0) i.toNat).C e.f0 (c2 (S (gl l0) i.toNat) (ev e)) e.f0) := HW4.out.ownC HB.out
                  rwa [show upd (S (gl l0) i.toNat).C e.f0 (c2 (S (gl l0) i.toNat) (ev e)) e.f0 = c2 (S (gl l0) i.toNat) (ev e) from if_pos rfl] at h)
                have HWD := Aside0.mk (HW4.out.below (below_drew (Below.refl _ _)))
                have HTD := Aside0.mk (HT.out.kept (grown_of_below (below_drew (Below.refl _ _)) none) (by simp))
                go_wp2
                go_region_held3 (fun w' => w'.cell? ⟨be, 2, none⟩ = some (.int .i64 e.f2))
                  (first | exact he2 | exact hN | exact hN6)
                  (first | (go_at_call 107; (with_reducible refine (clone_T b K (c2 (S (gl l0) i.toNat) (ev e)) _ HTD.out).mono ?_); rintro e_ w5 ⟨rfl, ht5, hb5, hs5⟩; have HW5 := Aside0.mk (HWD.out.fresh hb5 ht5); have hN := HW5.out.cells.2.2.1; obtain ⟨w6, hr6, ho6, hg6⟩ := omap_update HW5.out.ow Try.underlying3 Try.underlying172 (by unfold maxLen; omega) e.f2 (WalkArith.wf_i64 (by have := HE.out.2; unfold in64 at this; omega)) (some w2.heap.size); have HW6 := Aside0.mk (HW5.out.putW hg6 ho6 (RefIs.self _ _ _) (fun y q => Nat.lt_irrefl _ (HWD.out.refC_lt q))); have hN6 := HW6.out.cells.2.2.1))
                all_goals
                  go_wp2
                  go_meet
                  case rel => exact ⟨_, _, _, ⟨by rw [S_store HG.out HV.out k1]; exact HW6.out⟩⟩
              · have k1b := decide_eq_false k1
                have HT := Aside0.mk (show TOwn Try.prog 3 w2 b K (c2 (S (gl l0) i.toNat) (ev e)) from by
                  have h : TOwn Try.prog 3 w2 b K (upd (S (gl l0) i.toNat).C e.f0 (c2 (S (gl l0) i.toNat) (ev e)) e.f0) := HW4.out.ownC HB.out
                  rwa [show upd (S (gl l0) i.toNat).C e.f0 (c2 (S (gl l0) i.toNat) (ev e)) e.f0 = c2 (S (gl l0) i.toNat) (ev e) from if_pos rfl] at h)
                have HN2 := Aside0.mk (c2_in (n := i.toNat) HG.out HV.out)
                by_cases kf : (e.f1 = 5 ∨ e.f1 = 6) ∧ e.f3 = true
                · obtain ⟨k56, k3⟩ := kf
                  have HF : Aside0 (frees (ev e)) := ⟨⟨k56, k3⟩⟩
                  cases hw : fL e.f2 with
                  | none =>
                    rcases k56 with k56 | k56
                    all_goals
                      have k56b := decide_eq_true k56
                      go_wp2_with (first | (go_at_call 107; (with_reducible refine (clone_T b K (c2 (S (gl l0) i.toNat) (ev e)) _ HT.out).mono ?_); rintro e_ w5 ⟨rfl, ht5, hb5, hs5⟩; have HW5 := Aside0.mk (HW4.out.fresh hb5 ht5); obtain ⟨hf0, hf1, hf2, hf3⟩ := HW5.out.cells) | (at_lookup; refine wpList_lookup_R _ Try.underlying3 rfl _ _ 172 169 rfl Try.underlying172 (Try.zeroValue169 _) (W.heap.size + 1 + 1) (3 * i.toNat + 1) fL rfl HW5.out.ol e.f2 rfl (WalkArith.wf_i64 (by have := HE.out.2; unfold in64 at this; omega)) ?_) | (go_at_call 106; (with_reducible refine (join_nil w2.heap.size _).mono ?_); rintro e_ w6 ⟨rfl, hb6⟩; have HW6 := Aside0.mk (HW5.out.below hb6); obtain ⟨hg0, hg1, hg2, hg3⟩ := HW6.out.cells) | (at_mapUpdate; refine wpList_update_R _ Try.underlying3 rfl _ _ _ 172 169 rfl Try.underlying172 (W.heap.size + 1 + 1) (3 * i.toNat + 1) fL rfl HW6.out.ol (by unfold maxLen; omega) e.f2 rfl (WalkArith.wf_i64 (by have := HE.out.2; unfold in64 at this; omega)) (some w2.heap.size) rfl ?_; intro w7 ho7 hg7))
                      go_meet
                      case rel => exact ⟨_, _, _, ⟨by rw [S_free HG.out HV.out HF.out, show (S (gl l0) i.toNat).L (ev e).at_ = zeroT from HW4.out.zeroL hw, join_zero HN2.out]; exact HW6.out.putL hg7 ho7 (RefIs.self _ _ _) (fun y q => Nat.lt_irrefl _ (HW4.out.refC_lt q))⟩⟩
                  | some bu =>
                    rcases k56 with k56 | k56
                    all_goals
                      have k56b := decide_eq_true k56
                      go_wp2_with (first | (go_at_call 107; (with_reducible refine (clone_T b K (c2 (S (gl l0) i.toNat) (ev e)) _ HT.out).mono ?_); rintro e_ w5 ⟨rfl, ht5, hb5, hs5⟩; have HW5 := Aside0.mk (HW4.out.fresh hb5 ht5); obtain ⟨hf0, hf1, hf2, hf3⟩ := HW5.out.cells; have HT5 := Aside0.mk ht5) | (at_lookup; refine wpList_lookup_R _ Try.underlying3 rfl _ _ 172 169 rfl Try.underlying172 (Try.zeroValue169 _) (W.heap.size + 1 + 1) (3 * i.toNat + 1) fL rfl HW5.out.ol e.f2 rfl (WalkArith.wf_i64 (by have := HE.out.2; unfold in64 at this; omega)) ?_) | (go_at_call 106; (with_reducible refine (join_T w2.heap.size bu K (c2 (S (gl l0) i.toNat) (ev e)) ((S (gl l0) i.toNat).L e.f2) _ HT5.out (HW5.out.ownL hw) (fun q => by have := HW4.out.refL_lt hw; omega) hKl HN2.out).mono ?_); rintro e_ w6 ⟨rfl, ht6, hg6⟩; have HW6 := Aside0.mk (HW5.out.turnN (RefIs.self _ _ _) (fun y q => Nat.lt_irrefl _ (HW4.out.refC_lt q)) (fun y q => Nat.lt_irrefl _ (HW4.out.refW_lt q)) (fun y q => Nat.lt_irrefl _ (HW4.out.refL_lt q)) (fun r hr q => Nat.lt_irrefl _ (HW4.out.refO_lt hr q)) hg6 ht6); obtain ⟨hg0, hg1, hg2, hg3⟩ := HW6.out.cells) | (at_mapUpdate; refine wpList_update_R _ Try.underlying3 rfl _ _ _ 172 169 rfl Try.underlying172 (W.heap.size + 1 + 1) (3 * i.toNat + 1) fL rfl HW6.out.ol (by unfold maxLen; omega) e.f2 rfl (WalkArith.wf_i64 (by have := HE.out.2; unfold in64 at this; omega)) (some w2.heap.size) rfl ?_; intro w7 ho7 hg7))
                      go_meet
                      case rel => exact ⟨_, _, _, ⟨by rw [S_free HG.out HV.out HF.out]; exact HW6.out.putL hg7 ho7 (RefIs.self _ _ _) (fun y q => Nat.lt_irrefl _ (HW4.out.refC_lt q))⟩⟩
                · have HF : Aside0 (¬ frees (ev e)) := ⟨kf⟩
                  have kq : (¬ e.f1 = 5 ∧ ¬ e.f1 = 6) ∨ e.f3 = false := by
                    by_cases k3 : e.f3 = true
                    · left; exact ⟨fun q => kf ⟨Or.inl q, k3⟩, fun q => kf ⟨Or.inr q, k3⟩⟩
                    · right; simpa using k3
                  clear kf
                  rcases kq with ⟨q5, q6⟩ | q3
                  · have q5b := decide_eq_false q5
                    have q6b := decide_eq_false q6
                    go_wp2
                    go_meet
                    case rel => exact ⟨_, _, _, ⟨by rw [S_else HG.out HV.out k1 HF.out]; exact HW4.out.more (by omega)⟩⟩
                  · by_cases q5 : e.f1 = 5
                    · have q5b := decide_eq_true q5
                      go_wp2
                      go_meet
                      case rel => exact ⟨_, _, _, ⟨by rw [S_else HG.out HV.out k1 HF.out]; exact HW4.out.more (by omega)⟩⟩
                    · have q5b := decide_eq_false q5
                      by_cases q6 : e.f1 = 6
                      · have q6b := decide_eq_true q6
                        go_wp2
                        go_meet
                        case rel => exact ⟨_, _, _, ⟨by rw [S_else HG.out HV.out k1 HF.out]; exact HW4.out.more (by omega)⟩⟩
                      · have q6b := decide_eq_false q6
                        go_wp2
                        go_meet
                        case rel => exact ⟨_, _, _, ⟨by rw [S_else HG.out HV.out k1 HF.out]; exact HW4.out.more (by omega)⟩⟩
            case rest =>
              obtain ⟨fW', fL', τ3, HW5⟩ := hcut
              have HCC : Aside0 ((S (gl l0) (i.toNat + 1)).C e.f0 = c2 (S (gl l0) i.toNat) (ev e)) := ⟨by
                have h : S (gl l0) (i.toNat + 1) = stepS (S (gl l0) i.toNat) (gl l0 i.toNat) := rfl
                rw [h, HG.out]
                unfold stepS
                rw [if_pos HV.out]
                exact if_pos rfl⟩
              have HWF := Aside0.mk (WalkArith.wf_i64 (show -9223372036854775808 ≤ e.f0 ∧ e.f0 ≤ 9223372036854775807 from by have := HE.out.1; unfold in64 at this; omega))
              have HSO : ∀ {w w' : World} {n : Nat} {fC fW fL : Int → Option Nat} {τ : Nat → Option T} {vo : Value} {rs : List (Int × Option Nat)} {os : List (Int × T)}, WR w w' W.heap.size W.heap.size (W.heap.size + 1) (W.heap.size + 1 + 1) n K (some (be, e)) (S (gl l0) (i.toNat + 1)) fC fW fL τ vo rs os → fC e.f0 = some b → w'.cell? ⟨be, 0, none⟩ = some (.int .i64 e.f0) ∧ (Instr.lookup 169 (.map (some b)) (.int .i64 e.f0) false).run Try.prog w' = .ok (.int .i64 (c2 (S (gl l0) i.toNat) (ev e) e.f0)) w' := fun h hf => ⟨h.cells.1, by have q := town_look (h.ownC hf) HWF.out; rw [HCC.out] at q; exact q⟩
              have HSA := Aside0.mk @HSO
              clear HSO HW4 he0 he1 he2 he3
              have HWD := Aside0.mk (HW5.out.below (below_drew (Below.refl _ _)))
              have hS0 := HSA.out HW5.out HB.out
              have hSD := HSA.out HWD.out HB.out
              have HTD := Aside0.mk (HCC.out ▸ HWD.out.ownC HB.out)
              go_wp2
              go_region_held_law (fun w' => w'.cell? ⟨be, 0, none⟩ = some (.int .i64 e.f0) ∧ (Instr.lookup 169 (.map (some b)) (.int .i64 e.f0) false).run Try.prog w' = .ok (.int .i64 (c2 (S (gl l0) i.toNat) (ev e) e.f0)) w')
                (first | exact hS0 | exact hSD | exact hS6 | exact HSA.out (HW6.out.below ((Below.refl _ _).alloc (Nat.le_refl _) _)) HB.out | exact hS7)
                (first | (go_at_call 107; (with_reducible refine (clone_T b K (c2 (S (gl l0) i.toNat) (ev e)) _ HTD.out).mono ?_); rintro e_ w6 ⟨rfl, ht6, hb6, -⟩; have HW6 := Aside0.mk (HWD.out.fresh hb6 ht6); have hS6 := HSA.out HW6.out HB.out) | (refine Kd.R_append_step kSeen (w0 := W) (W := w6) W.heap.size (by rfl) (.tmp 106) (.tmp 114) 130 171 (.agg #[.int .i64 0, .map none]) 16 (by rfl) Try.underlying130 info171 rfl (by decide) (by omega) u3 rs ((c2 (S (gl l0) i.toNat) (ev e) e.f0, some wc.heap.size) : Int × Option Nat) [.int .i64 (c2 (S (gl l0) i.toNat) (ev e) e.f0), .map (some wc.heap.size)] (fun _ => True) (fun _ => False) (by rfl) (by rfl) (kSeen_mk _ _ _ _) (fun _ hk => hk.elim) (fun _ _ => trivial) HW6.out.out HW6.out.bel HW6.out.lo (by omega) ?_; intro v7 w7 ho7 hb7 hg7 hat7; have HW7 := Aside0.mk (HW6.out.snoc (o := (c2 (S (gl l0) i.toNat) (ev e) e.f0, c2 (S (gl l0) i.toNat) (ev e))) hg7 ho7 rfl (RefIs.self _ _ _) (fun y b' q q2 => by injection q2 with q2; subst q2; exact Nat.lt_irrefl _ (HWD.out.refC_lt q))); have hS7 := HSA.out HW7.out HB.out))
              all_goals
                simp only [List.getElem_toArray, List.getElem_cons_succ, List.getElem_cons_zero, List.setIfInBounds_toArray, List.set_cons_succ, List.set_cons_zero]
                go_wp2
                go_roundw
                case rel => exact ⟨i + 1, fC', fW', fL', _, _, by go_num, ⟨by omega, by omega⟩, ⟨by rw [hKK]; exact HW7.out.round i0 rfl (by rw [range_snoc, out_good HG.out HV.out]; rfl) (by omega)⟩⟩
                case measure => simp [intOf]; omega
          · have HV := Aside0.mk hv
            have hv2 : e.f1 < 0 ∨ 7 < e.f1 := by
              have h : ¬ (0 ≤ e.f1 ∧ e.f1 ≤ 7) := hv
              omega
            clear hv
            rcases hv2 with hv2 | hv2
            all_goals
              have hvb := decide_eq_true hv2
              go_wp2_with (at_builtin; refine Kd.R_append kSeen (w0 := W) W.heap.size (by rfl) (.tmp 63) (.tmp 65) 130 171 (.agg #[.int .i64 0, .map none]) 16 rfl Try.underlying130 info171 rfl (by decide) (by omega) u3 rs ((0, none) : Int × Option Nat) [.int .i64 0, .map none] (fun _ => True) (fun _ => False) rfl rfl (kSeen_mk _ _ _ _) (fun _ hk => hk.elim) (fun _ _ => trivial) HW3.out.out HW3.out.bel HW3.out.lo (by omega) ?_; intro v1 w1 ho1 hb1 hg1 hat1)
              go_roundw
              case rel => exact ⟨i + 1, fC', fW, fL, τ2, rs ++ [(0, none)], by go_num, ⟨by omega, by omega⟩, ⟨by rw [hKK]; exact (HW3.out.snoc (o := (0, zeroT)) hg1 ho1 rfl rfl (fun _ _ _ => by simp)).round i0 (S_bad HG.out HV.out) (by rw [range_snoc, out_bad HG.out HV.out]) (by omega)⟩⟩
              case measure => simp [intOf]; omega
    · have hltb := decide_eq_false hlt
      have hi : i.toNat = l0.length := by have := HI.out.2; omega
      go_wp2
      go_ret
      exact ⟨_, _, _, _, _, _, _, _, _, rfl, _, by rw [hi] at HW; exact HW.out⟩
structure SeenR (w : World) (B : Nat) (l : List S128) (vo : Value) : Prop where
  mk :: (out : ∃ (rs : List (Int × Option Nat)) (τ : Nat → Option T) (K : List Int), Kd.R kSeen 171 w B (fun _ => True) vo rs ∧ (∀ b t, τ b = some t → TOwn Try.prog 3 w b K t ∧ B ≤ b) ∧ rs.length = l.length ∧ ∀ (j : Nat) (r : Int × Option Nat), rs[j]? = some r → r.1 = (seenAt (gl l) j).1 ∧ RefIs τ r.2 (seenAt (gl l) j).2)
theorem WR.seen {w0 w : World} {B bc bw bl n : Nat} {K : List Int} {eo : Option (Nat × S128)} {s : St} {fC fW fL : Int → Option Nat} {τ : Nat → Option T} {vo : Value} {rs : List (Int × Option Nat)} {l : List S128} (h : WR w0 w B bc bw bl n K eo s fC fW fL τ vo rs ((List.range l.length).map (seenAt (gl l)))) : SeenR w B l vo := by
  refine ⟨rs, τ, K, h.out, fun b t ht => ⟨(h.maps b t ht).1, (h.maps b t ht).2.1⟩, by have := h.outs.1; simpa using this, fun j r hr => ?_⟩
  have hj : j < rs.length := (List.getElem?_eq_some_iff.1 hr).1
  have hj2 : j < l.length := by have := h.outs.1; simp at this; omega
  exact h.outs.2 j r (seenAt (gl l) j) hr (by simp [hj2])
theorem SeenR.below {w w' : World} {B : Nat} {l : List S128} {vo : Value} (h : SeenR w B l vo) (hb : Below w.heap.size w w') : SeenR w' B l vo := by
  obtain ⟨rs, τ, K, h1, h2, h3, h4⟩ := h.out
  exact ⟨rs, τ, K, Kd.R_below h1 hb, fun b t ht => ⟨(h2 b t ht).1.kept (grown_of_below hb none) (by simp), (h2 b t ht).2⟩, h3, h4⟩
theorem SeenR.slice {w : World} {B : Nat} {l : List S128} {vo : Value} (h : SeenR w B l vo) : ∃ A c, vo = .slice A l.length c := by
  obtain ⟨rs, τ, K, h1, h2, h3, h4⟩ := h.out
  obtain ⟨A, c, e⟩ := Kd.R_slice h1
  exact ⟨A, c, by rw [e, h3]⟩
theorem SeenR.at_ {w : World} {B : Nat} {l : List S128} {A : Option Addr} {c : Nat} (h : SeenR w B l (.slice A l.length c)) (i : Int) (h0 : 0 ≤ i) (h1 : i < l.length) : ∃ ad r, A = some ad ∧ w.cell? (ad.add (i.toNat * 2)) = some (.int .i64 (seenAt (gl l) i.toNat).1) ∧ w.cell? ⟨(ad.add (i.toNat * 2)).block, (ad.add (i.toNat * 2)).off + 1, none⟩ = some (.map r) ∧
    ∀ x : Int, (Lit.int .i64 x).wf = true → (Instr.lookup 169 (.map r) (.int .i64 x) false).run Try.prog w = .ok (.int .i64 ((seenAt (gl l) i.toNat).2 x)) w := by
  obtain ⟨rs, τ, K, hr, h2, h3, h4⟩ := h.out
  obtain ⟨A', c', e, hle, hC⟩ := Kd.R_reads hr
  injection e with e1 e2 e3
  subst e1 e3
  obtain ⟨ad, cs, hA, hlen, hK, hc⟩ := Kd.C_get hC ((0, none) : Int × Option Nat) i h0 (by omega)
  obtain ⟨q0, q1, rfl, z0, z1⟩ := hK
  have z0 : q0 = [.int .i64 (rs.getD i.toNat (0, none)).1] := z0
  have z1 : q1 = [.map (rs.getD i.toNat (0, none)).2] := z1
  subst z0 z1
  have hg : rs[i.toNat]? = some (rs.getD i.toNat (0, none)) := by
    rw [List.getD_eq_getElem?_getD, List.getElem?_eq_getElem (by omega : i.toNat < rs.length)]; rfl
  obtain ⟨k1, k2⟩ := h4 _ _ hg
  refine ⟨ad, (rs.getD i.toNat (0, none)).2, hA, ?_, by rw [← add_field _ _ 1 (by omega)]; exact hc 1 _ rfl, fun x hw => ?_⟩
  · have := hc 0 _ rfl
    rw [k1] at this
    exact this
  · cases hm : (rs.getD i.toNat (0, none)).2 with
    | none =>
      rw [hm] at k2
      have k2 : (seenAt (gl l) i.toNat).2 = zeroT := k2
      rw [k2]
      have := Maps.look_nil (w := w) false law3c Try.underlying169 (Try.zeroValue3 w) (keyOf_int_mk Try.underlying3 hw)
      exact this
    | some b =>
      rw [hm] at k2
      exact town_look (h2 b _ k2).1 hw
theorem walk_seen (l0 : List S128) (A0 : Option Addr) (c0 : Nat) (W : World) (hC : Kd.C k128 W A0 l0.length l0) (hc0 : l0.length ≤ c0) (hl : l0.length ≤ 1000000) (hok : ∀ e ∈ l0, EvOk e) :
    Calls Try.prog 81 #[.slice A0 l0.length c0] W fun e w' => ∃ A c, e = .returned (.slice A l0.length c) ∧ SeenR w' W.heap.size l0 (.slice A l0.length c) ∧ Below W.heap.size W w' := by
  refine (walk_calls l0 A0 c0 W hC hc0 hl hok).mono ?_
  rintro e w' ⟨bc, bw, bl, n, fC, fW, fL, τ, vo, rs, rfl, h⟩
  obtain ⟨A, c, rfl⟩ := h.seen.slice
  exact ⟨A, c, rfl, h.seen, h.bel⟩
set_option maxHeartbeats 4000000 in
set_option maxRecDepth 100000 in
theorem before_calls (l0 : List S128) (A0 : Option Addr) (c0 : Nat) (B : Nat) (AS : Option Addr) (cS : Nat) (i j : Int) (w : World) (hC : Kd.C k128 w A0 l0.length l0) (hc0 : l0.length ≤ c0) (hS : SeenR w B l0 (.slice AS l0.length cS)) (hok : ∀ e ∈ l0, EvOk e) (i0 : 0 ≤ i) (il : i < l0.length) (j0 : 0 ≤ j) (jl : j < l0.length) :
    Calls Try.prog 80 #[.slice A0 l0.length c0, .slice AS l0.length cS, .int .i64 i, .int .i64 j] w fun e w' => e = .returned (.bool (bef (gl l0) i.toNat j.toNat)) ∧ Below w.heap.size w w' := by
  obtain ⟨ad, hA, hx0, hx1, hx2, hx3⟩ := at_T128 hC i i0 il
  have HE := Aside0.mk (hok _ (rd_mem i0 il))
  obtain ⟨as_, r1, hAS, hy0, hy1, hyl⟩ := hS.at_ i i0 il
  obtain ⟨as2, r2, hAS2, hz0, hz1, hzl⟩ := hS.at_ j j0 jl
  obtain ⟨as3, r3, hAS3, hv0, hv1, hvl⟩ := (hS.below (below_drew (Below.refl _ w))).at_ j j0 jl
  subst hA hAS
  injection hAS2 with hAS2
  injection hAS3 with hAS3
  subst hAS2 hAS3
  obtain rfl : r3 = r2 := by
    have e := hv1.symm.trans hz1
    injection e with e
    injection e
  have hw0 : (Lit.int .i64 (rd_T128 l0 i).f0).wf = true := WalkArith.wf_i64 (by have := HE.out.1; unfold in64 at this; omega)
  have hlk := hzl _ hw0
  have hlkd := hvl _ hw0
  have HG := Aside0.mk (gl_rd l0 i)
  clear hyl hzl hvl hv0 hv1 hz0 hS hC hx1 hx2 hx3 hy1
  have HB : Aside0 (bef (gl l0) i.toNat j.toNat = (decide ((seenAt (gl l0) i.toNat).1 > 0) && decide ((seenAt (gl l0) j.toNat).2 (rd_T128 l0 i).f0 ≥ (seenAt (gl l0) i.toNat).1))) := ⟨rfl⟩
  generalize (seenAt (gl l0) i.toNat).1 = o at *
  generalize (seenAt (gl l0) j.toNat).2 (rd_T128 l0 i).f0 = kn at *
  have ic : i < (l0.length : Int) := il
  have jc : j < (l0.length : Int) := jl
  have p0 := eq_true i0
  have p1 := eq_true ic
  have p2 := eq_true j0
  have p3 := eq_true jc
  by_cases ho : o > 0
  · have hob := decide_eq_true ho
    have HOB := Aside0.mk hob
    by_cases hk : kn ≥ o
    · have hkb := decide_eq_true hk
      have HKB := Aside0.mk hkb
      go_enter Try.func80, Try.ntmps80
      go_wp2
      go_region_held3 (fun w' => w'.cell? (as_.add (i.toNat * 2)) = some (.int .i64 o) ∧ w'.cell? ⟨(as_.add (j.toNat * 2)).block, (as_.add (j.toNat * 2)).off + 1, none⟩ = some (.map r3) ∧ w'.cell? (ad.add (i.toNat * 4)) = some (.int .i64 (rd_T128 l0 i).f0) ∧ (Instr.lookup 169 (.map r3) (.int .i64 (rd_T128 l0 i).f0) false).run Try.prog w' = .ok (.int .i64 kn) w') (first | exact ⟨hy0, hz1, hx0, hlk⟩ | exact ⟨hy0, hz1, hx0, hlkd⟩) (fail)
      go_wp2
      go_ret
      exact ⟨by rw [HB.out, HOB.out, HKB.out]; rfl, below_drew (Below.refl _ _)⟩
    · have hkb := decide_eq_false hk
      have HKB := Aside0.mk hkb
      go_enter Try.func80, Try.ntmps80
      go_wp2
      go_region_held3 (fun w' => w'.cell? (as_.add (i.toNat * 2)) = some (.int .i64 o) ∧ w'.cell? ⟨(as_.add (j.toNat * 2)).block, (as_.add (j.toNat * 2)).off + 1, none⟩ = some (.map r3) ∧ w'.cell? (ad.add (i.toNat * 4)) = some (.int .i64 (rd_T128 l0 i).f0) ∧ (Instr.lookup 169 (.map r3) (.int .i64 (rd_T128 l0 i).f0) false).run Try.prog w' = .ok (.int .i64 kn) w') (first | exact ⟨hy0, hz1, hx0, hlk⟩ | exact ⟨hy0, hz1, hx0, hlkd⟩) (fail)
      go_wp2
      go_ret
      exact ⟨by rw [HB.out, HOB.out, HKB.out]; rfl, below_drew (Below.refl _ _)⟩
  · have hob := decide_eq_false ho
    have HOB := Aside0.mk hob
    go_enter Try.func80, Try.ntmps80
    go_wp2
    refine start_ (n := 26) (S := fun w' => w'.cell? (as_.add (i.toNat * 2)) = some (.int .i64 o)) (ds := []) #[false, false, false, false, false, false, false, false, false, false, false, false, false, false, false, false, false, false, false, false, false, false, false, false, false, false] (by kernel_rfl) rfl rfl hy0 (fun hHeld => ?_)
    refine pure_ (i := 0) (N := some 9) (v := ?_) (a' := ?_) #[true, false, false, false, false, false, false, false, false, false, false, false, false, false, false, false, false, false, false, false, false, false, false, false, false, false] rfl rfl (by kernel_rfl) (fun _ _ _ h => h) (Or.inl ⟨by rfl, ?_⟩) ?_ ?_
    rotate_left
    · intro w'
      go_simp
      with_reducible rfl
    rotate_left
    · simp only [Act.put, List.setIfInBounds_toArray, List.set_cons_zero, List.set_cons_succ]
      rfl
    refine pure_ (i := 1) (N := some 10) (v := ?_) (a' := ?_) #[true, true, false, false, false, false, false, false, false, false, false, false, false, false, false, false, false, false, false, false, false, false, false, false, false, false] rfl rfl (by kernel_rfl) (fun _ _ _ h => h) (Or.inl ⟨by rfl, ?_⟩) ?_ ?_
    rotate_left
    · intro w'
      go_simp
      with_reducible rfl
    rotate_left
    · simp only [Act.put, List.setIfInBounds_toArray, List.set_cons_zero, List.set_cons_succ]
      rfl
    refine pure_ (i := 2) (N := some 11) (v := ?_) (a' := ?_) #[true, true, true, false, false, false, false, false, false, false, false, false, false, false, false, false, false, false, false, false, false, false, false, false, false, false] rfl rfl (by kernel_rfl) (fun _ _ _ h => h) (Or.inl ⟨by rfl, ?_⟩) ?_ ?_
    rotate_left
    · intro w'
      go_simp
      with_reducible rfl
    rotate_left
    · simp only [Act.put, List.setIfInBounds_toArray, List.set_cons_zero, List.set_cons_succ]
      rfl
    refine pure_ (i := 3) (N := some 12) (v := ?_) (a' := ?_) #[true, true, true, true, false, false, false, false, false, false, false, false, false, false, false, false, false, false, false, false, false, false, false, false, false, false] rfl rfl (by kernel_rfl) (fun _ _ _ h => h) (Or.inl ⟨by rfl, ?_⟩) ?_ ?_
    rotate_left
    · intro w'
      go_simp
      with_reducible rfl
    rotate_left
    · simp only [Act.put, List.setIfInBounds_toArray, List.set_cons_zero, List.set_cons_succ]
      rfl
    refine take_ (i := 4) (N := some 13) (v := ?_) (a' := ?_) #[true, true, true, true, true, false, false, false, false, false, false, false, false, false, false, false, false, false, false, false, false, false, false, false, false, false] rfl rfl (by kernel_rfl) (fun _ _ _ h => h) (Or.inl ⟨by rfl, ?_⟩) hHeld ?_ ?_
    rotate_left
    · rintro w' s0
      go_simp
      with_reducible rfl
    rotate_left
    · simp only [Act.put, List.setIfInBounds_toArray, List.set_cons_zero, List.set_cons_succ]
      rfl
    refine pure_ (i := 5) (N := some 14) (v := ?_) (a' := ?_) #[true, true, true, true, true, true, false, false, false, false, false, false, false, false, false, false, false, false, false, false, false, false, false, false, false, false] rfl rfl (by kernel_rfl) (fun _ _ _ h => h) (Or.inl ⟨by rfl, ?_⟩) ?_ ?_
    rotate_left
    · intro w'
      go_simp
      with_reducible rfl
    rotate_left
    · simp only [Act.put, List.setIfInBounds_toArray, List.set_cons_zero, List.set_cons_succ]
      rfl
    refine pure_ (i := 6) (N := some 15) (v := ?_) (a' := ?_) #[true, true, true, true, true, true, true, false, false, false, false, false, false, false, false, false, false, false, false, false, false, false, false, false, false, false] rfl rfl (by kernel_rfl) (fun _ _ _ h => h) (Or.inl ⟨by rfl, ?_⟩) ?_ ?_
    rotate_left
    · intro w'
      go_simp
      with_reducible rfl
    rotate_left
    · simp only [Act.put, List.setIfInBounds_toArray, List.set_cons_zero, List.set_cons_succ]
      rfl
    refine pure_ (i := 7) (N := some 16) (v := undef) (a' := ?_) #[true, true, true, true, true, true, true, true, false, false, false, false, false, false, false, false, false, false, false, false, false, false, false, false, false, false] rfl rfl (by kernel_rfl) (fun _ _ _ h => h) (Or.inr ⟨by rfl, rfl⟩) ?_ ?_
    rotate_left
    · simp only [Act.put, List.setIfInBounds_toArray, List.set_cons_zero, List.set_cons_succ]
      rfl
    refine pure_ (i := 8) (N := some 17) (v := undef) (a' := ?_) #[true, true, true, true, true, true, true, true, true, false, false, false, false, false, false, false, false, false, false, false, false, false, false, false, false, false] rfl rfl (by kernel_rfl) (fun _ _ _ h => h) (Or.inr ⟨by rfl, rfl⟩) ?_ ?_
    rotate_left
    · simp only [Act.put, List.setIfInBounds_toArray, List.set_cons_zero, List.set_cons_succ]
      rfl
    refine pure_ (i := 9) (N := some 18) (v := undef) (a' := ?_) #[true, true, true, true, true, true, true, true, true, true, false, false, false, false, false, false, false, false, false, false, false, false, false, false, false, false] rfl rfl (by kernel_rfl) (fun _ _ _ h => h) (Or.inr ⟨by rfl, rfl⟩) ?_ ?_
    rotate_left
    · simp only [Act.put, List.setIfInBounds_toArray, List.set_cons_zero, List.set_cons_succ]
      rfl
    refine pure_ (i := 10) (N := some 19) (v := undef) (a' := ?_) #[true, true, true, true, true, true, true, true, true, true, true, false, false, false, false, false, false, false, false, false, false, false, false, false, false, false] rfl rfl (by kernel_rfl) (fun _ _ _ h => h) (Or.inr ⟨by rfl, rfl⟩) ?_ ?_
    rotate_left
    · simp only [Act.put, List.setIfInBounds_toArray, List.set_cons_zero, List.set_cons_succ]
      rfl
    refine pure_ (i := 11) (N := some 20) (v := undef) (a' := ?_) #[true, true, true, true, true, true, true, true, true, true, true, true, false, false, false, false, false, false, false, false, false, false, false, false, false, false] rfl rfl (by kernel_rfl) (fun _ _ _ h => h) (Or.inr ⟨by rfl, rfl⟩) ?_ ?_
    rotate_left
    · simp only [Act.put, List.setIfInBounds_toArray, List.set_cons_zero, List.set_cons_succ]
      rfl
    refine pure_ (i := 12) (N := some 21) (v := undef) (a' := ?_) #[true, true, true, true, true, true, true, true, true, true, true, true, true, false, false, false, false, false, false, false, false, false, false, false, false, false] rfl rfl (by kernel_rfl) (fun _ _ _ h => h) (Or.inr ⟨by rfl, rfl⟩) ?_ ?_
    rotate_left
    · simp only [Act.put, List.setIfInBounds_toArray, List.set_cons_zero, List.set_cons_succ]
      rfl
    refine pure_ (i := 13) (N := some 22) (v := undef) (a' := ?_) #[true, true, true, true, true, true, true, true, true, true, true, true, true, true, false, false, false, false, false, false, false, false, false, false, false, false] rfl rfl (by kernel_rfl) (fun _ _ _ h => h) (Or.inr ⟨by rfl, rfl⟩) ?_ ?_
    rotate_left
    · simp only [Act.put, List.setIfInBounds_toArray, List.set_cons_zero, List.set_cons_succ]
      rfl
    refine pure_ (i := 14) (N := some 23) (v := undef) (a' := ?_) #[true, true, true, true, true, true, true, true, true, true, true, true, true, true, true, false, false, false, false, false, false, false, false, false, false, false] rfl rfl (by kernel_rfl) (fun _ _ _ h => h) (Or.inr ⟨by rfl, rfl⟩) ?_ ?_
    rotate_left
    · simp only [Act.put, List.setIfInBounds_toArray, List.set_cons_zero, List.set_cons_succ]
      rfl
    refine pure_ (i := 15) (N := some 24) (v := undef) (a' := ?_) #[true, true, true, true, true, true, true, true, true, true, true, true, true, true, true, true, false, false, false, false, false, false, false, false, false, false] rfl rfl (by kernel_rfl) (fun _ _ _ h => h) (Or.inr ⟨by rfl, rfl⟩) ?_ ?_
    rotate_left
    · simp only [Act.put, List.setIfInBounds_toArray, List.set_cons_zero, List.set_cons_succ]
      rfl
    refine pure_ (i := 16) (N := some 25) (v := undef) (a' := ?_) #[true, true, true, true, true, true, true, true, true, true, true, true, true, true, true, true, true, false, false, false, false, false, false, false, false, false] rfl rfl (by kernel_rfl) (fun _ _ _ h => h) (Or.inr ⟨by rfl, rfl⟩) ?_ ?_
    rotate_left
    · simp only [Act.put, List.setIfInBounds_toArray, List.set_cons_zero, List.set_cons_succ]
      rfl
    refine pure_ (i := 17) (N := some 26) (v := undef) (a' := ?_) #[true, true, true, true, true, true, true, true, true, true, true, true, true, true, true, true, true, true, false, false, false, false, false, false, false, false] rfl rfl (by kernel_rfl) (fun _ _ _ h => h) (Or.inr ⟨by rfl, rfl⟩) ?_ ?_
    rotate_left
    · simp only [Act.put, List.setIfInBounds_toArray, List.set_cons_zero, List.set_cons_succ]
      rfl
    refine pure_ (i := 18) (N := some 27) (v := undef) (a' := ?_) #[true, true, true, true, true, true, true, true, true, true, true, true, true, true, true, true, true, true, true, false, false, false, false, false, false, false] rfl rfl (by kernel_rfl) (fun _ _ _ h => h) (Or.inr ⟨by rfl, rfl⟩) ?_ ?_
    rotate_left
    · simp only [Act.put, List.setIfInBounds_toArray, List.set_cons_zero, List.set_cons_succ]
      rfl
    refine pure_ (i := 19) (N := some 28) (v := undef) (a' := ?_) #[true, true, true, true, true, true, true, true, true, true, true, true, true, true, true, true, true, true, true, true, false, false, false, false, false, false] rfl rfl (by kernel_rfl) (fun _ _ _ h => h) (Or.inr ⟨by rfl, rfl⟩) ?_ ?_
    rotate_left
    · simp only [Act.put, List.setIfInBounds_toArray, List.set_cons_zero, List.set_cons_succ]
      rfl
    refine pure_ (i := 20) (N := some 29) (v := undef) (a' := ?_) #[true, true, true, true, true, true, true, true, true, true, true, true, true, true, true, true, true, true, true, true, true, false, false, false, false, false] rfl rfl (by kernel_rfl) (fun _ _ _ h => h) (Or.inr ⟨by rfl, rfl⟩) ?_ ?_
    rotate_left
    · simp only [Act.put, List.setIfInBounds_toArray, List.set_cons_zero, List.set_cons_succ]
      rfl
    refine pure_ (i := 21) (N := some 30) (v := undef) (a' := ?_) #[true, true, true, true, true, true, true, true, true, true, true, true, true, true, true, true, true, true, true, true, true, true, false, false, false, false] rfl rfl (by kernel_rfl) (fun _ _ _ h => h) (Or.inr ⟨by rfl, rfl⟩) ?_ ?_
    rotate_left
    · simp only [Act.put, List.setIfInBounds_toArray, List.set_cons_zero, List.set_cons_succ]
      rfl
    refine pure_ (i := 22) (N := some 31) (v := undef) (a' := ?_) #[true, true, true, true, true, true, true, true, true, true, true, true, true, true, true, true, true, true, true, true, true, true, true, false, false, false] rfl rfl (by kernel_rfl) (fun _ _ _ h => h) (Or.inr ⟨by rfl, rfl⟩) ?_ ?_
    rotate_left
    · simp only [Act.put, List.setIfInBounds_toArray, List.set_cons_zero, List.set_cons_succ]
      rfl
    refine pure_ (i := 23) (N := some 32) (v := undef) (a' := ?_) #[true, true, true, true, true, true, true, true, true, true, true, true, true, true, true, true, true, true, true, true, true, true, true, true, false, false] rfl rfl (by kernel_rfl) (fun _ _ _ h => h) (Or.inr ⟨by rfl, rfl⟩) ?_ ?_
    rotate_left
    · simp only [Act.put, List.setIfInBounds_toArray, List.set_cons_zero, List.set_cons_succ]
      rfl
    refine pure_ (i := 24) (N := some 33) (v := ?_) (a' := ?_) #[true, true, true, true, true, true, true, true, true, true, true, true, true, true, true, true, true, true, true, true, true, true, true, true, true, false] rfl rfl (by kernel_rfl) (fun _ _ _ h => h) (Or.inl ⟨by rfl, ?_⟩) ?_ ?_
    rotate_left
    · intro w'
      go_simp
      with_reducible rfl
    rotate_left
    · simp only [Act.put, List.setIfInBounds_toArray, List.set_cons_zero, List.set_cons_succ]
      rfl
    refine pure_ (i := 25) (N := some 8) (v := ?_) (a' := ?_) #[true, true, true, true, true, true, true, true, true, true, true, true, true, true, true, true, true, true, true, true, true, true, true, true, true, true] rfl rfl (by kernel_rfl) (fun _ _ _ h => h) (Or.inl ⟨by rfl, ?_⟩) ?_ ?_
    rotate_left
    · intro w'
      go_simp
      with_reducible rfl
    rotate_left
    · simp only [Act.put, List.setIfInBounds_toArray, List.set_cons_zero, List.set_cons_succ]
      rfl
    refine done_ (by kernel_rfl) ?_
    go_wp2
    go_ret
    exact ⟨by rw [HB.out, HOB.out, Bool.false_and]; rfl, below_drew (Below.refl _ _)⟩
def EvB (e : S128) : Bool := decide (-9223372036854775808 ≤ e.f0) && decide (e.f0 ≤ 9223372036854775807) && decide (-9223372036854775808 ≤ e.f2) && decide (e.f2 ≤ 9223372036854775807)
theorem evB {e : S128} (h : EvB e = true) : EvOk e := by
  unfold EvB at h
  simp only [Bool.and_eq_true, decide_eq_true_iff] at h
  exact ⟨⟨h.1.1.1, h.1.1.2⟩, h.1.2, h.2⟩
def evsB (l : List S128) : Bool := decide (l.length ≤ 1000000) && l.all EvB
theorem evsB_spec {l : List S128} (h : evsB l = true) : l.length ≤ 1000000 ∧ ∀ e ∈ l, EvOk e := by
  unfold evsB at h
  rw [Bool.and_eq_true, decide_eq_true_iff, List.all_eq_true] at h
  exact ⟨h.1, fun e he => evB (h.2 e he)⟩
def clock_Before.f (l0 : List S128) (a1 a2 : Int) : Option Bool := if evsB l0 = true then some (decide (0 ≤ a1) && decide (a1 < a2) && decide (a2 < l0.length) && bef (gl l0) a1.toNat a2.toNat) else none
set_option maxHeartbeats 1000000 in
set_option maxRecDepth 100000 in
theorem clock_Before.calls (A0 : Option Addr) (c0 : Nat) (l0 : List S128) (a1 a2 : Int) (r : Bool) (w : World) (hr0 : Kd.C k128 w A0 l0.length l0) (hc0 : l0.length ≤ c0) (h : clock_Before.f l0 a1 a2 = some r) :
    Calls Try.prog 27 #[.slice A0 l0.length c0, .int .i64 a1, .int .i64 a2] w fun e w' => e = .returned (.bool r) ∧ Below w.heap.size w w' := by
  unfold clock_Before.f at h
  by_cases hok : evsB l0 = true
  · rw [if_pos hok] at h
    obtain ⟨hl, hok⟩ := evsB_spec hok
    have HR := Aside0.mk (Option.some.inj h)
    have HOK := Aside0.mk hok
    have HC := Aside0.mk hr0
    clear h hok hr0
    by_cases h0 : 0 ≤ a1
    · have h0b := decide_eq_true h0
      by_cases h1 : a1 < a2
      · have h1b := decide_eq_true h1
        by_cases h2 : a2 < (l0.length : Int)
        · have h2b := decide_eq_true h2
          have HRR : Aside0 (bef (gl l0) a1.toNat a2.toNat = r) := ⟨by have := HR.out; rw [decide_eq_true h0, decide_eq_true h1, decide_eq_true h2] at this; simpa using this⟩
          have hi : a1 < (l0.length : Int) := by omega
          have hj : 0 ≤ a2 := by omega
          go_enter Try.func27, Try.ntmps27
          go_wp2_with (first | (go_at_call 81; (with_reducible refine (walk_seen l0 A0 c0 _ HC.out hc0 hl HOK.out).mono ?_); rintro e_ w1 ⟨AS, cS, rfl, hs1, hb1⟩; have HS1 := Aside0.mk hs1; have HB1 := Aside0.mk hb1) | (go_at_call 80; (with_reducible refine (before_calls l0 A0 c0 _ AS cS a1 a2 _ (Kd.C_below HC.out HB1.out) hc0 HS1.out HOK.out h0 hi hj h2).mono ?_); rintro e_ w2 ⟨rfl, hb2⟩; have HB2 := Aside0.mk hb2))
          go_ret
          exact ⟨by rw [HRR.out]; rfl, HB1.out.trans (HB2.out.mono HB1.out.size)⟩
        · have h2b := decide_eq_false h2
          have HRR : Aside0 (false = r) := ⟨by have := HR.out; rw [decide_eq_false h2] at this; simpa using this⟩
          go_enter Try.func27, Try.ntmps27
          go_wp2
          go_ret
          exact ⟨by rw [← HRR.out]; rfl, Below.refl _ _⟩
      · have h1b := decide_eq_false h1
        have HRR : Aside0 (false = r) := ⟨by have := HR.out; rw [decide_eq_false h1] at this; simpa using this⟩
        go_enter Try.func27, Try.ntmps27
        go_wp2
        go_ret
        exact ⟨by rw [← HRR.out]; rfl, Below.refl _ _⟩
    · have h0b := decide_eq_false h0
      have HRR : Aside0 (false = r) := ⟨by have := HR.out; rw [decide_eq_false h0] at this; simpa using this⟩
      go_enter Try.func27, Try.ntmps27
      go_wp2
      go_ret
      exact ⟨by rw [← HRR.out]; rfl, Below.refl _ _⟩
  · rw [if_neg hok] at h; cases h
open Go.RowKit Go.Proofs.YtlcnckbmolefpaaW.PrintWords Go.Proofs.YtlcnckbmolefpaaW.PrintLast Go.Proofs.YtlcnckbmolefpaaW.PrintMore
attribute [local go_sem] max2_int min2_int max_two min_two max_three min_three max_four min_four   -- for this text's walks alone
/-! ### clock_plain: function 82 -/
def clock_plain.f (a0_0 : Int) (a0_1 : Int) (a0_2 : Int) (a0_3 : Bool) : Option (Bool) := if a0_1 = 2 then (some true) else (some (a0_1 == 3))
set_option maxHeartbeats 8000000 in
set_option maxRecDepth 100000 in
theorem clock_plain.calls (a0_0 : Int) (a0_1 : Int) (a0_2 : Int) (a0_3 : Bool) (r : Bool) (w : World) (h : clock_plain.f a0_0 a0_1 a0_2 a0_3 = some r) :
    Calls Try.prog 82 #[.agg #[.int .i64 a0_0, .int .i64 a0_1, .int .i64 a0_2, .bool a0_3]] w fun e w' => e = .returned (.bool r) ∧ Below w.heap.size w w' := by
  have hu128 := Try.underlying128
  have HB := Aside0.mk (Below.refl w.heap.size w)
  have H : (if a0_1 = 2 then (some true) else (some (a0_1 == 3))) = some r := h
  clear h
  by_cases c2 : a0_1 = 2
  · rw [if_pos c2] at H
    have c2b0 : (a0_1 == 2) = true := beq_iff_eq.mpr c2
    have c2b1 : (a0_1 != 2) = false := bne_eq_false_iff_eq.mpr c2
    clear c2
    obtain rfl := Option.some.inj H
    go_enter Try.func82, Try.ntmps82
    go_wp2_with (first | ((with_reducible refine gate_dst (N := 1) rfl ?_); refine box_event ?hg (N := 1) ?hd (cs := #[.int .i64 a0_0, .int .i64 a0_1, .int .i64 a0_2, .bool a0_3]) (t := 128) ?hr ?_; (case hd => rfl); (case hg => rfl); (case hr => first | (go_simp; done) | (go_simp; rfl)); intro gb179 hg w3 hbox hb; have n0_ := Aside0.mk (below_step (by repeat (first | (with_reducible first | exact HB.out | apply below_alloc | apply pw_below_drewN | apply below_drew1) | exact HB.out)) hb); have n1_ := Aside0.mk (hbox); have n2_ := Aside0.mk ((by rw [hg]; exact (below_size (by repeat (first | (with_reducible first | exact HB.out | apply below_alloc | apply pw_below_drewN | apply below_drew1) | exact HB.out))) : w.heap.size ≤ gb179)); have n3_ := Aside0.mk ((by rw [hg]; exact (below_size (by repeat (first | (with_reducible first | exact HB.out | apply below_alloc | apply pw_below_drewN | apply below_drew1) | exact HB.out))) : w.heap.size ≤ gb179)); clear HB; have HB := n0_; have BK179 := n1_; have GW179 := n2_; have GE179 := n3_; clear n0_ n1_ n2_ n3_; clear hb hbox hg; have hcz4_0 : w3.cell? ⟨gb179, 0, none⟩ = some (.int .i64 a0_0) := (blk_cell BK179.out 0).trans rfl; have hcz4_1 : w3.cell? ⟨gb179, 1, none⟩ = some (.int .i64 a0_1) := (blk_cell BK179.out 1).trans rfl; have hcz4_2 : w3.cell? ⟨gb179, 2, none⟩ = some (.int .i64 a0_2) := (blk_cell BK179.out 2).trans rfl; have hcz4_3 : w3.cell? ⟨gb179, 3, none⟩ = some (.bool a0_3) := (blk_cell BK179.out 3).trans rfl; have hfz4_0 := blk_frozen BK179.out 0; have hfz4_1 := blk_frozen BK179.out 1; have hfz4_2 := blk_frozen BK179.out 2; have hfz4_3 := blk_frozen BK179.out 3))
    go_ret
    exact ⟨by first | rfl | (simp [errW_none, errW_some] <;> rfl) | (simp [*, errW_none, errW_some] <;> rfl), by repeat (first | (with_reducible first | exact HB.out | apply below_alloc | apply pw_below_drewN | apply below_drew1 | refine below_set ?_ GE179.out) | exact HB.out)⟩
  · rw [if_neg c2] at H
    have c2b0 : (a0_1 == 2) = false := beq_eq_false_iff_ne.mpr c2
    have c2b1 : (a0_1 != 2) = true := bne_iff_ne.mpr c2
    obtain rfl := Option.some.inj H
    go_enter Try.func82, Try.ntmps82
    go_wp2_with (first | ((with_reducible refine gate_dst (N := 1) rfl ?_); refine box_event ?hg (N := 1) ?hd (cs := #[.int .i64 a0_0, .int .i64 a0_1, .int .i64 a0_2, .bool a0_3]) (t := 128) ?hr ?_; (case hd => rfl); (case hg => rfl); (case hr => first | (go_simp; done) | (go_simp; rfl)); intro gb179 hg w5 hbox hb; have n0_ := Aside0.mk (below_step (by repeat (first | (with_reducible first | exact HB.out | apply below_alloc | apply pw_below_drewN | apply below_drew1) | exact HB.out)) hb); have n1_ := Aside0.mk (hbox); have n2_ := Aside0.mk ((by rw [hg]; exact (below_size (by repeat (first | (with_reducible first | exact HB.out | apply below_alloc | apply pw_below_drewN | apply below_drew1) | exact HB.out))) : w.heap.size ≤ gb179)); have n3_ := Aside0.mk ((by rw [hg]; exact (below_size (by repeat (first | (with_reducible first | exact HB.out | apply below_alloc | apply pw_below_drewN | apply below_drew1) | exact HB.out))) : w.heap.size ≤ gb179)); clear HB; have HB := n0_; have BK179 := n1_; have GW179 := n2_; have GE179 := n3_; clear n0_ n1_ n2_ n3_; clear hb hbox hg; have hcz6_0 : w5.cell? ⟨gb179, 0, none⟩ = some (.int .i64 a0_0) := (blk_cell BK179.out 0).trans rfl; have hcz6_1 : w5.cell? ⟨gb179, 1, none⟩ = some (.int .i64 a0_1) := (blk_cell BK179.out 1).trans rfl; have hcz6_2 : w5.cell? ⟨gb179, 2, none⟩ = some (.int .i64 a0_2) := (blk_cell BK179.out 2).trans rfl; have hcz6_3 : w5.cell? ⟨gb179, 3, none⟩ = some (.bool a0_3) := (blk_cell BK179.out 3).trans rfl; have hfz6_0 := blk_frozen BK179.out 0; have hfz6_1 := blk_frozen BK179.out 1; have hfz6_2 := blk_frozen BK179.out 2; have hfz6_3 := blk_frozen BK179.out 3))
    go_ret
    exact ⟨by first | rfl | (simp [errW_none, errW_some] <;> rfl) | (simp [*, errW_none, errW_some] <;> rfl), by repeat (first | (with_reducible first | exact HB.out | apply below_alloc | apply pw_below_drewN | apply below_drew1 | refine below_set ?_ GE179.out) | exact HB.out)⟩
/-! ### clock_clash: function 83 -/
def clock_clash.f (a0_0 : Int) (a0_1 : Int) (a0_2 : Int) (a0_3 : Bool) (a1_0 : Int) (a1_1 : Int) (a1_2 : Int) (a1_3 : Bool) : Option (Bool) := (clock_plain.f a0_0 a0_1 a0_2 a0_3).bind fun t182 => (if t182 = true then ((clock_plain.f a1_0 a1_1 a1_2 a1_3).bind fun t183 => (if t183 = true then (if a0_2 = a1_2 then (if a0_0 = a1_0 then (some false) else (if a0_1 = 3 then (some true) else (some (a1_1 == 3)))) else (some false)) else (some false))) else (some false))
set_option maxHeartbeats 8000000 in
set_option maxRecDepth 100000 in
theorem clock_clash.calls (a0_0 : Int) (a0_1 : Int) (a0_2 : Int) (a0_3 : Bool) (a1_0 : Int) (a1_1 : Int) (a1_2 : Int) (a1_3 : Bool) (r : Bool) (w : World) (h : clock_clash.f a0_0 a0_1 a0_2 a0_3 a1_0 a1_1 a1_2 a1_3 = some r) :
    Calls Try.prog 83 #[.agg #[.int .i64 a0_0, .int .i64 a0_1, .int .i64 a0_2, .bool a0_3], .agg #[.int .i64 a1_0, .int .i64 a1_1, .int .i64 a1_2, .bool a1_3]] w fun e w' => e = .returned (.bool r) ∧ Below w.heap.size w w' := by
  have hu128 := Try.underlying128
  have HB := Aside0.mk (Below.refl w.heap.size w)
  have H : ((clock_plain.f a0_0 a0_1 a0_2 a0_3).bind fun t182 => (if t182 = true then ((clock_plain.f a1_0 a1_1 a1_2 a1_3).bind fun t183 => (if t183 = true then (if a0_2 = a1_2 then (if a0_0 = a1_0 then (some false) else (if a0_1 = 3 then (some true) else (some (a1_1 == 3)))) else (some false)) else (some false))) else (some false))) = some r := h
  clear h
  replace H := Option.bind_eq_some_iff.mp H
  obtain ⟨t182, A30, H⟩ := H
  replace H : (if t182 = true then ((clock_plain.f a1_0 a1_1 a1_2 a1_3).bind fun t183 => (if t183 = true then (if a0_2 = a1_2 then (if a0_0 = a1_0 then (some false) else (if a0_1 = 3 then (some true) else (some (a1_1 == 3)))) else (some false)) else (some false))) else (some false)) = some r := H
  have A3 := Aside0.mk A30
  clear A30
  by_cases c4 : t182 = true
  · subst c4
    have H1 : ((clock_plain.f a1_0 a1_1 a1_2 a1_3).bind fun t183 => (if t183 = true then (if a0_2 = a1_2 then (if a0_0 = a1_0 then (some false) else (if a0_1 = 3 then (some true) else (some (a1_1 == 3)))) else (some false)) else (some false))) = some r := by rw [if_pos rfl] at H; exact H
    clear H
    have H := H1
    clear H1
    replace H := Option.bind_eq_some_iff.mp H
    obtain ⟨t183, A50, H⟩ := H
    replace H : (if t183 = true then (if a0_2 = a1_2 then (if a0_0 = a1_0 then (some false) else (if a0_1 = 3 then (some true) else (some (a1_1 == 3)))) else (some false)) else (some false)) = some r := H
    have A5 := Aside0.mk A50
    clear A50
    by_cases c6 : t183 = true
    · subst c6
      have H1 : (if a0_2 = a1_2 then (if a0_0 = a1_0 then (some false) else (if a0_1 = 3 then (some true) else (some (a1_1 == 3)))) else (some false)) = some r := by rw [if_pos rfl] at H; exact H
      clear H
      have H := H1
      clear H1
      by_cases c7 : a0_2 = a1_2
      · rw [if_pos c7] at H
        have c7b0 : (a0_2 == a1_2) = true := beq_iff_eq.mpr c7
        have c7b1 : (a0_2 != a1_2) = false := bne_eq_false_iff_eq.mpr c7
        clear c7
        by_cases c8 : a0_0 = a1_0
        · rw [if_pos c8] at H
          have c8b0 : (a0_0 == a1_0) = true := beq_iff_eq.mpr c8
          have c8b1 : (a0_0 != a1_0) = false := bne_eq_false_iff_eq.mpr c8
          clear c8
          obtain rfl := Option.some.inj H
          go_enter Try.func83, Try.ntmps83
          go_wp2_with (first | ((with_reducible refine gate_dst (N := 2) rfl ?_); refine box_event ?hg (N := 2) ?hd (cs := #[.int .i64 a0_0, .int .i64 a0_1, .int .i64 a0_2, .bool a0_3]) (t := 128) ?hr ?_; (case hd => rfl); (case hg => rfl); (case hr => first | (go_simp; done) | (go_simp; rfl)); intro gb180 hg w9 hbox hb; have n0_ := Aside0.mk (below_step (by repeat (first | (with_reducible first | exact HB.out | apply below_alloc | apply pw_below_drewN | apply below_drew1) | exact HB.out)) hb); have n1_ := Aside0.mk (hbox); have n2_ := Aside0.mk ((by rw [hg]; exact (below_size (by repeat (first | (with_reducible first | exact HB.out | apply below_alloc | apply pw_below_drewN | apply below_drew1) | exact HB.out))) : w.heap.size ≤ gb180)); have n3_ := Aside0.mk ((by rw [hg]; exact (below_size (by repeat (first | (with_reducible first | exact HB.out | apply below_alloc | apply pw_below_drewN | apply below_drew1) | exact HB.out))) : w.heap.size ≤ gb180)); clear HB; have HB := n0_; have BK180 := n1_; have GW180 := n2_; have GE180 := n3_; clear n0_ n1_ n2_ n3_; clear hb hbox hg) | ((with_reducible refine gate_dst (N := 3) rfl ?_); refine box_event ?hg (N := 3) ?hd (cs := #[.int .i64 a1_0, .int .i64 a1_1, .int .i64 a1_2, .bool a1_3]) (t := 128) ?hr ?_; (case hd => rfl); (case hg => rfl); (case hr => first | (go_simp; done) | (go_simp; rfl)); intro gb181 hg w10 hbox hb; have n0_ := Aside0.mk (blk_below (g := gb180) (o := .cells #[.int .i64 a0_0, .int .i64 a0_1, .int .i64 a0_2, .bool a0_3] 128 (0, 0)) (by (with_reducible repeat (first | refine blk_drewN ?_ _ | refine blk_drew ?_ | refine blk_alloc ?_ _)); exact BK180.out) hb); have n1_ := Aside0.mk (below_step (by repeat (first | (with_reducible first | exact HB.out | apply below_alloc | apply pw_below_drewN | apply below_drew1 | refine below_set ?_ GE180.out) | exact HB.out)) hb); have n2_ := Aside0.mk (hbox); have n3_ := Aside0.mk ((by rw [hg]; exact (below_size (by repeat (first | (with_reducible first | exact HB.out | apply below_alloc | apply pw_below_drewN | apply below_drew1 | refine below_set ?_ GE180.out) | exact HB.out))) : w.heap.size ≤ gb181)); have n4_ := Aside0.mk ((by rw [hg]; exact (below_size (by repeat (first | (with_reducible first | exact HB.out | apply below_alloc | apply pw_below_drewN | apply below_drew1 | refine below_set ?_ GE180.out) | exact HB.out))) : w.heap.size ≤ gb181)); have n5_ := Aside0.mk ((by rw [hg]; exact Nat.ne_of_lt (blk_lt (g := gb180) (o := .cells #[.int .i64 a0_0, .int .i64 a0_1, .int .i64 a0_2, .bool a0_3] 128 (0, 0)) (by (with_reducible repeat (first | refine blk_drewN ?_ _ | refine blk_drew ?_ | refine blk_alloc ?_ _)); exact BK180.out)) : gb180 ≠ gb181)); have n6_ := Aside0.mk ((by rw [hg]; exact Nat.ne_of_gt (blk_lt (g := gb180) (o := .cells #[.int .i64 a0_0, .int .i64 a0_1, .int .i64 a0_2, .bool a0_3] 128 (0, 0)) (by (with_reducible repeat (first | refine blk_drewN ?_ _ | refine blk_drew ?_ | refine blk_alloc ?_ _)); exact BK180.out)) : gb181 ≠ gb180)); clear BK180; clear HB; have BK180 := n0_; have HB := n1_; have BK181 := n2_; have GW181 := n3_; have GE181 := n4_; have NB180_181 := n5_; have NB181_180 := n6_; clear n0_ n1_ n2_ n3_ n4_ n5_ n6_; clear hb hbox hg; have hnb11 := NB180_181.out; have hnc11 := NB181_180.out; have hcz12_0 : w10.cell? ⟨gb180, 0, none⟩ = some (.int .i64 a0_0) := (blk_cell BK180.out 0).trans rfl; have hcz12_1 : w10.cell? ⟨gb180, 1, none⟩ = some (.int .i64 a0_1) := (blk_cell BK180.out 1).trans rfl; have hcz12_2 : w10.cell? ⟨gb180, 2, none⟩ = some (.int .i64 a0_2) := (blk_cell BK180.out 2).trans rfl; have hcz12_3 : w10.cell? ⟨gb180, 3, none⟩ = some (.bool a0_3) := (blk_cell BK180.out 3).trans rfl; have hfz12_0 := blk_frozen BK180.out 0; have hfz12_1 := blk_frozen BK180.out 1; have hfz12_2 := blk_frozen BK180.out 2; have hfz12_3 := blk_frozen BK180.out 3) | ((with_reducible refine gate_callee (f := 82) rfl ?_); refine goesL_ (some 6) rfl rfl Try.func82 (by kernel_rfl) rfl #[.agg #[.int .i64 a0_0, .int .i64 a0_1, .int .i64 a0_2, .bool a0_3]] rfl (by (try simp only [List.map_toArray, List.map_cons, List.map_nil]); first | done | rfl | (simp only [List.length_drop, List.length_take]; rfl)) ?_; (with_reducible refine (clock_plain.calls a0_0 a0_1 a0_2 a0_3 true _ A3.out).mono ?_); rintro e w13 ⟨rfl, hb⟩; refine ⟨_, rfl, ?_⟩; have n0_ := Aside0.mk (blk_below (g := gb180) (o := .cells #[.int .i64 a0_0, .int .i64 a0_1, .int .i64 a0_2, .bool a0_3] 128 (0, 0)) (by (with_reducible repeat (first | refine blk_drewN ?_ _ | refine blk_drew ?_ | refine blk_alloc ?_ _)); exact BK180.out) hb); have n1_ := Aside0.mk (blk_below (g := gb181) (o := .cells #[.int .i64 a1_0, .int .i64 a1_1, .int .i64 a1_2, .bool a1_3] 128 (0, 0)) (by (with_reducible repeat (first | refine blk_drewN ?_ _ | refine blk_drew ?_ | refine blk_alloc ?_ _)); exact BK181.out) hb); have n2_ := Aside0.mk (below_step (by repeat (first | (with_reducible first | exact HB.out | apply below_alloc | apply pw_below_drewN | apply below_drew1 | refine below_set ?_ GE180.out | refine below_set ?_ GE181.out) | exact HB.out)) hb); clear BK180; clear BK181; clear HB; have BK180 := n0_; have BK181 := n1_; have HB := n2_; clear n0_ n1_ n2_; (try clear hb); (try clear hb2); (try clear hk); (try clear hi); have hcz14_0 : w13.cell? ⟨gb181, 0, none⟩ = some (.int .i64 a1_0) := (blk_cell BK181.out 0).trans rfl; have hcz14_1 : w13.cell? ⟨gb181, 1, none⟩ = some (.int .i64 a1_1) := (blk_cell BK181.out 1).trans rfl; have hcz14_2 : w13.cell? ⟨gb181, 2, none⟩ = some (.int .i64 a1_2) := (blk_cell BK181.out 2).trans rfl; have hcz14_3 : w13.cell? ⟨gb181, 3, none⟩ = some (.bool a1_3) := (blk_cell BK181.out 3).trans rfl; have hfz14_0 := blk_frozen BK181.out 0; have hfz14_1 := blk_frozen BK181.out 1; have hfz14_2 := blk_frozen BK181.out 2; have hfz14_3 := blk_frozen BK181.out 3) | (go_at_call 82; (with_reducible refine (clock_plain.calls a1_0 a1_1 a1_2 a1_3 true _ A5.out).mono ?_); rintro e w15 ⟨rfl, hb⟩; have n0_ := Aside0.mk (blk_below (g := gb180) (o := .cells #[.int .i64 a0_0, .int .i64 a0_1, .int .i64 a0_2, .bool a0_3] 128 (0, 0)) (by (with_reducible repeat (first | refine blk_drewN ?_ _ | refine blk_drew ?_ | refine blk_alloc ?_ _)); exact BK180.out) hb); have n1_ := Aside0.mk (blk_below (g := gb181) (o := .cells #[.int .i64 a1_0, .int .i64 a1_1, .int .i64 a1_2, .bool a1_3] 128 (0, 0)) (by (with_reducible repeat (first | refine blk_drewN ?_ _ | refine blk_drew ?_ | refine blk_alloc ?_ _)); exact BK181.out) hb); have n2_ := Aside0.mk (below_step (by repeat (first | (with_reducible first | exact HB.out | apply below_alloc | apply pw_below_drewN | apply below_drew1 | refine below_set ?_ GE180.out | refine below_set ?_ GE181.out) | exact HB.out)) hb); clear BK180; clear BK181; clear HB; have BK180 := n0_; have BK181 := n1_; have HB := n2_; clear n0_ n1_ n2_; (try clear hb); (try clear hb2); (try clear hk); (try clear hi); have hcz16_0 : w15.cell? ⟨gb180, 0, none⟩ = some (.int .i64 a0_0) := (blk_cell BK180.out 0).trans rfl; have hcz16_1 : w15.cell? ⟨gb180, 1, none⟩ = some (.int .i64 a0_1) := (blk_cell BK180.out 1).trans rfl; have hcz16_2 : w15.cell? ⟨gb180, 2, none⟩ = some (.int .i64 a0_2) := (blk_cell BK180.out 2).trans rfl; have hcz16_3 : w15.cell? ⟨gb180, 3, none⟩ = some (.bool a0_3) := (blk_cell BK180.out 3).trans rfl; have hfz16_0 := blk_frozen BK180.out 0; have hfz16_1 := blk_frozen BK180.out 1; have hfz16_2 := blk_frozen BK180.out 2; have hfz16_3 := blk_frozen BK180.out 3; have hcz17_0 : w15.cell? ⟨gb181, 0, none⟩ = some (.int .i64 a1_0) := (blk_cell BK181.out 0).trans rfl; have hcz17_1 : w15.cell? ⟨gb181, 1, none⟩ = some (.int .i64 a1_1) := (blk_cell BK181.out 1).trans rfl; have hcz17_2 : w15.cell? ⟨gb181, 2, none⟩ = some (.int .i64 a1_2) := (blk_cell BK181.out 2).trans rfl; have hcz17_3 : w15.cell? ⟨gb181, 3, none⟩ = some (.bool a1_3) := (blk_cell BK181.out 3).trans rfl; have hfz17_0 := blk_frozen BK181.out 0; have hfz17_1 := blk_frozen BK181.out 1; have hfz17_2 := blk_frozen BK181.out 2; have hfz17_3 := blk_frozen BK181.out 3))
          go_ret
          exact ⟨by first | rfl | (simp [errW_none, errW_some] <;> rfl) | (simp [*, errW_none, errW_some] <;> rfl), by repeat (first | (with_reducible first | exact HB.out | apply below_alloc | apply pw_below_drewN | apply below_drew1 | refine below_set ?_ GE180.out | refine below_set ?_ GE181.out) | exact HB.out)⟩
        · rw [if_neg c8] at H
          have c8b0 : (a0_0 == a1_0) = false := beq_eq_false_iff_ne.mpr c8
          have c8b1 : (a0_0 != a1_0) = true := bne_iff_ne.mpr c8
          by_cases c18 : a0_1 = 3
          · rw [if_pos c18] at H
            have c18b0 : (a0_1 == 3) = true := beq_iff_eq.mpr c18
            have c18b1 : (a0_1 != 3) = false := bne_eq_false_iff_eq.mpr c18
            clear c18
            obtain rfl := Option.some.inj H
            go_enter Try.func83, Try.ntmps83
            go_wp2_with (first | ((with_reducible refine gate_dst (N := 2) rfl ?_); refine box_event ?hg (N := 2) ?hd (cs := #[.int .i64 a0_0, .int .i64 a0_1, .int .i64 a0_2, .bool a0_3]) (t := 128) ?hr ?_; (case hd => rfl); (case hg => rfl); (case hr => first | (go_simp; done) | (go_simp; rfl)); intro gb180 hg w19 hbox hb; have n0_ := Aside0.mk (below_step (by repeat (first | (with_reducible first | exact HB.out | apply below_alloc | apply pw_below_drewN | apply below_drew1) | exact HB.out)) hb); have n1_ := Aside0.mk (hbox); have n2_ := Aside0.mk ((by rw [hg]; exact (below_size (by repeat (first | (with_reducible first | exact HB.out | apply below_alloc | apply pw_below_drewN | apply below_drew1) | exact HB.out))) : w.heap.size ≤ gb180)); have n3_ := Aside0.mk ((by rw [hg]; exact (below_size (by repeat (first | (with_reducible first | exact HB.out | apply below_alloc | apply pw_below_drewN | apply below_drew1) | exact HB.out))) : w.heap.size ≤ gb180)); clear HB; have HB := n0_; have BK180 := n1_; have GW180 := n2_; have GE180 := n3_; clear n0_ n1_ n2_ n3_; clear hb hbox hg) | ((with_reducible refine gate_dst (N := 3) rfl ?_); refine box_event ?hg (N := 3) ?hd (cs := #[.int .i64 a1_0, .int .i64 a1_1, .int .i64 a1_2, .bool a1_3]) (t := 128) ?hr ?_; (case hd => rfl); (case hg => rfl); (case hr => first | (go_simp; done) | (go_simp; rfl)); intro gb181 hg w20 hbox hb; have n0_ := Aside0.mk (blk_below (g := gb180) (o := .cells #[.int .i64 a0_0, .int .i64 a0_1, .int .i64 a0_2, .bool a0_3] 128 (0, 0)) (by (with_reducible repeat (first | refine blk_drewN ?_ _ | refine blk_drew ?_ | refine blk_alloc ?_ _)); exact BK180.out) hb); have n1_ := Aside0.mk (below_step (by repeat (first | (with_reducible first | exact HB.out | apply below_alloc | apply pw_below_drewN | apply below_drew1 | refine below_set ?_ GE180.out) | exact HB.out)) hb); have n2_ := Aside0.mk (hbox); have n3_ := Aside0.mk ((by rw [hg]; exact (below_size (by repeat (first | (with_reducible first | exact HB.out | apply below_alloc | apply pw_below_drewN | apply below_drew1 | refine below_set ?_ GE180.out) | exact HB.out))) : w.heap.size ≤ gb181)); have n4_ := Aside0.mk ((by rw [hg]; exact (below_size (by repeat (first | (with_reducible first | exact HB.out | apply below_alloc | apply pw_below_drewN | apply below_drew1 | refine below_set ?_ GE180.out) | exact HB.out))) : w.heap.size ≤ gb181)); have n5_ := Aside0.mk ((by rw [hg]; exact Nat.ne_of_lt (blk_lt (g := gb180) (o := .cells #[.int .i64 a0_0, .int .i64 a0_1, .int .i64 a0_2, .bool a0_3] 128 (0, 0)) (by (with_reducible repeat (first | refine blk_drewN ?_ _ | refine blk_drew ?_ | refine blk_alloc ?_ _)); exact BK180.out)) : gb180 ≠ gb181)); have n6_ := Aside0.mk ((by rw [hg]; exact Nat.ne_of_gt (blk_lt (g := gb180) (o := .cells #[.int .i64 a0_0, .int .i64 a0_1, .int .i64 a0_2, .bool a0_3] 128 (0, 0)) (by (with_reducible repeat (first | refine blk_drewN ?_ _ | refine blk_drew ?_ | refine blk_alloc ?_ _)); exact BK180.out)) : gb181 ≠ gb180)); clear BK180; clear HB; have BK180 := n0_; have HB := n1_; have BK181 := n2_; have GW181 := n3_; have GE181 := n4_; have NB180_181 := n5_; have NB181_180 := n6_; clear n0_ n1_ n2_ n3_ n4_ n5_ n6_; clear hb hbox hg; have hnb21 := NB180_181.out; have hnc21 := NB181_180.out; have hcz22_0 : w20.cell? ⟨gb180, 0, none⟩ = some (.int .i64 a0_0) := (blk_cell BK180.out 0).trans rfl; have hcz22_1 : w20.cell? ⟨gb180, 1, none⟩ = some (.int .i64 a0_1) := (blk_cell BK180.out 1).trans rfl; have hcz22_2 : w20.cell? ⟨gb180, 2, none⟩ = some (.int .i64 a0_2) := (blk_cell BK180.out 2).trans rfl; have hcz22_3 : w20.cell? ⟨gb180, 3, none⟩ = some (.bool a0_3) := (blk_cell BK180.out 3).trans rfl; have hfz22_0 := blk_frozen BK180.out 0; have hfz22_1 := blk_frozen BK180.out 1; have hfz22_2 := blk_frozen BK180.out 2; have hfz22_3 := blk_frozen BK180.out 3) | ((with_reducible refine gate_callee (f := 82) rfl ?_); refine goesL_ (some 6) rfl rfl Try.func82 (by kernel_rfl) rfl #[.agg #[.int .i64 a0_0, .int .i64 a0_1, .int .i64 a0_2, .bool a0_3]] rfl (by (try simp only [List.map_toArray, List.map_cons, List.map_nil]); first | done | rfl | (simp only [List.length_drop, List.length_take]; rfl)) ?_; (with_reducible refine (clock_plain.calls a0_0 a0_1 a0_2 a0_3 true _ A3.out).mono ?_); rintro e w23 ⟨rfl, hb⟩; refine ⟨_, rfl, ?_⟩; have n0_ := Aside0.mk (blk_below (g := gb180) (o := .cells #[.int .i64 a0_0, .int .i64 a0_1, .int .i64 a0_2, .bool a0_3] 128 (0, 0)) (by (with_reducible repeat (first | refine blk_drewN ?_ _ | refine blk_drew ?_ | refine blk_alloc ?_ _)); exact BK180.out) hb); have n1_ := Aside0.mk (blk_below (g := gb181) (o := .cells #[.int .i64 a1_0, .int .i64 a1_1, .int .i64 a1_2, .bool a1_3] 128 (0, 0)) (by (with_reducible repeat (first | refine blk_drewN ?_ _ | refine blk_drew ?_ | refine blk_alloc ?_ _)); exact BK181.out) hb); have n2_ := Aside0.mk (below_step (by repeat (first | (with_reducible first | exact HB.out | apply below_alloc | apply pw_below_drewN | apply below_drew1 | refine below_set ?_ GE180.out | refine below_set ?_ GE181.out) | exact HB.out)) hb); clear BK180; clear BK181; clear HB; have BK180 := n0_; have BK181 := n1_; have HB := n2_; clear n0_ n1_ n2_; (try clear hb); (try clear hb2); (try clear hk); (try clear hi); have hcz24_0 : w23.cell? ⟨gb181, 0, none⟩ = some (.int .i64 a1_0) := (blk_cell BK181.out 0).trans rfl; have hcz24_1 : w23.cell? ⟨gb181, 1, none⟩ = some (.int .i64 a1_1) := (blk_cell BK181.out 1).trans rfl; have hcz24_2 : w23.cell? ⟨gb181, 2, none⟩ = some (.int .i64 a1_2) := (blk_cell BK181.out 2).trans rfl; have hcz24_3 : w23.cell? ⟨gb181, 3, none⟩ = some (.bool a1_3) := (blk_cell BK181.out 3).trans rfl; have hfz24_0 := blk_frozen BK181.out 0; have hfz24_1 := blk_frozen BK181.out 1; have hfz24_2 := blk_frozen BK181.out 2; have hfz24_3 := blk_frozen BK181.out 3) | (go_at_call 82; (with_reducible refine (clock_plain.calls a1_0 a1_1 a1_2 a1_3 true _ A5.out).mono ?_); rintro e w25 ⟨rfl, hb⟩; have n0_ := Aside0.mk (blk_below (g := gb180) (o := .cells #[.int .i64 a0_0, .int .i64 a0_1, .int .i64 a0_2, .bool a0_3] 128 (0, 0)) (by (with_reducible repeat (first | refine blk_drewN ?_ _ | refine blk_drew ?_ | refine blk_alloc ?_ _)); exact BK180.out) hb); have n1_ := Aside0.mk (blk_below (g := gb181) (o := .cells #[.int .i64 a1_0, .int .i64 a1_1, .int .i64 a1_2, .bool a1_3] 128 (0, 0)) (by (with_reducible repeat (first | refine blk_drewN ?_ _ | refine blk_drew ?_ | refine blk_alloc ?_ _)); exact BK181.out) hb); have n2_ := Aside0.mk (below_step (by repeat (first | (with_reducible first | exact HB.out | apply below_alloc | apply pw_below_drewN | apply below_drew1 | refine below_set ?_ GE180.out | refine below_set ?_ GE181.out) | exact HB.out)) hb); clear BK180; clear BK181; clear HB; have BK180 := n0_; have BK181 := n1_; have HB := n2_; clear n0_ n1_ n2_; (try clear hb); (try clear hb2); (try clear hk); (try clear hi); have hcz26_0 : w25.cell? ⟨gb180, 0, none⟩ = some (.int .i64 a0_0) := (blk_cell BK180.out 0).trans rfl; have hcz26_1 : w25.cell? ⟨gb180, 1, none⟩ = some (.int .i64 a0_1) := (blk_cell BK180.out 1).trans rfl; have hcz26_2 : w25.cell? ⟨gb180, 2, none⟩ = some (.int .i64 a0_2) := (blk_cell BK180.out 2).trans rfl; have hcz26_3 : w25.cell? ⟨gb180, 3, none⟩ = some (.bool a0_3) := (blk_cell BK180.out 3).trans rfl; have hfz26_0 := blk_frozen BK180.out 0; have hfz26_1 := blk_frozen BK180.out 1; have hfz26_2 := blk_frozen BK180.out 2; have hfz26_3 := blk_frozen BK180.out 3; have hcz27_0 : w25.cell? ⟨gb181, 0, none⟩ = some (.int .i64 a1_0) := (blk_cell BK181.out 0).trans rfl; have hcz27_1 : w25.cell? ⟨gb181, 1, none⟩ = some (.int .i64 a1_1) := (blk_cell BK181.out 1).trans rfl; have hcz27_2 : w25.cell? ⟨gb181, 2, none⟩ = some (.int .i64 a1_2) := (blk_cell BK181.out 2).trans rfl; have hcz27_3 : w25.cell? ⟨gb181, 3, none⟩ = some (.bool a1_3) := (blk_cell BK181.out 3).trans rfl; have hfz27_0 := blk_frozen BK181.out 0; have hfz27_1 := blk_frozen BK181.out 1; have hfz27_2 := blk_frozen BK181.out 2; have hfz27_3 := blk_frozen BK181.out 3))
            go_ret
            exact ⟨by first | rfl | (simp [errW_none, errW_some] <;> rfl) | (simp [*, errW_none, errW_some] <;> rfl), by repeat (first | (with_reducible first | exact HB.out | apply below_alloc | apply pw_below_drewN | apply below_drew1 | refine below_set ?_ GE180.out | refine below_set ?_ GE181.out) | exact HB.out)⟩
          · rw [if_neg c18] at H
            have c18b0 : (a0_1 == 3) = false := beq_eq_false_iff_ne.mpr c18
            have c18b1 : (a0_1 != 3) = true := bne_iff_ne.mpr c18
            obtain rfl := Option.some.inj H
            go_enter Try.func83, Try.ntmps83
            go_wp2_with (first | ((with_reducible refine gate_dst (N := 2) rfl ?_); refine box_event ?hg (N := 2) ?hd (cs := #[.int .i64 a0_0, .int .i64 a0_1, .int .i64 a0_2, .bool a0_3]) (t := 128) ?hr ?_; (case hd => rfl); (case hg => rfl); (case hr => first | (go_simp; done) | (go_simp; rfl)); intro gb180 hg w28 hbox hb; have n0_ := Aside0.mk (below_step (by repeat (first | (with_reducible first | exact HB.out | apply below_alloc | apply pw_below_drewN | apply below_drew1) | exact HB.out)) hb); have n1_ := Aside0.mk (hbox); have n2_ := Aside0.mk ((by rw [hg]; exact (below_size (by repeat (first | (with_reducible first | exact HB.out | apply below_alloc | apply pw_below_drewN | apply below_drew1) | exact HB.out))) : w.heap.size ≤ gb180)); have n3_ := Aside0.mk ((by rw [hg]; exact (below_size (by repeat (first | (with_reducible first | exact HB.out | apply below_alloc | apply pw_below_drewN | apply below_drew1) | exact HB.out))) : w.heap.size ≤ gb180)); clear HB; have HB := n0_; have BK180 := n1_; have GW180 := n2_; have GE180 := n3_; clear n0_ n1_ n2_ n3_; clear hb hbox hg) | ((with_reducible refine gate_dst (N := 3) rfl ?_); refine box_event ?hg (N := 3) ?hd (cs := #[.int .i64 a1_0, .int .i64 a1_1, .int .i64 a1_2, .bool a1_3]) (t := 128) ?hr ?_; (case hd => rfl); (case hg => rfl); (case hr => first | (go_simp; done) | (go_simp; rfl)); intro gb181 hg w29 hbox hb; have n0_ := Aside0.mk (blk_below (g := gb180) (o := .cells #[.int .i64 a0_0, .int .i64 a0_1, .int .i64 a0_2, .bool a0_3] 128 (0, 0)) (by (with_reducible repeat (first | refine blk_drewN ?_ _ | refine blk_drew ?_ | refine blk_alloc ?_ _)); exact BK180.out) hb); have n1_ := Aside0.mk (below_step (by repeat (first | (with_reducible first | exact HB.out | apply below_alloc | apply pw_below_drewN | apply below_drew1 | refine below_set ?_ GE180.out) | exact HB.out)) hb); have n2_ := Aside0.mk (hbox); have n3_ := Aside0.mk ((by rw [hg]; exact (below_size (by repeat (first | (with_reducible first | exact HB.out | apply below_alloc | apply pw_below_drewN | apply below_drew1 | refine below_set ?_ GE180.out) | exact HB.out))) : w.heap.size ≤ gb181)); have n4_ := Aside0.mk ((by rw [hg]; exact (below_size (by repeat (first | (with_reducible first | exact HB.out | apply below_alloc | apply pw_below_drewN | apply below_drew1 | refine below_set ?_ GE180.out) | exact HB.out))) : w.heap.size ≤ gb181)); have n5_ := Aside0.mk ((by rw [hg]; exact Nat.ne_of_lt (blk_lt (g := gb180) (o := .cells #[.int .i64 a0_0, .int .i64 a0_1, .int .i64 a0_2, .bool a0_3] 128 (0, 0)) (by (with_reducible repeat (first | refine blk_drewN ?_ _ | refine blk_drew ?_ | refine blk_alloc ?_ _)); exact BK180.out)) : gb180 ≠ gb181)); have n6_ := Aside0.mk ((by rw [hg]; exact Nat.ne_of_gt (blk_lt (g := gb180) (o := .cells #[.int .i64 a0_0, .int .i64 a0_1, .int .i64 a0_2, .bool a0_3] 128 (0, 0)) (by (with_reducible repeat (first | refine blk_drewN ?_ _ | refine blk_drew ?_ | refine blk_alloc ?_ _)); exact BK180.out)) : gb181 ≠ gb180)); clear BK180; clear HB; have BK180 := n0_; have HB := n1_; have BK181 := n2_; have GW181 := n3_; have GE181 := n4_; have NB180_181 := n5_; have NB181_180 := n6_; clear n0_ n1_ n2_ n3_ n4_ n5_ n6_; clear hb hbox hg; have hnb30 := NB180_181.out; have hnc30 := NB181_180.out; have hcz31_0 : w29.cell? ⟨gb180, 0, none⟩ = some (.int .i64 a0_0) := (blk_cell BK180.out 0).trans rfl; have hcz31_1 : w29.cell? ⟨gb180, 1, none⟩ = some (.int .i64 a0_1) := (blk_cell BK180.out 1).trans rfl; have hcz31_2 : w29.cell? ⟨gb180, 2, none⟩ = some (.int .i64 a0_2) := (blk_cell BK180.out 2).trans rfl; have hcz31_3 : w29.cell? ⟨gb180, 3, none⟩ = some (.bool a0_3) := (blk_cell BK180.out 3).trans rfl; have hfz31_0 := blk_frozen BK180.out 0; have hfz31_1 := blk_frozen BK180.out 1; have hfz31_2 := blk_frozen BK180.out 2; have hfz31_3 := blk_frozen BK180.out 3) | ((with_reducible refine gate_callee (f := 82) rfl ?_); refine goesL_ (some 6) rfl rfl Try.func82 (by kernel_rfl) rfl #[.agg #[.int .i64 a0_0, .int .i64 a0_1, .int .i64 a0_2, .bool a0_3]] rfl (by (try simp only [List.map_toArray, List.map_cons, List.map_nil]); first | done | rfl | (simp only [List.length_drop, List.length_take]; rfl)) ?_; (with_reducible refine (clock_plain.calls a0_0 a0_1 a0_2 a0_3 true _ A3.out).mono ?_); rintro e w32 ⟨rfl, hb⟩; refine ⟨_, rfl, ?_⟩; have n0_ := Aside0.mk (blk_below (g := gb180) (o := .cells #[.int .i64 a0_0, .int .i64 a0_1, .int .i64 a0_2, .bool a0_3] 128 (0, 0)) (by (with_reducible repeat (first | refine blk_drewN ?_ _ | refine blk_drew ?_ | refine blk_alloc ?_ _)); exact BK180.out) hb); have n1_ := Aside0.mk (blk_below (g := gb181) (o := .cells #[.int .i64 a1_0, .int .i64 a1_1, .int .i64 a1_2, .bool a1_3] 128 (0, 0)) (by (with_reducible repeat (first | refine blk_drewN ?_ _ | refine blk_drew ?_ | refine blk_alloc ?_ _)); exact BK181.out) hb); have n2_ := Aside0.mk (below_step (by repeat (first | (with_reducible first | exact HB.out | apply below_alloc | apply pw_below_drewN | apply below_drew1 | refine below_set ?_ GE180.out | refine below_set ?_ GE181.out) | exact HB.out)) hb); clear BK180; clear BK181; clear HB; have BK180 := n0_; have BK181 := n1_; have HB := n2_; clear n0_ n1_ n2_; (try clear hb); (try clear hb2); (try clear hk); (try clear hi); have hcz33_0 : w32.cell? ⟨gb181, 0, none⟩ = some (.int .i64 a1_0) := (blk_cell BK181.out 0).trans rfl; have hcz33_1 : w32.cell? ⟨gb181, 1, none⟩ = some (.int .i64 a1_1) := (blk_cell BK181.out 1).trans rfl; have hcz33_2 : w32.cell? ⟨gb181, 2, none⟩ = some (.int .i64 a1_2) := (blk_cell BK181.out 2).trans rfl; have hcz33_3 : w32.cell? ⟨gb181, 3, none⟩ = some (.bool a1_3) := (blk_cell BK181.out 3).trans rfl; have hfz33_0 := blk_frozen BK181.out 0; have hfz33_1 := blk_frozen BK181.out 1; have hfz33_2 := blk_frozen BK181.out 2; have hfz33_3 := blk_frozen BK181.out 3) | (go_at_call 82; (with_reducible refine (clock_plain.calls a1_0 a1_1 a1_2 a1_3 true _ A5.out).mono ?_); rintro e w34 ⟨rfl, hb⟩; have n0_ := Aside0.mk (blk_below (g := gb180) (o := .cells #[.int .i64 a0_0, .int .i64 a0_1, .int .i64 a0_2, .bool a0_3] 128 (0, 0)) (by (with_reducible repeat (first | refine blk_drewN ?_ _ | refine blk_drew ?_ | refine blk_alloc ?_ _)); exact BK180.out) hb); have n1_ := Aside0.mk (blk_below (g := gb181) (o := .cells #[.int .i64 a1_0, .int .i64 a1_1, .int .i64 a1_2, .bool a1_3] 128 (0, 0)) (by (with_reducible repeat (first | refine blk_drewN ?_ _ | refine blk_drew ?_ | refine blk_alloc ?_ _)); exact BK181.out) hb); have n2_ := Aside0.mk (below_step (by repeat (first | (with_reducible first | exact HB.out | apply below_alloc | apply pw_below_drewN | apply below_drew1 | refine below_set ?_ GE180.out | refine below_set ?_ GE181.out) | exact HB.out)) hb); clear BK180; clear BK181; clear HB; have BK180 := n0_; have BK181 := n1_; have HB := n2_; clear n0_ n1_ n2_; (try clear hb); (try clear hb2); (try clear hk); (try clear hi); have hcz35_0 : w34.cell? ⟨gb180, 0, none⟩ = some (.int .i64 a0_0) := (blk_cell BK180.out 0).trans rfl; have hcz35_1 : w34.cell? ⟨gb180, 1, none⟩ = some (.int .i64 a0_1) := (blk_cell BK180.out 1).trans rfl; have hcz35_2 : w34.cell? ⟨gb180, 2, none⟩ = some (.int .i64 a0_2) := (blk_cell BK180.out 2).trans rfl; have hcz35_3 : w34.cell? ⟨gb180, 3, none⟩ = some (.bool a0_3) := (blk_cell BK180.out 3).trans rfl; have hfz35_0 := blk_frozen BK180.out 0; have hfz35_1 := blk_frozen BK180.out 1; have hfz35_2 := blk_frozen BK180.out 2; have hfz35_3 := blk_frozen BK180.out 3; have hcz36_0 : w34.cell? ⟨gb181, 0, none⟩ = some (.int .i64 a1_0) := (blk_cell BK181.out 0).trans rfl; have hcz36_1 : w34.cell? ⟨gb181, 1, none⟩ = some (.int .i64 a1_1) := (blk_cell BK181.out 1).trans rfl; have hcz36_2 : w34.cell? ⟨gb181, 2, none⟩ = some (.int .i64 a1_2) := (blk_cell BK181.out 2).trans rfl; have hcz36_3 : w34.cell? ⟨gb181, 3, none⟩ = some (.bool a1_3) := (blk_cell BK181.out 3).trans rfl; have hfz36_0 := blk_frozen BK181.out 0; have hfz36_1 := blk_frozen BK181.out 1; have hfz36_2 := blk_frozen BK181.out 2; have hfz36_3 := blk_frozen BK181.out 3))
            go_ret
            exact ⟨by first | rfl | (simp [errW_none, errW_some] <;> rfl) | (simp [*, errW_none, errW_some] <;> rfl), by repeat (first | (with_reducible first | exact HB.out | apply below_alloc | apply pw_below_drewN | apply below_drew1 | refine below_set ?_ GE180.out | refine below_set ?_ GE181.out) | exact HB.out)⟩
      · rw [if_neg c7] at H
        have c7b0 : (a0_2 == a1_2) = false := beq_eq_false_iff_ne.mpr c7
        have c7b1 : (a0_2 != a1_2) = true := bne_iff_ne.mpr c7
        obtain rfl := Option.some.inj H
        go_enter Try.func83, Try.ntmps83
        go_wp2_with (first | ((with_reducible refine gate_dst (N := 2) rfl ?_); refine box_event ?hg (N := 2) ?hd (cs := #[.int .i64 a0_0, .int .i64 a0_1, .int .i64 a0_2, .bool a0_3]) (t := 128) ?hr ?_; (case hd => rfl); (case hg => rfl); (case hr => first | (go_simp; done) | (go_simp; rfl)); intro gb180 hg w37 hbox hb; have n0_ := Aside0.mk (below_step (by repeat (first | (with_reducible first | exact HB.out | apply below_alloc | apply pw_below_drewN | apply below_drew1) | exact HB.out)) hb); have n1_ := Aside0.mk (hbox); have n2_ := Aside0.mk ((by rw [hg]; exact (below_size (by repeat (first | (with_reducible first | exact HB.out | apply below_alloc | apply pw_below_drewN | apply below_drew1) | exact HB.out))) : w.heap.size ≤ gb180)); have n3_ := Aside0.mk ((by rw [hg]; exact (below_size (by repeat (first | (with_reducible first | exact HB.out | apply below_alloc | apply pw_below_drewN | apply below_drew1) | exact HB.out))) : w.heap.size ≤ gb180)); clear HB; have HB := n0_; have BK180 := n1_; have GW180 := n2_; have GE180 := n3_; clear n0_ n1_ n2_ n3_; clear hb hbox hg) | ((with_reducible refine gate_dst (N := 3) rfl ?_); refine box_event ?hg (N := 3) ?hd (cs := #[.int .i64 a1_0, .int .i64 a1_1, .int .i64 a1_2, .bool a1_3]) (t := 128) ?hr ?_; (case hd => rfl); (case hg => rfl); (case hr => first | (go_simp; done) | (go_simp; rfl)); intro gb181 hg w38 hbox hb; have n0_ := Aside0.mk (blk_below (g := gb180) (o := .cells #[.int .i64 a0_0, .int .i64 a0_1, .int .i64 a0_2, .bool a0_3] 128 (0, 0)) (by (with_reducible repeat (first | refine blk_drewN ?_ _ | refine blk_drew ?_ | refine blk_alloc ?_ _)); exact BK180.out) hb); have n1_ := Aside0.mk (below_step (by repeat (first | (with_reducible first | exact HB.out | apply below_alloc | apply pw_below_drewN | apply below_drew1 | refine below_set ?_ GE180.out) | exact HB.out)) hb); have n2_ := Aside0.mk (hbox); have n3_ := Aside0.mk ((by rw [hg]; exact (below_size (by repeat (first | (with_reducible first | exact HB.out | apply below_alloc | apply pw_below_drewN | apply below_drew1 | refine below_set ?_ GE180.out) | exact HB.out))) : w.heap.size ≤ gb181)); have n4_ := Aside0.mk ((by rw [hg]; exact (below_size (by repeat (first | (with_reducible first | exact HB.out | apply below_alloc | apply pw_below_drewN | apply below_drew1 | refine below_set ?_ GE180.out) | exact HB.out))) : w.heap.size ≤ gb181)); have n5_ := Aside0.mk ((by rw [hg]; exact Nat.ne_of_lt (blk_lt (g := gb180) (o := .cells #[.int .i64 a0_0, .int .i64 a0_1, .int .i64 a0_2, .bool a0_3] 128 (0, 0)) (by (with_reducible repeat (first | refine blk_drewN ?_ _ | refine blk_drew ?_ | refine blk_alloc ?_ _)); exact BK180.out)) : gb180 ≠ gb181)); have n6_ := Aside0.mk ((by rw [hg]; exact Nat.ne_of_gt (blk_lt (g := gb180) (o := .cells #[.int .i64 a0_0, .int .i64 a0_1, .int .i64 a0_2, .bool a0_3] 128 (0, 0)) (by (with_reducible repeat (first | refine blk_drewN ?_ _ | refine blk_drew ?_ | refine blk_alloc ?_ _)); exact BK180.out)) : gb181 ≠ gb180)); clear BK180; clear HB; have BK180 := n0_; have HB := n1_; have BK181 := n2_; have GW181 := n3_; have GE181 := n4_; have NB180_181 := n5_; have NB181_180 := n6_; clear n0_ n1_ n2_ n3_ n4_ n5_ n6_; clear hb hbox hg; have hnb39 := NB180_181.out; have hnc39 := NB181_180.out; have hcz40_0 : w38.cell? ⟨gb180, 0, none⟩ = some (.int .i64 a0_0) := (blk_cell BK180.out 0).trans rfl; have hcz40_1 : w38.cell? ⟨gb180, 1, none⟩ = some (.int .i64 a0_1) := (blk_cell BK180.out 1).trans rfl; have hcz40_2 : w38.cell? ⟨gb180, 2, none⟩ = some (.int .i64 a0_2) := (blk_cell BK180.out 2).trans rfl; have hcz40_3 : w38.cell? ⟨gb180, 3, none⟩ = some (.bool a0_3) := (blk_cell BK180.out 3).trans rfl; have hfz40_0 := blk_frozen BK180.out 0; have hfz40_1 := blk_frozen BK180.out 1; have hfz40_2 := blk_frozen BK180.out 2; have hfz40_3 := blk_frozen BK180.out 3) | ((with_reducible refine gate_callee (f := 82) rfl ?_); refine goesL_ (some 6) rfl rfl Try.func82 (by kernel_rfl) rfl #[.agg #[.int .i64 a0_0, .int .i64 a0_1, .int .i64 a0_2, .bool a0_3]] rfl (by (try simp only [List.map_toArray, List.map_cons, List.map_nil]); first | done | rfl | (simp only [List.length_drop, List.length_take]; rfl)) ?_; (with_reducible refine (clock_plain.calls a0_0 a0_1 a0_2 a0_3 true _ A3.out).mono ?_); rintro e w41 ⟨rfl, hb⟩; refine ⟨_, rfl, ?_⟩; have n0_ := Aside0.mk (blk_below (g := gb180) (o := .cells #[.int .i64 a0_0, .int .i64 a0_1, .int .i64 a0_2, .bool a0_3] 128 (0, 0)) (by (with_reducible repeat (first | refine blk_drewN ?_ _ | refine blk_drew ?_ | refine blk_alloc ?_ _)); exact BK180.out) hb); have n1_ := Aside0.mk (blk_below (g := gb181) (o := .cells #[.int .i64 a1_0, .int .i64 a1_1, .int .i64 a1_2, .bool a1_3] 128 (0, 0)) (by (with_reducible repeat (first | refine blk_drewN ?_ _ | refine blk_drew ?_ | refine blk_alloc ?_ _)); exact BK181.out) hb); have n2_ := Aside0.mk (below_step (by repeat (first | (with_reducible first | exact HB.out | apply below_alloc | apply pw_below_drewN | apply below_drew1 | refine below_set ?_ GE180.out | refine below_set ?_ GE181.out) | exact HB.out)) hb); clear BK180; clear BK181; clear HB; have BK180 := n0_; have BK181 := n1_; have HB := n2_; clear n0_ n1_ n2_; (try clear hb); (try clear hb2); (try clear hk); (try clear hi); have hcz42_0 : w41.cell? ⟨gb181, 0, none⟩ = some (.int .i64 a1_0) := (blk_cell BK181.out 0).trans rfl; have hcz42_1 : w41.cell? ⟨gb181, 1, none⟩ = some (.int .i64 a1_1) := (blk_cell BK181.out 1).trans rfl; have hcz42_2 : w41.cell? ⟨gb181, 2, none⟩ = some (.int .i64 a1_2) := (blk_cell BK181.out 2).trans rfl; have hcz42_3 : w41.cell? ⟨gb181, 3, none⟩ = some (.bool a1_3) := (blk_cell BK181.out 3).trans rfl; have hfz42_0 := blk_frozen BK181.out 0; have hfz42_1 := blk_frozen BK181.out 1; have hfz42_2 := blk_frozen BK181.out 2; have hfz42_3 := blk_frozen BK181.out 3) | (go_at_call 82; (with_reducible refine (clock_plain.calls a1_0 a1_1 a1_2 a1_3 true _ A5.out).mono ?_); rintro e w43 ⟨rfl, hb⟩; have n0_ := Aside0.mk (blk_below (g := gb180) (o := .cells #[.int .i64 a0_0, .int .i64 a0_1, .int .i64 a0_2, .bool a0_3] 128 (0, 0)) (by (with_reducible repeat (first | refine blk_drewN ?_ _ | refine blk_drew ?_ | refine blk_alloc ?_ _)); exact BK180.out) hb); have n1_ := Aside0.mk (blk_below (g := gb181) (o := .cells #[.int .i64 a1_0, .int .i64 a1_1, .int .i64 a1_2, .bool a1_3] 128 (0, 0)) (by (with_reducible repeat (first | refine blk_drewN ?_ _ | refine blk_drew ?_ | refine blk_alloc ?_ _)); exact BK181.out) hb); have n2_ := Aside0.mk (below_step (by repeat (first | (with_reducible first | exact HB.out | apply below_alloc | apply pw_below_drewN | apply below_drew1 | refine below_set ?_ GE180.out | refine below_set ?_ GE181.out) | exact HB.out)) hb); clear BK180; clear BK181; clear HB; have BK180 := n0_; have BK181 := n1_; have HB := n2_; clear n0_ n1_ n2_; (try clear hb); (try clear hb2); (try clear hk); (try clear hi); have hcz44_0 : w43.cell? ⟨gb180, 0, none⟩ = some (.int .i64 a0_0) := (blk_cell BK180.out 0).trans rfl; have hcz44_1 : w43.cell? ⟨gb180, 1, none⟩ = some (.int .i64 a0_1) := (blk_cell BK180.out 1).trans rfl; have hcz44_2 : w43.cell? ⟨gb180, 2, none⟩ = some (.int .i64 a0_2) := (blk_cell BK180.out 2).trans rfl; have hcz44_3 : w43.cell? ⟨gb180, 3, none⟩ = some (.bool a0_3) := (blk_cell BK180.out 3).trans rfl; have hfz44_0 := blk_frozen BK180.out 0; have hfz44_1 := blk_frozen BK180.out 1; have hfz44_2 := blk_frozen BK180.out 2; have hfz44_3 := blk_frozen BK180.out 3; have hcz45_0 : w43.cell? ⟨gb181, 0, none⟩ = some (.int .i64 a1_0) := (blk_cell BK181.out 0).trans rfl; have hcz45_1 : w43.cell? ⟨gb181, 1, none⟩ = some (.int .i64 a1_1) := (blk_cell BK181.out 1).trans rfl; have hcz45_2 : w43.cell? ⟨gb181, 2, none⟩ = some (.int .i64 a1_2) := (blk_cell BK181.out 2).trans rfl; have hcz45_3 : w43.cell? ⟨gb181, 3, none⟩ = some (.bool a1_3) := (blk_cell BK181.out 3).trans rfl; have hfz45_0 := blk_frozen BK181.out 0; have hfz45_1 := blk_frozen BK181.out 1; have hfz45_2 := blk_frozen BK181.out 2; have hfz45_3 := blk_frozen BK181.out 3))
        go_ret
        exact ⟨by first | rfl | (simp [errW_none, errW_some] <;> rfl) | (simp [*, errW_none, errW_some] <;> rfl), by repeat (first | (with_reducible first | exact HB.out | apply below_alloc | apply pw_below_drewN | apply below_drew1 | refine below_set ?_ GE180.out | refine below_set ?_ GE181.out) | exact HB.out)⟩
    · replace c6 := Bool.eq_false_iff.mpr c6
      subst c6
      have H1 : (some false) = some r := by rw [if_neg (show ¬ (false = true) by decide)] at H; exact H
      clear H
      have H := H1
      clear H1
      obtain rfl := Option.some.inj H
      go_enter Try.func83, Try.ntmps83
      go_wp2_with (first | ((with_reducible refine gate_dst (N := 2) rfl ?_); refine box_event ?hg (N := 2) ?hd (cs := #[.int .i64 a0_0, .int .i64 a0_1, .int .i64 a0_2, .bool a0_3]) (t := 128) ?hr ?_; (case hd => rfl); (case hg => rfl); (case hr => first | (go_simp; done) | (go_simp; rfl)); intro gb180 hg w46 hbox hb; have n0_ := Aside0.mk (below_step (by repeat (first | (with_reducible first | exact HB.out | apply below_alloc | apply pw_below_drewN | apply below_drew1) | exact HB.out)) hb); have n1_ := Aside0.mk (hbox); have n2_ := Aside0.mk ((by rw [hg]; exact (below_size (by repeat (first | (with_reducible first | exact HB.out | apply below_alloc | apply pw_below_drewN | apply below_drew1) | exact HB.out))) : w.heap.size ≤ gb180)); have n3_ := Aside0.mk ((by rw [hg]; exact (below_size (by repeat (first | (with_reducible first | exact HB.out | apply below_alloc | apply pw_below_drewN | apply below_drew1) | exact HB.out))) : w.heap.size ≤ gb180)); clear HB; have HB := n0_; have BK180 := n1_; have GW180 := n2_; have GE180 := n3_; clear n0_ n1_ n2_ n3_; clear hb hbox hg) | ((with_reducible refine gate_dst (N := 3) rfl ?_); refine box_event ?hg (N := 3) ?hd (cs := #[.int .i64 a1_0, .int .i64 a1_1, .int .i64 a1_2, .bool a1_3]) (t := 128) ?hr ?_; (case hd => rfl); (case hg => rfl); (case hr => first | (go_simp; done) | (go_simp; rfl)); intro gb181 hg w47 hbox hb; have n0_ := Aside0.mk (blk_below (g := gb180) (o := .cells #[.int .i64 a0_0, .int .i64 a0_1, .int .i64 a0_2, .bool a0_3] 128 (0, 0)) (by (with_reducible repeat (first | refine blk_drewN ?_ _ | refine blk_drew ?_ | refine blk_alloc ?_ _)); exact BK180.out) hb); have n1_ := Aside0.mk (below_step (by repeat (first | (with_reducible first | exact HB.out | apply below_alloc | apply pw_below_drewN | apply below_drew1 | refine below_set ?_ GE180.out) | exact HB.out)) hb); have n2_ := Aside0.mk (hbox); have n3_ := Aside0.mk ((by rw [hg]; exact (below_size (by repeat (first | (with_reducible first | exact HB.out | apply below_alloc | apply pw_below_drewN | apply below_drew1 | refine below_set ?_ GE180.out) | exact HB.out))) : w.heap.size ≤ gb181)); have n4_ := Aside0.mk ((by rw [hg]; exact (below_size (by repeat (first | (with_reducible first | exact HB.out | apply below_alloc | apply pw_below_drewN | apply below_drew1 | refine below_set ?_ GE180.out) | exact HB.out))) : w.heap.size ≤ gb181)); have n5_ := Aside0.mk ((by rw [hg]; exact Nat.ne_of_lt (blk_lt (g := gb180) (o := .cells #[.int .i64 a0_0, .int .i64 a0_1, .int .i64 a0_2, .bool a0_3] 128 (0, 0)) (by (with_reducible repeat (first | refine blk_drewN ?_ _ | refine blk_drew ?_ | refine blk_alloc ?_ _)); exact BK180.out)) : gb180 ≠ gb181)); have n6_ := Aside0.mk ((by rw [hg]; exact Nat.ne_of_gt (blk_lt (g := gb180) (o := .cells #[.int .i64 a0_0, .int .i64 a0_1, .int .i64 a0_2, .bool a0_3] 128 (0, 0)) (by (with_reducible repeat (first | refine blk_drewN ?_ _ | refine blk_drew ?_ | refine blk_alloc ?_ _)); exact BK180.out)) : gb181 ≠ gb180)); clear BK180; clear HB; have BK180 := n0_; have HB := n1_; have BK181 := n2_; have GW181 := n3_; have GE181 := n4_; have NB180_181 := n5_; have NB181_180 := n6_; clear n0_ n1_ n2_ n3_ n4_ n5_ n6_; clear hb hbox hg; have hnb48 := NB180_181.out; have hnc48 := NB181_180.out; have hcz49_0 : w47.cell? ⟨gb180, 0, none⟩ = some (.int .i64 a0_0) := (blk_cell BK180.out 0).trans rfl; have hcz49_1 : w47.cell? ⟨gb180, 1, none⟩ = some (.int .i64 a0_1) := (blk_cell BK180.out 1).trans rfl; have hcz49_2 : w47.cell? ⟨gb180, 2, none⟩ = some (.int .i64 a0_2) := (blk_cell BK180.out 2).trans rfl; have hcz49_3 : w47.cell? ⟨gb180, 3, none⟩ = some (.bool a0_3) := (blk_cell BK180.out 3).trans rfl; have hfz49_0 := blk_frozen BK180.out 0; have hfz49_1 := blk_frozen BK180.out 1; have hfz49_2 := blk_frozen BK180.out 2; have hfz49_3 := blk_frozen BK180.out 3) | ((with_reducible refine gate_callee (f := 82) rfl ?_); refine goesL_ (some 6) rfl rfl Try.func82 (by kernel_rfl) rfl #[.agg #[.int .i64 a0_0, .int .i64 a0_1, .int .i64 a0_2, .bool a0_3]] rfl (by (try simp only [List.map_toArray, List.map_cons, List.map_nil]); first | done | rfl | (simp only [List.length_drop, List.length_take]; rfl)) ?_; (with_reducible refine (clock_plain.calls a0_0 a0_1 a0_2 a0_3 true _ A3.out).mono ?_); rintro e w50 ⟨rfl, hb⟩; refine ⟨_, rfl, ?_⟩; have n0_ := Aside0.mk (blk_below (g := gb180) (o := .cells #[.int .i64 a0_0, .int .i64 a0_1, .int .i64 a0_2, .bool a0_3] 128 (0, 0)) (by (with_reducible repeat (first | refine blk_drewN ?_ _ | refine blk_drew ?_ | refine blk_alloc ?_ _)); exact BK180.out) hb); have n1_ := Aside0.mk (blk_below (g := gb181) (o := .cells #[.int .i64 a1_0, .int .i64 a1_1, .int .i64 a1_2, .bool a1_3] 128 (0, 0)) (by (with_reducible repeat (first | refine blk_drewN ?_ _ | refine blk_drew ?_ | refine blk_alloc ?_ _)); exact BK181.out) hb); have n2_ := Aside0.mk (below_step (by repeat (first | (with_reducible first | exact HB.out | apply below_alloc | apply pw_below_drewN | apply below_drew1 | refine below_set ?_ GE180.out | refine below_set ?_ GE181.out) | exact HB.out)) hb); clear BK180; clear BK181; clear HB; have BK180 := n0_; have BK181 := n1_; have HB := n2_; clear n0_ n1_ n2_; (try clear hb); (try clear hb2); (try clear hk); (try clear hi); have hcz51_0 : w50.cell? ⟨gb181, 0, none⟩ = some (.int .i64 a1_0) := (blk_cell BK181.out 0).trans rfl; have hcz51_1 : w50.cell? ⟨gb181, 1, none⟩ = some (.int .i64 a1_1) := (blk_cell BK181.out 1).trans rfl; have hcz51_2 : w50.cell? ⟨gb181, 2, none⟩ = some (.int .i64 a1_2) := (blk_cell BK181.out 2).trans rfl; have hcz51_3 : w50.cell? ⟨gb181, 3, none⟩ = some (.bool a1_3) := (blk_cell BK181.out 3).trans rfl; have hfz51_0 := blk_frozen BK181.out 0; have hfz51_1 := blk_frozen BK181.out 1; have hfz51_2 := blk_frozen BK181.out 2; have hfz51_3 := blk_frozen BK181.out 3) | (go_at_call 82; (with_reducible refine (clock_plain.calls a1_0 a1_1 a1_2 a1_3 false _ A5.out).mono ?_); rintro e w52 ⟨rfl, hb⟩; have n0_ := Aside0.mk (blk_below (g := gb180) (o := .cells #[.int .i64 a0_0, .int .i64 a0_1, .int .i64 a0_2, .bool a0_3] 128 (0, 0)) (by (with_reducible repeat (first | refine blk_drewN ?_ _ | refine blk_drew ?_ | refine blk_alloc ?_ _)); exact BK180.out) hb); have n1_ := Aside0.mk (blk_below (g := gb181) (o := .cells #[.int .i64 a1_0, .int .i64 a1_1, .int .i64 a1_2, .bool a1_3] 128 (0, 0)) (by (with_reducible repeat (first | refine blk_drewN ?_ _ | refine blk_drew ?_ | refine blk_alloc ?_ _)); exact BK181.out) hb); have n2_ := Aside0.mk (below_step (by repeat (first | (with_reducible first | exact HB.out | apply below_alloc | apply pw_below_drewN | apply below_drew1 | refine below_set ?_ GE180.out | refine below_set ?_ GE181.out) | exact HB.out)) hb); clear BK180; clear BK181; clear HB; have BK180 := n0_; have BK181 := n1_; have HB := n2_; clear n0_ n1_ n2_; (try clear hb); (try clear hb2); (try clear hk); (try clear hi)))
      go_ret
      exact ⟨by first | rfl | (simp [errW_none, errW_some] <;> rfl) | (simp [*, errW_none, errW_some] <;> rfl), by repeat (first | (with_reducible first | exact HB.out | apply below_alloc | apply pw_below_drewN | apply below_drew1 | refine below_set ?_ GE180.out | refine below_set ?_ GE181.out) | exact HB.out)⟩
  · replace c4 := Bool.eq_false_iff.mpr c4
    subst c4
    have H1 : (some false) = some r := by rw [if_neg (show ¬ (false = true) by decide)] at H; exact H
    clear H
    have H := H1
    clear H1
    obtain rfl := Option.some.inj H
    go_enter Try.func83, Try.ntmps83
    go_wp2_with (first | ((with_reducible refine gate_dst (N := 2) rfl ?_); refine box_event ?hg (N := 2) ?hd (cs := #[.int .i64 a0_0, .int .i64 a0_1, .int .i64 a0_2, .bool a0_3]) (t := 128) ?hr ?_; (case hd => rfl); (case hg => rfl); (case hr => first | (go_simp; done) | (go_simp; rfl)); intro gb180 hg w53 hbox hb; have n0_ := Aside0.mk (below_step (by repeat (first | (with_reducible first | exact HB.out | apply below_alloc | apply pw_below_drewN | apply below_drew1) | exact HB.out)) hb); have n1_ := Aside0.mk (hbox); have n2_ := Aside0.mk ((by rw [hg]; exact (below_size (by repeat (first | (with_reducible first | exact HB.out | apply below_alloc | apply pw_below_drewN | apply below_drew1) | exact HB.out))) : w.heap.size ≤ gb180)); have n3_ := Aside0.mk ((by rw [hg]; exact (below_size (by repeat (first | (with_reducible first | exact HB.out | apply below_alloc | apply pw_below_drewN | apply below_drew1) | exact HB.out))) : w.heap.size ≤ gb180)); clear HB; have HB := n0_; have BK180 := n1_; have GW180 := n2_; have GE180 := n3_; clear n0_ n1_ n2_ n3_; clear hb hbox hg) | ((with_reducible refine gate_dst (N := 3) rfl ?_); refine box_event ?hg (N := 3) ?hd (cs := #[.int .i64 a1_0, .int .i64 a1_1, .int .i64 a1_2, .bool a1_3]) (t := 128) ?hr ?_; (case hd => rfl); (case hg => rfl); (case hr => first | (go_simp; done) | (go_simp; rfl)); intro gb181 hg w54 hbox hb; have n0_ := Aside0.mk (blk_below (g := gb180) (o := .cells #[.int .i64 a0_0, .int .i64 a0_1, .int .i64 a0_2, .bool a0_3] 128 (0, 0)) (by (with_reducible repeat (first | refine blk_drewN ?_ _ | refine blk_drew ?_ | refine blk_alloc ?_ _)); exact BK180.out) hb); have n1_ := Aside0.mk (below_step (by repeat (first | (with_reducible first | exact HB.out | apply below_alloc | apply pw_below_drewN | apply below_drew1 | refine below_set ?_ GE180.out) | exact HB.out)) hb); have n2_ := Aside0.mk (hbox); have n3_ := Aside0.mk ((by rw [hg]; exact (below_size (by repeat (first | (with_reducible first | exact HB.out | apply below_alloc | apply pw_below_drewN | apply below_drew1 | refine below_set ?_ GE180.out) | exact HB.out))) : w.heap.size ≤ gb181)); have n4_ := Aside0.mk ((by rw [hg]; exact (below_size (by repeat (first | (with_reducible first | exact HB.out | apply below_alloc | apply pw_below_drewN | apply below_drew1 | refine below_set ?_ GE180.out) | exact HB.out))) : w.heap.size ≤ gb181)); have n5_ := Aside0.mk ((by rw [hg]; exact Nat.ne_of_lt (blk_lt (g := gb180) (o := .cells #[.int .i64 a0_0, .int .i64 a0_1, .int .i64 a0_2, .bool a0_3] 128 (0, 0)) (by (with_reducible repeat (first | refine blk_drewN ?_ _ | refine blk_drew ?_ | refine blk_alloc ?_ _)); exact BK180.out)) : gb180 ≠ gb181)); have n6_ := Aside0.mk ((by rw [hg]; exact Nat.ne_of_gt (blk_lt (g := gb180) (o := .cells #[.int .i64 a0_0, .int .i64 a0_1, .int .i64 a0_2, .bool a0_3] 128 (0, 0)) (by (with_reducible repeat (first | refine blk_drewN ?_ _ | refine blk_drew ?_ | refine blk_alloc ?_ _)); exact BK180.out)) : gb181 ≠ gb180)); clear BK180; clear HB; have BK180 := n0_; have HB := n1_; have BK181 := n2_; have GW181 := n3_; have GE181 := n4_; have NB180_181 := n5_; have NB181_180 := n6_; clear n0_ n1_ n2_ n3_ n4_ n5_ n6_; clear hb hbox hg; have hnb55 := NB180_181.out; have hnc55 := NB181_180.out; have hcz56_0 : w54.cell? ⟨gb180, 0, none⟩ = some (.int .i64 a0_0) := (blk_cell BK180.out 0).trans rfl; have hcz56_1 : w54.cell? ⟨gb180, 1, none⟩ = some (.int .i64 a0_1) := (blk_cell BK180.out 1).trans rfl; have hcz56_2 : w54.cell? ⟨gb180, 2, none⟩ = some (.int .i64 a0_2) := (blk_cell BK180.out 2).trans rfl; have hcz56_3 : w54.cell? ⟨gb180, 3, none⟩ = some (.bool a0_3) := (blk_cell BK180.out 3).trans rfl; have hfz56_0 := blk_frozen BK180.out 0; have hfz56_1 := blk_frozen BK180.out 1; have hfz56_2 := blk_frozen BK180.out 2; have hfz56_3 := blk_frozen BK180.out 3) | ((with_reducible refine gate_callee (f := 82) rfl ?_); refine goesL_ (some 6) rfl rfl Try.func82 (by kernel_rfl) rfl #[.agg #[.int .i64 a0_0, .int .i64 a0_1, .int .i64 a0_2, .bool a0_3]] rfl (by (try simp only [List.map_toArray, List.map_cons, List.map_nil]); first | done | rfl | (simp only [List.length_drop, List.length_take]; rfl)) ?_; (with_reducible refine (clock_plain.calls a0_0 a0_1 a0_2 a0_3 false _ A3.out).mono ?_); rintro e w57 ⟨rfl, hb⟩; refine ⟨_, rfl, ?_⟩; have n0_ := Aside0.mk (blk_below (g := gb180) (o := .cells #[.int .i64 a0_0, .int .i64 a0_1, .int .i64 a0_2, .bool a0_3] 128 (0, 0)) (by (with_reducible repeat (first | refine blk_drewN ?_ _ | refine blk_drew ?_ | refine blk_alloc ?_ _)); exact BK180.out) hb); have n1_ := Aside0.mk (blk_below (g := gb181) (o := .cells #[.int .i64 a1_0, .int .i64 a1_1, .int .i64 a1_2, .bool a1_3] 128 (0, 0)) (by (with_reducible repeat (first | refine blk_drewN ?_ _ | refine blk_drew ?_ | refine blk_alloc ?_ _)); exact BK181.out) hb); have n2_ := Aside0.mk (below_step (by repeat (first | (with_reducible first | exact HB.out | apply below_alloc | apply pw_below_drewN | apply below_drew1 | refine below_set ?_ GE180.out | refine below_set ?_ GE181.out) | exact HB.out)) hb); clear BK180; clear BK181; clear HB; have BK180 := n0_; have BK181 := n1_; have HB := n2_; clear n0_ n1_ n2_; (try clear hb); (try clear hb2); (try clear hk); (try clear hi)))
    go_ret
    exact ⟨by first | rfl | (simp [errW_none, errW_some] <;> rfl) | (simp [*, errW_none, errW_some] <;> rfl), by repeat (first | (with_reducible first | exact HB.out | apply below_alloc | apply pw_below_drewN | apply below_drew1 | refine below_set ?_ GE180.out | refine below_set ?_ GE181.out) | exact HB.out)⟩
end Go.Proofs.Ytlcnckbmolefpaa.P
end
