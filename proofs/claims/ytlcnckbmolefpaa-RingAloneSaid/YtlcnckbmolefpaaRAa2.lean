/- Walks and laws of several statements of this seat, joined into one text; no condition. -/
import Derived.Test.YtlcnckbmolefpaaProg
import Derived.Below
import Derived.Deep.Draws
import Derived.Deep.AppendLies
import Derived.Maps.AppendAt
import Derived.OwnWalk
import Derived.Laws.BytesArg
import Derived.Laws.MakeOwn
import Derived.Laws.OwnMore
import Derived.Deep.OwnRows
import Derived.Tactics
import Derived.Lib.ConvBytes
import Derived.Laws.Slices
import Derived.WalkKit
import Derived.KernelRfl
import Derived.RowKit3
import Derived.Deep.LoopGhost
import Derived.Deep.QuietTactic
import Derived.BigQuiet
import Derived.WideLaws
import Derived.Deep.DeepCutAuto
import Derived.Deep.CutBlock
import Derived.Deep.RegionHeld3
import Derived.Laws.Rows
import Derived.Lib.AppendStr
import Derived.ArgAppend
import Derived.Laws.IdiomCopy
import Derived.OrdersHeld
import Derived.Laws.BitsLemmas
import Derived.RowKit
import Derived.Laws.StructEq
import Derived.Maps.RangeWalk
import Derived.Maps.OwnRows
import Derived.Maps.Views
import Derived.Maps.OwnSet
import Derived.IntWalk
import Derived.Shelf.SlMaps.Clone
import Derived.Laws.CopyOwn
import Derived.Deep.RegionLaw
import Derived.LoopTactic
import Derived.Outline
import Derived.Lib.BufferMore
import Derived.Deep.CutRange
import Derived.Lib.Zigzag
import Derived.Laws.EntriesVeiled
import Derived.Lib.Builder
import Derived.LaidEqlPtr
import Derived.Test.YtlcnckbmolefpaaRAa0
import Derived.Test.YtlcnckbmolefpaaRAa1
section
namespace Go.Proofs.Ytlcnckbmolefpaa.P
open Go.RowKit Go.Maps Go.Proofs.Ytlcnckbmolefpaa.CK Go.Proofs.YtlcnckbmolefpaaW.PrintWords Go.Proofs.YtlcnckbmolefpaaW.PrintLast Go.Proofs.YtlcnckbmolefpaaW.PrintMore
attribute [local go_sem] max2_int min2_int max_two min_two
set_option linter.unusedVariables false
set_option linter.unusedSimpArgs false
set_option maxRecDepth 100000
section
variable {w w' w2 : World} {B : Nat} {own own' : Nat → Prop} {gr na : Nat} {M M' : MS} {R R' : RC} {A A' : AC} {bl bl' : List S143}
theorem RG.turnB (h : RG w B own gr na M R A bl) (hk : Kept w w' (fun k => k = na)) (ha : ActAt w' gr na A') (hb : ∃ Ab cb, A'.b = .slice Ab bl'.length cb ∧ bl'.length ≤ cb ∧ Kd.F k143 w' (fun k => ¬ own k ∧ k ≠ gr ∧ k ≠ na ∧ k < w'.heap.size) Ab bl'.length bl') : RG w' B own gr na M R A' bl' :=
  ⟨h.mem.kept hk (fun k ho e => h.a1 (e ▸ ho)), (hk.2 gr (blk_lt h.ring) h.ne).trans h.ring, ha, h.fit, h.r1, h.a1, h.ne, h.gB, h.aB, hb⟩
theorem RGTo.turnB (h : RGTo w w' B own gr na M R A bl) (hk : Kept w' w2 (fun k => k = na)) (hb : Below B w' w2) (ha : ActAt w2 gr na A') (hbb : ∀ own', RG w' B own' gr na M R A bl → ∃ Ab cb, A'.b = .slice Ab bl'.length cb ∧ bl'.length ≤ cb ∧ Kd.F k143 w2 (fun k => ¬ own' k ∧ k ≠ gr ∧ k ≠ na ∧ k < w2.heap.size) Ab bl'.length bl') : RGTo w w2 B own gr na M R A' bl' := by
  obtain ⟨own', h1, hs, hk1, hb1⟩ := h
  exact ⟨own', h1.turnB hk ha (hbb own' h1), hs, kept_trans hk1 (kept_or hk (fun k e => .inl (.inr (.inr e)))), hb1.trans hb⟩
theorem RGTo.ofRing (h : RG w B own gr na M R A bl) (hk : Kept w w' (fun k => k = gr)) (hb : Below B w w') (h2 : RGTo w' w2 B own gr na M' R' A' bl') : RGTo w w2 B own gr na M' R' A' bl' := by
  obtain ⟨own', h3, hs, hk2, hb2⟩ := h2
  exact ⟨own', h3, fun k ho => (hs k ho).imp id (Nat.le_trans hk.1), kept_trans (kept_or hk (fun k e => .inr (.inl e))) (kept_or hk2 (fun k => .inl)), hb.trans hb2⟩
theorem wrapu (x : Int) : 0 ≤ IntKind.u64.wrap x ∧ IntKind.u64.wrap x < 18446744073709551616 := by rw [IntKind.wrap_u64]; omega
theorem RGTo.trans (h : RGTo w w' B own gr na M R A bl) (h2 : ∀ own', RG w' B own' gr na M R A bl → RGTo w' w2 B own' gr na M' R' A' bl') : RGTo w w2 B own gr na M' R' A' bl' := by
  obtain ⟨own', h1, hs, hk, hb⟩ := h
  obtain ⟨own2, h3, hs3, hk3, hb3⟩ := h2 own' h1
  refine ⟨own2, h3, fun k ho => (hs3 k ho).elim (hs k) (fun hl => .inr (Nat.le_trans hk.1 hl)), kept_trans hk (kept_or hk3 (fun k e => ?_)), hb.trans hb3⟩
  rcases e with e | e
  · exact (hs k e).imp .inl id
  · exact .inl (.inr e)
end
section
variable {W : World} {B : Nat} {own : Nat → Prop} {gr na : Nat} {M : MS} {R : RC} {A : AC} {bl : List S143}
theorem some_C (emp : Bool) (h : RG W B own gr na M R A bl) (ho : A.out = true) (hwho : (Lit.int .i64 A.who).wf = true) (hlog : M.log.length ≤ 1000000) (hd : (M.load A.who R.wi == R.co) = emp) :
    Calls Try.prog 94 #[.pointer (some ⟨na, 0, none⟩)] W fun e w' => e = .returned (.tuple #[]) ∧ RGTo W w' B own gr na (M.loadTo A.who R.wi) R (if emp then { A with st := .nilFunc, ok := false } else { A with st := stg 113 }) bl := by
  obtain ⟨hx0, hx1, hx2, hx3, hx4, hx5, hx6, hx7⟩ := h.act.cell
  obtain ⟨hy0, hy1, hy2, hy3, hy4, hy5, hy6, hy7, hy8⟩ := h.ring.cell
  unfold AC.own at hx2
  unfold AC.far at hx3
  rw [ho] at hx2 hx3
  simp only [if_true] at hx2 hx3
  have H := Aside0.mk h
  have H1 := Aside0.mk (h.below (below_drew (Below.refl _ W)))
  obtain ⟨ld, hld⟩ : ∃ ld, M.load A.who R.wi = ld := ⟨_, rfl⟩
  have LC0 := Load_C A.who R.wi hwho H1.out.mem hlog
  rw [hld] at hd LC0
  have LC := Aside0.mk LC0
  clear h hwho hlog hld LC0 ho hx4 hx5 hx6 hx7 hy1 hy2 hy4 hy5 hy6 hy8
  go_enter Try.func94, Try.ntmps94
  go_upto_region 0 with fail
  go_region_held3 (fun w' => w'.cell? ⟨na, 0, none⟩ = some (.pointer (some ⟨gr, 0, none⟩)) ∧ w'.cell? ⟨na, 1, none⟩ = some (.int .i64 A.who) ∧ w'.cell? ⟨na, 2, none⟩ = some (.pointer (some ⟨gr, 6, none⟩)) ∧ w'.cell? ⟨na, 3, none⟩ = some (.pointer (some ⟨gr, 3, none⟩)) ∧ w'.cell? ⟨gr, 0, none⟩ = some (.pointer (some ⟨R.gm, 0, none⟩)) ∧ w'.cell? ⟨gr, 3, none⟩ = some (.int .i64 R.wi) ∧ w'.cell? ⟨gr, 7, none⟩ = some (.int .u64 R.co))
    (first | exact ⟨hx0, hx1, hx2, hx3, hy0, hy3, hy7⟩ | exact hN5)
    (first | (go_at_call 36; ((with_reducible refine LC.out.mono ?_); rintro e w5 ⟨rfl, hn⟩; have hN5 : w5.cell? ⟨na, 0, none⟩ = some (.pointer (some ⟨gr, 0, none⟩)) ∧ w5.cell? ⟨na, 1, none⟩ = some (.int .i64 A.who) ∧ w5.cell? ⟨na, 2, none⟩ = some (.pointer (some ⟨gr, 6, none⟩)) ∧ w5.cell? ⟨na, 3, none⟩ = some (.pointer (some ⟨gr, 3, none⟩)) ∧ w5.cell? ⟨gr, 0, none⟩ = some (.pointer (some ⟨R.gm, 0, none⟩)) ∧ w5.cell? ⟨gr, 3, none⟩ = some (.int .i64 R.wi) ∧ w5.cell? ⟨gr, 7, none⟩ = some (.int .u64 R.co) := ⟨(cell_eq' (hn.2.1.2 na (blk_lt H1.out.act) H1.out.a1)).trans hx0, (cell_eq' (hn.2.1.2 na (blk_lt H1.out.act) H1.out.a1)).trans hx1, (cell_eq' (hn.2.1.2 na (blk_lt H1.out.act) H1.out.a1)).trans hx2, (cell_eq' (hn.2.1.2 na (blk_lt H1.out.act) H1.out.a1)).trans hx3, (cell_eq' (hn.2.1.2 gr (blk_lt H1.out.ring) H1.out.r1)).trans hy0, (cell_eq' (hn.2.1.2 gr (blk_lt H1.out.ring) H1.out.r1)).trans hy3, (cell_eq' (hn.2.1.2 gr (blk_lt H1.out.ring) H1.out.r1)).trans hy7⟩; have HN := Aside0.mk (RGTo.nextM H1.out hn); clear hn)))
  all_goals
    have HT := Aside0.mk (RGTo.of_below H.out (below_drew (Below.refl _ W)) HN.out)
    obtain ⟨own1, hrg, hs1, hk1, hb1⟩ := HT.out
    have HG := Aside0.mk hrg
    have hq4 := hrg.act.cell.2.2.2.2.1
    have hqz := blk_frozen hrg.act 4
    clear hrg hs1 hk1 hb1
    cases emp
    · go_wp2
      ((try simp only [Exit.inBlock, Exit.then]); first | refine bodyPost_ret (results_none rfl _ _ _) rfl ?_ | refine bodyPost_end (results_none rfl _ _ _) rfl ?_)
      exact ⟨rfl, HT.out.turn ((Kept.refl _ (fun k => k = na)).setCell (p := ⟨na, 4, none⟩) (.inl rfl) _) ((Below.refl B _).setCell (p := ⟨na, 4, none⟩) HG.out.aB _) (blk_put HG.out.act 4 _ rfl) rfl⟩
    · go_wp2_with (first | (go_at_call 112; ((with_reducible refine (done_C HG.out.act false).mono ?_); rintro e w6 ⟨rfl, ha, hk, hb⟩; have HD := Aside0.mk (show _ ∧ _ ∧ _ from ⟨ha, hk, hb B HG.out.aB⟩); clear ha hk hb)))
      ((try simp only [Exit.inBlock, Exit.then]); first | refine bodyPost_ret (results_none rfl _ _ _) rfl ?_ | refine bodyPost_end (results_none rfl _ _ _) rfl ?_)
      exact ⟨rfl, HT.out.turn HD.out.2.1 HD.out.2.2 HD.out.1 rfl⟩
theorem lay_C (h : RG W B own gr na M R A bl) (hwho : (Lit.int .i64 A.who).wf = true) (hlog : M.log.length ≤ 1000000) (hbl : bl.length ≤ 1000000) :
    Calls Try.prog 114 #[.pointer (some ⟨na, 0, none⟩)] W fun e w' => e = .returned (.tuple #[]) ∧ RGTo W w' B own gr na (M.set_ A.who (R.place (A.cnt R)) bl) R { A with st := stg 123 } bl := by
  obtain ⟨hx0, hx1, hx2, hx3, hx4, hx5, hx6, hx7⟩ := h.act.cell
  obtain ⟨hy0, hy1, hy2, hy3, hy4, hy5, hy6, hy7, hy8⟩ := h.ring.cell
  have H := Aside0.mk h
  have H1 := Aside0.mk (h.below (below_drew (Below.refl _ W)))
  have H2 := Aside0.mk (H1.out.below (below_drew (Below.refl _ W.drew)))
  have PL := Aside0.mk (place_C H1.out.act H1.out.ring H1.out.fit)
  obtain ⟨Ab, cb, eb, hcb, hF⟩ := H2.out.bx
  rw [eb] at hx5
  have SC := Aside0.mk (Set_C A.who (R.place (A.cnt R)) hwho Ab cb bl H2.out.mem hlog (Kd.F_mono hF (fun k hk => ⟨hk.1, hk.2.2.2⟩)) hcb hbl)
  clear h hwho hlog hbl hF eb hcb hx2 hx3 hx4 hx6 hx7 hy1 hy2 hy3 hy4 hy5 hy6 hy7 hy8
  go_enter Try.func114, Try.ntmps114
  go_upto_region 0 with fail
  go_region_held3 (fun w' => w'.cell? ⟨na, 0, none⟩ = some (.pointer (some ⟨gr, 0, none⟩)) ∧ w'.cell? ⟨na, 1, none⟩ = some (.int .i64 A.who) ∧ w'.cell? ⟨na, 5, none⟩ = some (.slice Ab bl.length cb) ∧ w'.cell? ⟨gr, 0, none⟩ = some (.pointer (some ⟨R.gm, 0, none⟩)))
    (first | exact ⟨hx0, hx1, hx5, hy0⟩ | exact hN5)
    (first | (go_at_call 122; ((with_reducible refine PL.out.mono ?_); rintro e w4 ⟨rfl, rfl⟩)) | (go_at_call 34; ((with_reducible refine SC.out.mono ?_); rintro e w5 ⟨rfl, hn⟩; have hN5 : w5.cell? ⟨na, 0, none⟩ = some (.pointer (some ⟨gr, 0, none⟩)) ∧ w5.cell? ⟨na, 1, none⟩ = some (.int .i64 A.who) ∧ w5.cell? ⟨na, 5, none⟩ = some (.slice Ab bl.length cb) ∧ w5.cell? ⟨gr, 0, none⟩ = some (.pointer (some ⟨R.gm, 0, none⟩)) := ⟨(cell_eq' (hn.2.1.2 na (blk_lt H2.out.act) H2.out.a1)).trans hx0, (cell_eq' (hn.2.1.2 na (blk_lt H2.out.act) H2.out.a1)).trans hx1, (cell_eq' (hn.2.1.2 na (blk_lt H2.out.act) H2.out.a1)).trans hx5, (cell_eq' (hn.2.1.2 gr (blk_lt H2.out.ring) H2.out.r1)).trans hy0⟩; have HN := Aside0.mk (RGTo.nextM H2.out hn); clear hn)))
  all_goals
    have HT := Aside0.mk (RGTo.of_below H.out ((below_drew (Below.refl _ W)).trans (below_drew (Below.refl _ W.drew))) HN.out)
    obtain ⟨own1, hrg, hs1, hk1, hb1⟩ := HT.out
    have HG := Aside0.mk hrg
    have hq4 := hrg.act.cell.2.2.2.2.1
    have hqz := blk_frozen hrg.act 4
    clear hrg hs1 hk1 hb1
    go_wp2
    ((try simp only [Exit.inBlock, Exit.then]); first | refine bodyPost_ret (results_none rfl _ _ _) rfl ?_ | refine bodyPost_end (results_none rfl _ _ _) rfl ?_)
    exact ⟨rfl, HT.out.turn ((Kept.refl _ (fun k => k = na)).setCell (p := ⟨na, 4, none⟩) (.inl rfl) _) ((Below.refl B _).setCell (p := ⟨na, 4, none⟩) HG.out.aB _) (blk_put HG.out.act 4 _ rfl) rfl⟩
theorem fetch_C (h : RG W B own gr na M R A bl) (hwho : (Lit.int .i64 A.who).wf = true) (hlog : M.log.length ≤ 1000000) (hbox : ∀ b ∈ M.boxes, b.length ≤ 1000000) :
    Calls Try.prog 113 #[.pointer (some ⟨na, 0, none⟩)] W fun e w' => e = .returned (.tuple #[]) ∧ ∃ v, RGTo W w' B own gr na (M.getTo A.who (R.place (A.cnt R))) R { A with b := v, st := stg 123 } (M.get A.who (R.place (A.cnt R))) := by
  obtain ⟨hx0, hx1, hx2, hx3, hx4, hx5, hx6, hx7⟩ := h.act.cell
  obtain ⟨hy0, hy1, hy2, hy3, hy4, hy5, hy6, hy7, hy8⟩ := h.ring.cell
  have H := Aside0.mk h
  have H1 := Aside0.mk (h.below (below_drew (Below.refl _ W)))
  have H2 := Aside0.mk (H1.out.below (below_drew (Below.refl _ W.drew)))
  have PL := Aside0.mk (place_C H1.out.act H1.out.ring H1.out.fit)
  have GC := Aside0.mk (Get_C A.who (R.place (A.cnt R)) hwho H2.out.mem hlog hbox)
  clear h hwho hlog hbox hx2 hx3 hx4 hx5 hx6 hx7 hy1 hy2 hy3 hy4 hy5 hy6 hy7 hy8
  go_enter Try.func113, Try.ntmps113
  go_upto_region 0 with fail
  go_region_held3 (fun w' => w'.cell? ⟨na, 0, none⟩ = some (.pointer (some ⟨gr, 0, none⟩)) ∧ w'.cell? ⟨na, 1, none⟩ = some (.int .i64 A.who) ∧ w'.cell? ⟨gr, 0, none⟩ = some (.pointer (some ⟨R.gm, 0, none⟩)))
    (first | exact ⟨hx0, hx1, hy0⟩ | exact hN6 | exact hN5)
    (first | (go_at_call 122; ((with_reducible refine PL.out.mono ?_); rintro e w4 ⟨rfl, rfl⟩)) | (go_at_call 39; ((with_reducible refine GC.out.mono ?_); rintro e w5 ⟨v5, own5, rfl, hr5, ⟨hc5, hs5⟩, hk5, hb5⟩; obtain ⟨A5, n5, c5, rfl⟩ := R_any hr5; have HG5 := Aside0.mk (H2.out.next hc5 hs5 hk5); have HR5 := Aside0.mk hr5; have HK5 := Aside0.mk (show _ ∧ _ ∧ _ from ⟨hs5, hk5, hb5⟩); have hz5 := blk_frozen HG5.out.act 5; have hz4 := blk_frozen HG5.out.act 4; have hw5 := HG5.out.act.cell.2.2.2.2.2.1; have hw4 := HG5.out.act.cell.2.2.2.2.1; have hN5 : w5.cell? ⟨na, 0, none⟩ = some (.pointer (some ⟨gr, 0, none⟩)) ∧ w5.cell? ⟨na, 1, none⟩ = some (.int .i64 A.who) ∧ w5.cell? ⟨gr, 0, none⟩ = some (.pointer (some ⟨R.gm, 0, none⟩)) := ⟨HG5.out.act.cell.1, HG5.out.act.cell.2.1, HG5.out.ring.cell.1⟩; have hN6 : (w5.setCell ⟨na, 5, none⟩ (.slice A5 n5 c5)).cell? ⟨na, 0, none⟩ = some (.pointer (some ⟨gr, 0, none⟩)) ∧ (w5.setCell ⟨na, 5, none⟩ (.slice A5 n5 c5)).cell? ⟨na, 1, none⟩ = some (.int .i64 A.who) ∧ (w5.setCell ⟨na, 5, none⟩ (.slice A5 n5 c5)).cell? ⟨gr, 0, none⟩ = some (.pointer (some ⟨R.gm, 0, none⟩)) := ⟨(blk_cell (blk_set HG5.out.act 5 _) 0).trans rfl, (blk_cell (blk_set HG5.out.act 5 _) 1).trans rfl, (blk_cell (blk_far HG5.out.ring HG5.out.ne _) 0).trans rfl⟩; clear hr5 hc5 hs5 hk5 hb5)))
  all_goals
    have e5 := (Kd.R_reads' HR5.out).1
    subst e5
    go_wp2
    ((try simp only [Exit.inBlock, Exit.then]); first | refine bodyPost_ret (results_none rfl _ _ _) rfl ?_ | refine bodyPost_end (results_none rfl _ _ _) rfl ?_)
    refine ⟨rfl, .slice A5 (M.get A.who (R.place (A.cnt R))).length c5, ?_⟩
    have hb2 : Below W.heap.size W W.drew.drew := (below_drew (Below.refl _ W)).trans (below_drew (Below.refl _ W.drew))
    have hka : Kept w5 ((w5.setCell ⟨na, 5, none⟩ (.slice A5 (M.get A.who (R.place (A.cnt R))).length c5)).setCell ⟨na, 4, none⟩ (stg 123)) (fun k => k = na) := ((Kept.refl _ (fun k => k = na)).setCell (p := ⟨na, 5, none⟩) (.inl rfl) _).setCell (p := ⟨na, 4, none⟩) (.inl rfl) _
    have hF := Kd.R_F (Kd.R_mono (Kd.R_bound HR5.out) (ok' := fun k => ¬ own5 k ∧ k ≠ gr ∧ k ≠ na ∧ k < w5.heap.size) (fun k hk => by
      have h1 := hk.2.1
      have h2 := blk_lt H2.out.ring
      have h3 := blk_lt H2.out.act
      exact ⟨hk.1, by omega, by omega, hk.2.2.1⟩))
    exact RGTo.of_below H.out hb2 ⟨own5, HG5.out.turnB hka (blk_put (blk_put HG5.out.act 5 _ rfl) 4 _ rfl) ⟨A5, c5, rfl, (Kd.R_reads' HR5.out).2.1, Kd.F_mono (Kd.F_step hF (fun k ho hlt => hka.2 k hlt ho.2.2.1)) (fun k ho => ⟨ho.1, ho.2.1, ho.2.2.1, Nat.lt_of_lt_of_le ho.2.2.2 hka.1⟩)⟩, HK5.out.1, kept_trans (kept_or HK5.out.2.1 (fun k => .inl)) (kept_or hka (fun k e => .inl (.inr (.inr e)))), HK5.out.2.2.trans (((Below.refl B _).setCell (p := ⟨na, 5, none⟩) HG5.out.aB _).setCell (p := ⟨na, 4, none⟩) HG5.out.aB _)⟩
theorem tell_in (h : RG W B own gr na M R A bl) (ho : A.out = false) (hwho : (Lit.int .i64 A.who).wf = true) (hlog : M.log.length ≤ 1000000) :
    Calls Try.prog 123 #[.pointer (some ⟨na, 0, none⟩)] W fun e w' => e = .returned (.tuple #[]) ∧ RGTo W w' B own gr na (M.store A.who R.wi (IntKind.u64.wrap (R.ci + 1))) { R with ci := IntKind.u64.wrap (R.ci + 1) } { A with st := .nilFunc, ok := true } bl := by
  obtain ⟨hx0, hx1, hx2, hx3, hx4, hx5, hx6, hx7⟩ := h.act.cell
  obtain ⟨hy0, hy1, hy2, hy3, hy4, hy5, hy6, hy7, hy8⟩ := h.ring.cell
  unfold AC.own at hx2
  unfold AC.far at hx3
  rw [ho] at hx2 hx3
  simp only [Bool.false_eq_true, if_false] at hx2 hx3
  have H := Aside0.mk h
  have hzc := blk_frozen h.ring 4
  have HR := Aside0.mk (show RingAt (W.setCell ⟨gr, 4, none⟩ (.int .u64 (IntKind.u64.wrap (R.ci + 1)))) gr { R with ci := IntKind.u64.wrap (R.ci + 1) } from blk_put h.ring 4 _ rfl)
  have HK := Aside0.mk ((Kept.refl W (fun k => k = gr)).setCell (p := ⟨gr, 4, none⟩) (.inl rfl) (.int .u64 (IntKind.u64.wrap (R.ci + 1))))
  have HB := Aside0.mk ((Below.refl B W).setCell (p := ⟨gr, 4, none⟩) h.gB (.int .u64 (IntKind.u64.wrap (R.ci + 1))))
  have HO := Aside0.mk ho
  have HW := Aside0.mk (show _ ∧ _ from ⟨hwho, hlog⟩)
  have hfit : RC.Fit { R with ci := IntKind.u64.wrap (R.ci + 1) } := ⟨h.fit.sz, h.fit.bx, wrapu _, h.fit.co⟩
  have HFT := Aside0.mk hfit
  clear h hwho hlog ho hfit
  clear hx3 hx4 hx5 hx6 hx7 hy1 hy2 hy5 hy8
  go_enter Try.func123, Try.ntmps123
  go_upto_region 1 with fail
  generalize World.setCell _ _ _ = w1 at HR HK HB ⊢
  have H1 := Aside0.mk (H.out.ringTurn HK.out HR.out HFT.out rfl)
  clear hx0 hx1 hx2 hy0 hy3 hy4 hy6 hy7 hzc
  obtain ⟨hx0, hx1, hx2, -⟩ := H1.out.act.cell
  obtain ⟨hy0, -, -, hy3, hy4, -, hy6, hy7, -⟩ := H1.out.ring.cell
  replace hx2 : w1.cell? ⟨na, 2, none⟩ = some (.pointer (some ⟨gr, 3, none⟩)) := by rw [hx2]; unfold AC.own; rw [HO.out]; rfl
  have H2 := Aside0.mk (H1.out.below (below_drew (Below.refl _ w1)))
  have SC := Aside0.mk (Store_C A.who R.wi (IntKind.u64.wrap (R.ci + 1)) HW.out.1 H2.out.mem HW.out.2)
  go_region_held3 (fun w' => w'.cell? ⟨na, 0, none⟩ = some (.pointer (some ⟨gr, 0, none⟩)) ∧ w'.cell? ⟨na, 1, none⟩ = some (.int .i64 A.who) ∧ w'.cell? ⟨na, 2, none⟩ = some (.pointer (some ⟨gr, 3, none⟩)) ∧ w'.cell? ⟨gr, 0, none⟩ = some (.pointer (some ⟨R.gm, 0, none⟩)) ∧ w'.cell? ⟨gr, 3, none⟩ = some (.int .i64 R.wi) ∧ w'.cell? ⟨gr, 4, none⟩ = some (.int .u64 (IntKind.u64.wrap (R.ci + 1))))
    (first | exact ⟨hx0, hx1, hx2, hy0, hy3, hy4⟩ | exact hN5)
    (first | (go_at_call 32; ((with_reducible refine SC.out.mono ?_); rintro e w5 ⟨rfl, hn⟩; have hN5 : w5.cell? ⟨na, 0, none⟩ = some (.pointer (some ⟨gr, 0, none⟩)) ∧ w5.cell? ⟨na, 1, none⟩ = some (.int .i64 A.who) ∧ w5.cell? ⟨na, 2, none⟩ = some (.pointer (some ⟨gr, 3, none⟩)) ∧ w5.cell? ⟨gr, 0, none⟩ = some (.pointer (some ⟨R.gm, 0, none⟩)) ∧ w5.cell? ⟨gr, 3, none⟩ = some (.int .i64 R.wi) ∧ w5.cell? ⟨gr, 4, none⟩ = some (.int .u64 (IntKind.u64.wrap (R.ci + 1))) := ⟨(cell_eq' (hn.2.1.2 na (blk_lt H2.out.act) H2.out.a1)).trans hx0, (cell_eq' (hn.2.1.2 na (blk_lt H2.out.act) H2.out.a1)).trans hx1, (cell_eq' (hn.2.1.2 na (blk_lt H2.out.act) H2.out.a1)).trans hx2, (cell_eq' (hn.2.1.2 gr (blk_lt H2.out.ring) H2.out.r1)).trans hy0, (cell_eq' (hn.2.1.2 gr (blk_lt H2.out.ring) H2.out.r1)).trans hy3, (cell_eq' (hn.2.1.2 gr (blk_lt H2.out.ring) H2.out.r1)).trans hy4⟩; have HN := Aside0.mk (RGTo.nextM H2.out hn); clear hn)))
  all_goals
    have HT := Aside0.mk (RGTo.ofRing H.out HK.out HB.out (RGTo.of_below H1.out (below_drew (Below.refl _ w1)) HN.out))
    obtain ⟨own1, hrg, hs1, hk1, hb1⟩ := HT.out
    have HG := Aside0.mk hrg
    clear hrg hs1 hk1 hb1
    go_wp2_with (first | (go_at_call 112; ((with_reducible refine (done_C HG.out.act true).mono ?_); rintro e w6 ⟨rfl, ha, hk, hb⟩; have HD := Aside0.mk (show _ ∧ _ ∧ _ from ⟨ha, hk, hb B HG.out.aB⟩); clear ha hk hb)))
    ((try simp only [Exit.inBlock, Exit.then]); first | refine bodyPost_ret (results_none rfl _ _ _) rfl ?_ | refine bodyPost_end (results_none rfl _ _ _) rfl ?_)
    exact ⟨rfl, HT.out.turn HD.out.2.1 HD.out.2.2 HD.out.1 rfl⟩
theorem tell_out (h : RG W B own gr na M R A bl) (ho : A.out = true) (hwho : (Lit.int .i64 A.who).wf = true) (hlog : M.log.length ≤ 1000000) :
    Calls Try.prog 123 #[.pointer (some ⟨na, 0, none⟩)] W fun e w' => e = .returned (.tuple #[]) ∧ RGTo W w' B own gr na (M.store A.who R.wo (IntKind.u64.wrap (R.co + 1))) { R with co := IntKind.u64.wrap (R.co + 1) } { A with st := .nilFunc, ok := true } bl := by
  obtain ⟨hx0, hx1, hx2, hx3, hx4, hx5, hx6, hx7⟩ := h.act.cell
  obtain ⟨hy0, hy1, hy2, hy3, hy4, hy5, hy6, hy7, hy8⟩ := h.ring.cell
  unfold AC.own at hx2
  unfold AC.far at hx3
  rw [ho] at hx2 hx3
  simp only [if_true] at hx2 hx3
  have H := Aside0.mk h
  have hzc := blk_frozen h.ring 7
  have HR := Aside0.mk (show RingAt (W.setCell ⟨gr, 7, none⟩ (.int .u64 (IntKind.u64.wrap (R.co + 1)))) gr { R with co := IntKind.u64.wrap (R.co + 1) } from blk_put h.ring 7 _ rfl)
  have HK := Aside0.mk ((Kept.refl W (fun k => k = gr)).setCell (p := ⟨gr, 7, none⟩) (.inl rfl) (.int .u64 (IntKind.u64.wrap (R.co + 1))))
  have HB := Aside0.mk ((Below.refl B W).setCell (p := ⟨gr, 7, none⟩) h.gB (.int .u64 (IntKind.u64.wrap (R.co + 1))))
  have HO := Aside0.mk ho
  have HW := Aside0.mk (show _ ∧ _ from ⟨hwho, hlog⟩)
  have hfit : RC.Fit { R with co := IntKind.u64.wrap (R.co + 1) } := ⟨h.fit.sz, h.fit.bx, h.fit.ci, wrapu _⟩
  have HFT := Aside0.mk hfit
  clear h hwho hlog ho hfit
  clear hx3 hx4 hx5 hx6 hx7 hy1 hy2 hy5 hy8
  go_enter Try.func123, Try.ntmps123
  go_upto_region 1 with fail
  generalize World.setCell _ _ _ = w1 at HR HK HB ⊢
  have H1 := Aside0.mk (H.out.ringTurn HK.out HR.out HFT.out rfl)
  clear hx0 hx1 hx2 hy0 hy3 hy4 hy6 hy7 hzc
  obtain ⟨hx0, hx1, hx2, -⟩ := H1.out.act.cell
  obtain ⟨hy0, -, -, hy3, hy4, -, hy6, hy7, -⟩ := H1.out.ring.cell
  replace hx2 : w1.cell? ⟨na, 2, none⟩ = some (.pointer (some ⟨gr, 6, none⟩)) := by rw [hx2]; unfold AC.own; rw [HO.out]; rfl
  have H2 := Aside0.mk (H1.out.below (below_drew (Below.refl _ w1)))
  have SC := Aside0.mk (Store_C A.who R.wo (IntKind.u64.wrap (R.co + 1)) HW.out.1 H2.out.mem HW.out.2)
  go_region_held3 (fun w' => w'.cell? ⟨na, 0, none⟩ = some (.pointer (some ⟨gr, 0, none⟩)) ∧ w'.cell? ⟨na, 1, none⟩ = some (.int .i64 A.who) ∧ w'.cell? ⟨na, 2, none⟩ = some (.pointer (some ⟨gr, 6, none⟩)) ∧ w'.cell? ⟨gr, 0, none⟩ = some (.pointer (some ⟨R.gm, 0, none⟩)) ∧ w'.cell? ⟨gr, 6, none⟩ = some (.int .i64 R.wo) ∧ w'.cell? ⟨gr, 7, none⟩ = some (.int .u64 (IntKind.u64.wrap (R.co + 1))))
    (first | exact ⟨hx0, hx1, hx2, hy0, hy6, hy7⟩ | exact hN5)
    (first | (go_at_call 32; ((with_reducible refine SC.out.mono ?_); rintro e w5 ⟨rfl, hn⟩; have hN5 : w5.cell? ⟨na, 0, none⟩ = some (.pointer (some ⟨gr, 0, none⟩)) ∧ w5.cell? ⟨na, 1, none⟩ = some (.int .i64 A.who) ∧ w5.cell? ⟨na, 2, none⟩ = some (.pointer (some ⟨gr, 6, none⟩)) ∧ w5.cell? ⟨gr, 0, none⟩ = some (.pointer (some ⟨R.gm, 0, none⟩)) ∧ w5.cell? ⟨gr, 6, none⟩ = some (.int .i64 R.wo) ∧ w5.cell? ⟨gr, 7, none⟩ = some (.int .u64 (IntKind.u64.wrap (R.co + 1))) := ⟨(cell_eq' (hn.2.1.2 na (blk_lt H2.out.act) H2.out.a1)).trans hx0, (cell_eq' (hn.2.1.2 na (blk_lt H2.out.act) H2.out.a1)).trans hx1, (cell_eq' (hn.2.1.2 na (blk_lt H2.out.act) H2.out.a1)).trans hx2, (cell_eq' (hn.2.1.2 gr (blk_lt H2.out.ring) H2.out.r1)).trans hy0, (cell_eq' (hn.2.1.2 gr (blk_lt H2.out.ring) H2.out.r1)).trans hy6, (cell_eq' (hn.2.1.2 gr (blk_lt H2.out.ring) H2.out.r1)).trans hy7⟩; have HN := Aside0.mk (RGTo.nextM H2.out hn); clear hn)))
  all_goals
    have HT := Aside0.mk (RGTo.ofRing H.out HK.out HB.out (RGTo.of_below H1.out (below_drew (Below.refl _ w1)) HN.out))
    obtain ⟨own1, hrg, hs1, hk1, hb1⟩ := HT.out
    have HG := Aside0.mk hrg
    clear hrg hs1 hk1 hb1
    go_wp2_with (first | (go_at_call 112; ((with_reducible refine (done_C HG.out.act true).mono ?_); rintro e w6 ⟨rfl, ha, hk, hb⟩; have HD := Aside0.mk (show _ ∧ _ ∧ _ from ⟨ha, hk, hb B HG.out.aB⟩); clear ha hk hb)))
    ((try simp only [Exit.inBlock, Exit.then]); first | refine bodyPost_ret (results_none rfl _ _ _) rfl ?_ | refine bodyPost_end (results_none rfl _ _ _) rfl ?_)
    exact ⟨rfl, HT.out.turn HD.out.2.1 HD.out.2.2 HD.out.1 rfl⟩
end
set_option maxRecDepth 100000
section
variable {W : World} {B : Nat} {own : Nat → Prop} {gr na : Nat} {M M' : MS} {R R' : RC} {A A' : AC} {bl bl' : List S143}
theorem Step95e (h : RG W B own gr na M R A bl) (hs : A.st = stg 95) (hsl : (M.beds A.who).isSome = false) (hwho : (Lit.int .i64 A.who).wf = true) (hs2 : A'.st = .nilFunc)
    (hstep : ∀ W1, RG W1 B own gr na M R A bl → Calls Try.prog 95 #[.pointer (some ⟨na, 0, none⟩)] W1 fun e w' => e = .returned (.tuple #[]) ∧ ∃ v, RGTo W1 w' B own gr na M' R' { A' with b := v } bl') :
    Calls Try.prog 78 #[.pointer (some ⟨na, 0, none⟩)] W fun e w' => e = .returned (.bool true) ∧ ∃ v, RGTo W w' B own gr na M' R' { A' with b := v, mark := (M'.log.length : Int) } bl' := by
  obtain ⟨hx0, hx1, -, -, hx4, -, -, -⟩ := h.act.cell
  obtain ⟨hy0, -, -, -, -, -, -, -, -⟩ := h.ring.cell
  have H := Aside0.mk h
  have H1 := Aside0.mk (h.below (below_drew (Below.refl _ W)))
  have OV := Aside0.mk (Over_on H1.out.act hs)
  have AS0 := Asleep_C A.who hwho H1.out.mem
  rw [hsl] at AS0
  have ASL := Aside0.mk AS0
  have ST := Aside0.mk (hstep W.drew H1.out)
  have HS2 := Aside0.mk hs2
  rw [hs] at hx4
  unfold stg at hx4
  clear h hsl hwho AS0 hstep hs hs2
  go_enter Try.func78, Try.ntmps78
  go_upto_region 1 with fail
  go_region_held3 (fun w' => w'.cell? ⟨na, 0, none⟩ = some (.pointer (some ⟨gr, 0, none⟩)) ∧ w'.cell? ⟨na, 1, none⟩ = some (.int .i64 A.who) ∧ w'.cell? ⟨gr, 0, none⟩ = some (.pointer (some ⟨R.gm, 0, none⟩)))
    (exact ⟨hx0, hx1, hy0⟩)
    (first | (go_at_call 57; ((with_reducible refine OV.out.mono ?_); rintro e w4 ⟨rfl, rfl⟩)) | (go_at_call 44; ((with_reducible refine ASL.out.mono ?_); rintro e w4 ⟨rfl, rfl⟩)))
  all_goals
    go_upto_region 4 with (first | (go_at_call 95; ((with_reducible refine ST.out.mono ?_); rintro e w5 ⟨rfl, v, hT⟩; have HT := Aside0.mk (RGTo.of_below H.out (below_drew (Below.refl _ W)) hT); clear hT)))
    obtain ⟨own1, hrg, hs1, hk1, hb1⟩ := HT.out
    have HG := Aside0.mk hrg
    clear hx0 hx1 hx4 hy0
    have hx0 := hrg.act.cell.1
    have hx4 := hrg.act.cell.2.2.2.2.1
    have hx7 := hrg.act.cell.2.2.2.2.2.2.2
    have hz7 := blk_frozen hrg.act 7
    have hy0 := hrg.ring.cell.1
    replace hx4 : w5.cell? ⟨na, 4, none⟩ = some (.nilFunc) := by rw [hx4]; exact congrArg some HS2.out
    clear hrg hs1 hk1 hb1
    have hrun := fun W : World => eql_nil W
    have TM := Aside0.mk (Time_C HG.out.mem)
    go_wp2_with (first | (go_at_call 43; ((with_reducible refine TM.out.mono ?_); rintro e w6 ⟨rfl, hw6⟩; obtain rfl : w5 = w6 := hw6.symm)))
    go_ret
    exact ⟨rfl, v, HT.out.turn ((Kept.refl _ (fun k => k = na)).setCell (p := ⟨na, 7, none⟩) (.inl rfl) _) ((Below.refl B _).setCell (p := ⟨na, 7, none⟩) HG.out.aB _) (blk_put HG.out.act 7 _ rfl) rfl⟩
theorem Step95 (h : RG W B own gr na M R A bl) (hs : A.st = stg 95) (hsl : (M.beds A.who).isSome = false) (hwho : (Lit.int .i64 A.who).wf = true) (hs2 : A'.st = stg 114)
    (hstep : ∀ W1, RG W1 B own gr na M R A bl → Calls Try.prog 95 #[.pointer (some ⟨na, 0, none⟩)] W1 fun e w' => e = .returned (.tuple #[]) ∧ ∃ v, RGTo W1 w' B own gr na M' R' { A' with b := v } bl') :
    Calls Try.prog 78 #[.pointer (some ⟨na, 0, none⟩)] W fun e w' => e = .returned (.bool false) ∧ ∃ v, RGTo W w' B own gr na M' R' { A' with b := v } bl' := by
  obtain ⟨hx0, hx1, -, -, hx4, -, -, -⟩ := h.act.cell
  obtain ⟨hy0, -, -, -, -, -, -, -, -⟩ := h.ring.cell
  have H := Aside0.mk h
  have H1 := Aside0.mk (h.below (below_drew (Below.refl _ W)))
  have OV := Aside0.mk (Over_on H1.out.act hs)
  have AS0 := Asleep_C A.who hwho H1.out.mem
  rw [hsl] at AS0
  have ASL := Aside0.mk AS0
  have ST := Aside0.mk (hstep W.drew H1.out)
  have HS2 := Aside0.mk hs2
  rw [hs] at hx4
  unfold stg at hx4
  clear h hsl hwho AS0 hstep hs hs2
  go_enter Try.func78, Try.ntmps78
  go_upto_region 1 with fail
  go_region_held3 (fun w' => w'.cell? ⟨na, 0, none⟩ = some (.pointer (some ⟨gr, 0, none⟩)) ∧ w'.cell? ⟨na, 1, none⟩ = some (.int .i64 A.who) ∧ w'.cell? ⟨gr, 0, none⟩ = some (.pointer (some ⟨R.gm, 0, none⟩)))
    (exact ⟨hx0, hx1, hy0⟩)
    (first | (go_at_call 57; ((with_reducible refine OV.out.mono ?_); rintro e w4 ⟨rfl, rfl⟩)) | (go_at_call 44; ((with_reducible refine ASL.out.mono ?_); rintro e w4 ⟨rfl, rfl⟩)))
  all_goals
    go_upto_region 4 with (first | (go_at_call 95; ((with_reducible refine ST.out.mono ?_); rintro e w5 ⟨rfl, v, hT⟩; have HT := Aside0.mk (RGTo.of_below H.out (below_drew (Below.refl _ W)) hT); clear hT)))
    obtain ⟨own1, hrg, hs1, hk1, hb1⟩ := HT.out
    have HG := Aside0.mk hrg
    clear hx0 hx1 hx4 hy0
    have hx0 := hrg.act.cell.1
    have hx4 := hrg.act.cell.2.2.2.2.1
    have hx7 := hrg.act.cell.2.2.2.2.2.2.2
    have hz7 := blk_frozen hrg.act 7
    have hy0 := hrg.ring.cell.1
    replace hx4 : w5.cell? ⟨na, 4, none⟩ = some (.func (.func 114) #[] #[]) := by rw [hx4]; exact congrArg some HS2.out
    clear hrg hs1 hk1 hb1
    have hrun := fun W : World => eql_func 114 W
    go_wp2
    go_ret
    exact ⟨rfl, v, HT.out⟩
theorem Step114 (h : RG W B own gr na M R A bl) (hs : A.st = stg 114) (hsl : (M.beds A.who).isSome = false) (hwho : (Lit.int .i64 A.who).wf = true) (hs2 : A'.st = stg 123)
    (hstep : ∀ W1, RG W1 B own gr na M R A bl → Calls Try.prog 114 #[.pointer (some ⟨na, 0, none⟩)] W1 fun e w' => e = .returned (.tuple #[]) ∧ ∃ v, RGTo W1 w' B own gr na M' R' { A' with b := v } bl') :
    Calls Try.prog 78 #[.pointer (some ⟨na, 0, none⟩)] W fun e w' => e = .returned (.bool false) ∧ ∃ v, RGTo W w' B own gr na M' R' { A' with b := v } bl' := by
  obtain ⟨hx0, hx1, -, -, hx4, -, -, -⟩ := h.act.cell
  obtain ⟨hy0, -, -, -, -, -, -, -, -⟩ := h.ring.cell
  have H := Aside0.mk h
  have H1 := Aside0.mk (h.below (below_drew (Below.refl _ W)))
  have OV := Aside0.mk (Over_on H1.out.act hs)
  have AS0 := Asleep_C A.who hwho H1.out.mem
  rw [hsl] at AS0
  have ASL := Aside0.mk AS0
  have ST := Aside0.mk (hstep W.drew H1.out)
  have HS2 := Aside0.mk hs2
  rw [hs] at hx4
  unfold stg at hx4
  clear h hsl hwho AS0 hstep hs hs2
  go_enter Try.func78, Try.ntmps78
  go_upto_region 1 with fail
  go_region_held3 (fun w' => w'.cell? ⟨na, 0, none⟩ = some (.pointer (some ⟨gr, 0, none⟩)) ∧ w'.cell? ⟨na, 1, none⟩ = some (.int .i64 A.who) ∧ w'.cell? ⟨gr, 0, none⟩ = some (.pointer (some ⟨R.gm, 0, none⟩)))
    (exact ⟨hx0, hx1, hy0⟩)
    (first | (go_at_call 57; ((with_reducible refine OV.out.mono ?_); rintro e w4 ⟨rfl, rfl⟩)) | (go_at_call 44; ((with_reducible refine ASL.out.mono ?_); rintro e w4 ⟨rfl, rfl⟩)))
  all_goals
    go_upto_region 4 with (first | (go_at_call 114; ((with_reducible refine ST.out.mono ?_); rintro e w5 ⟨rfl, v, hT⟩; have HT := Aside0.mk (RGTo.of_below H.out (below_drew (Below.refl _ W)) hT); clear hT)))
    obtain ⟨own1, hrg, hs1, hk1, hb1⟩ := HT.out
    have HG := Aside0.mk hrg
    clear hx0 hx1 hx4 hy0
    have hx0 := hrg.act.cell.1
    have hx4 := hrg.act.cell.2.2.2.2.1
    have hx7 := hrg.act.cell.2.2.2.2.2.2.2
    have hz7 := blk_frozen hrg.act 7
    have hy0 := hrg.ring.cell.1
    replace hx4 : w5.cell? ⟨na, 4, none⟩ = some (.func (.func 123) #[] #[]) := by rw [hx4]; exact congrArg some HS2.out
    clear hrg hs1 hk1 hb1
    have hrun := fun W : World => eql_func 123 W
    go_wp2
    go_ret
    exact ⟨rfl, v, HT.out⟩
theorem Step94e (h : RG W B own gr na M R A bl) (hs : A.st = stg 94) (hsl : (M.beds A.who).isSome = false) (hwho : (Lit.int .i64 A.who).wf = true) (hs2 : A'.st = .nilFunc)
    (hstep : ∀ W1, RG W1 B own gr na M R A bl → Calls Try.prog 94 #[.pointer (some ⟨na, 0, none⟩)] W1 fun e w' => e = .returned (.tuple #[]) ∧ ∃ v, RGTo W1 w' B own gr na M' R' { A' with b := v } bl') :
    Calls Try.prog 78 #[.pointer (some ⟨na, 0, none⟩)] W fun e w' => e = .returned (.bool true) ∧ ∃ v, RGTo W w' B own gr na M' R' { A' with b := v, mark := (M'.log.length : Int) } bl' := by
  obtain ⟨hx0, hx1, -, -, hx4, -, -, -⟩ := h.act.cell
  obtain ⟨hy0, -, -, -, -, -, -, -, -⟩ := h.ring.cell
  have H := Aside0.mk h
  have H1 := Aside0.mk (h.below (below_drew (Below.refl _ W)))
  have OV := Aside0.mk (Over_on H1.out.act hs)
  have AS0 := Asleep_C A.who hwho H1.out.mem
  rw [hsl] at AS0
  have ASL := Aside0.mk AS0
  have ST := Aside0.mk (hstep W.drew H1.out)
  have HS2 := Aside0.mk hs2
  rw [hs] at hx4
  unfold stg at hx4
  clear h hsl hwho AS0 hstep hs hs2
  go_enter Try.func78, Try.ntmps78
  go_upto_region 1 with fail
  go_region_held3 (fun w' => w'.cell? ⟨na, 0, none⟩ = some (.pointer (some ⟨gr, 0, none⟩)) ∧ w'.cell? ⟨na, 1, none⟩ = some (.int .i64 A.who) ∧ w'.cell? ⟨gr, 0, none⟩ = some (.pointer (some ⟨R.gm, 0, none⟩)))
    (exact ⟨hx0, hx1, hy0⟩)
    (first | (go_at_call 57; ((with_reducible refine OV.out.mono ?_); rintro e w4 ⟨rfl, rfl⟩)) | (go_at_call 44; ((with_reducible refine ASL.out.mono ?_); rintro e w4 ⟨rfl, rfl⟩)))
  all_goals
    go_upto_region 4 with (first | (go_at_call 94; ((with_reducible refine ST.out.mono ?_); rintro e w5 ⟨rfl, v, hT⟩; have HT := Aside0.mk (RGTo.of_below H.out (below_drew (Below.refl _ W)) hT); clear hT)))
    obtain ⟨own1, hrg, hs1, hk1, hb1⟩ := HT.out
    have HG := Aside0.mk hrg
    clear hx0 hx1 hx4 hy0
    have hx0 := hrg.act.cell.1
    have hx4 := hrg.act.cell.2.2.2.2.1
    have hx7 := hrg.act.cell.2.2.2.2.2.2.2
    have hz7 := blk_frozen hrg.act 7
    have hy0 := hrg.ring.cell.1
    replace hx4 : w5.cell? ⟨na, 4, none⟩ = some (.nilFunc) := by rw [hx4]; exact congrArg some HS2.out
    clear hrg hs1 hk1 hb1
    have hrun := fun W : World => eql_nil W
    have TM := Aside0.mk (Time_C HG.out.mem)
    go_wp2_with (first | (go_at_call 43; ((with_reducible refine TM.out.mono ?_); rintro e w6 ⟨rfl, hw6⟩; obtain rfl : w5 = w6 := hw6.symm)))
    go_ret
    exact ⟨rfl, v, HT.out.turn ((Kept.refl _ (fun k => k = na)).setCell (p := ⟨na, 7, none⟩) (.inl rfl) _) ((Below.refl B _).setCell (p := ⟨na, 7, none⟩) HG.out.aB _) (blk_put HG.out.act 7 _ rfl) rfl⟩
theorem Step94 (h : RG W B own gr na M R A bl) (hs : A.st = stg 94) (hsl : (M.beds A.who).isSome = false) (hwho : (Lit.int .i64 A.who).wf = true) (hs2 : A'.st = stg 113)
    (hstep : ∀ W1, RG W1 B own gr na M R A bl → Calls Try.prog 94 #[.pointer (some ⟨na, 0, none⟩)] W1 fun e w' => e = .returned (.tuple #[]) ∧ ∃ v, RGTo W1 w' B own gr na M' R' { A' with b := v } bl') :
    Calls Try.prog 78 #[.pointer (some ⟨na, 0, none⟩)] W fun e w' => e = .returned (.bool false) ∧ ∃ v, RGTo W w' B own gr na M' R' { A' with b := v } bl' := by
  obtain ⟨hx0, hx1, -, -, hx4, -, -, -⟩ := h.act.cell
  obtain ⟨hy0, -, -, -, -, -, -, -, -⟩ := h.ring.cell
  have H := Aside0.mk h
  have H1 := Aside0.mk (h.below (below_drew (Below.refl _ W)))
  have OV := Aside0.mk (Over_on H1.out.act hs)
  have AS0 := Asleep_C A.who hwho H1.out.mem
  rw [hsl] at AS0
  have ASL := Aside0.mk AS0
  have ST := Aside0.mk (hstep W.drew H1.out)
  have HS2 := Aside0.mk hs2
  rw [hs] at hx4
  unfold stg at hx4
  clear h hsl hwho AS0 hstep hs hs2
  go_enter Try.func78, Try.ntmps78
  go_upto_region 1 with fail
  go_region_held3 (fun w' => w'.cell? ⟨na, 0, none⟩ = some (.pointer (some ⟨gr, 0, none⟩)) ∧ w'.cell? ⟨na, 1, none⟩ = some (.int .i64 A.who) ∧ w'.cell? ⟨gr, 0, none⟩ = some (.pointer (some ⟨R.gm, 0, none⟩)))
    (exact ⟨hx0, hx1, hy0⟩)
    (first | (go_at_call 57; ((with_reducible refine OV.out.mono ?_); rintro e w4 ⟨rfl, rfl⟩)) | (go_at_call 44; ((with_reducible refine ASL.out.mono ?_); rintro e w4 ⟨rfl, rfl⟩)))
  all_goals
    go_upto_region 4 with (first | (go_at_call 94; ((with_reducible refine ST.out.mono ?_); rintro e w5 ⟨rfl, v, hT⟩; have HT := Aside0.mk (RGTo.of_below H.out (below_drew (Below.refl _ W)) hT); clear hT)))
    obtain ⟨own1, hrg, hs1, hk1, hb1⟩ := HT.out
    have HG := Aside0.mk hrg
    clear hx0 hx1 hx4 hy0
    have hx0 := hrg.act.cell.1
    have hx4 := hrg.act.cell.2.2.2.2.1
    have hx7 := hrg.act.cell.2.2.2.2.2.2.2
    have hz7 := blk_frozen hrg.act 7
    have hy0 := hrg.ring.cell.1
    replace hx4 : w5.cell? ⟨na, 4, none⟩ = some (.func (.func 113) #[] #[]) := by rw [hx4]; exact congrArg some HS2.out
    clear hrg hs1 hk1 hb1
    have hrun := fun W : World => eql_func 113 W
    go_wp2
    go_ret
    exact ⟨rfl, v, HT.out⟩
theorem Step113 (h : RG W B own gr na M R A bl) (hs : A.st = stg 113) (hsl : (M.beds A.who).isSome = false) (hwho : (Lit.int .i64 A.who).wf = true) (hs2 : A'.st = stg 123)
    (hstep : ∀ W1, RG W1 B own gr na M R A bl → Calls Try.prog 113 #[.pointer (some ⟨na, 0, none⟩)] W1 fun e w' => e = .returned (.tuple #[]) ∧ ∃ v, RGTo W1 w' B own gr na M' R' { A' with b := v } bl') :
    Calls Try.prog 78 #[.pointer (some ⟨na, 0, none⟩)] W fun e w' => e = .returned (.bool false) ∧ ∃ v, RGTo W w' B own gr na M' R' { A' with b := v } bl' := by
  obtain ⟨hx0, hx1, -, -, hx4, -, -, -⟩ := h.act.cell
  obtain ⟨hy0, -, -, -, -, -, -, -, -⟩ := h.ring.cell
  have H := Aside0.mk h
  have H1 := Aside0.mk (h.below (below_drew (Below.refl _ W)))
  have OV := Aside0.mk (Over_on H1.out.act hs)
  have AS0 := Asleep_C A.who hwho H1.out.mem
  rw [hsl] at AS0
  have ASL := Aside0.mk AS0
  have ST := Aside0.mk (hstep W.drew H1.out)
  have HS2 := Aside0.mk hs2
  rw [hs] at hx4
  unfold stg at hx4
  clear h hsl hwho AS0 hstep hs hs2
  go_enter Try.func78, Try.ntmps78
  go_upto_region 1 with fail
  go_region_held3 (fun w' => w'.cell? ⟨na, 0, none⟩ = some (.pointer (some ⟨gr, 0, none⟩)) ∧ w'.cell? ⟨na, 1, none⟩ = some (.int .i64 A.who) ∧ w'.cell? ⟨gr, 0, none⟩ = some (.pointer (some ⟨R.gm, 0, none⟩)))
    (exact ⟨hx0, hx1, hy0⟩)
    (first | (go_at_call 57; ((with_reducible refine OV.out.mono ?_); rintro e w4 ⟨rfl, rfl⟩)) | (go_at_call 44; ((with_reducible refine ASL.out.mono ?_); rintro e w4 ⟨rfl, rfl⟩)))
  all_goals
    go_upto_region 4 with (first | (go_at_call 113; ((with_reducible refine ST.out.mono ?_); rintro e w5 ⟨rfl, v, hT⟩; have HT := Aside0.mk (RGTo.of_below H.out (below_drew (Below.refl _ W)) hT); clear hT)))
    obtain ⟨own1, hrg, hs1, hk1, hb1⟩ := HT.out
    have HG := Aside0.mk hrg
    clear hx0 hx1 hx4 hy0
    have hx0 := hrg.act.cell.1
    have hx4 := hrg.act.cell.2.2.2.2.1
    have hx7 := hrg.act.cell.2.2.2.2.2.2.2
    have hz7 := blk_frozen hrg.act 7
    have hy0 := hrg.ring.cell.1
    replace hx4 : w5.cell? ⟨na, 4, none⟩ = some (.func (.func 123) #[] #[]) := by rw [hx4]; exact congrArg some HS2.out
    clear hrg hs1 hk1 hb1
    have hrun := fun W : World => eql_func 123 W
    go_wp2
    go_ret
    exact ⟨rfl, v, HT.out⟩
theorem Step123e (h : RG W B own gr na M R A bl) (hs : A.st = stg 123) (hsl : (M.beds A.who).isSome = false) (hwho : (Lit.int .i64 A.who).wf = true) (hs2 : A'.st = .nilFunc)
    (hstep : ∀ W1, RG W1 B own gr na M R A bl → Calls Try.prog 123 #[.pointer (some ⟨na, 0, none⟩)] W1 fun e w' => e = .returned (.tuple #[]) ∧ ∃ v, RGTo W1 w' B own gr na M' R' { A' with b := v } bl') :
    Calls Try.prog 78 #[.pointer (some ⟨na, 0, none⟩)] W fun e w' => e = .returned (.bool true) ∧ ∃ v, RGTo W w' B own gr na M' R' { A' with b := v, mark := (M'.log.length : Int) } bl' := by
  obtain ⟨hx0, hx1, -, -, hx4, -, -, -⟩ := h.act.cell
  obtain ⟨hy0, -, -, -, -, -, -, -, -⟩ := h.ring.cell
  have H := Aside0.mk h
  have H1 := Aside0.mk (h.below (below_drew (Below.refl _ W)))
  have OV := Aside0.mk (Over_on H1.out.act hs)
  have AS0 := Asleep_C A.who hwho H1.out.mem
  rw [hsl] at AS0
  have ASL := Aside0.mk AS0
  have ST := Aside0.mk (hstep W.drew H1.out)
  have HS2 := Aside0.mk hs2
  rw [hs] at hx4
  unfold stg at hx4
  clear h hsl hwho AS0 hstep hs hs2
  go_enter Try.func78, Try.ntmps78
  go_upto_region 1 with fail
  go_region_held3 (fun w' => w'.cell? ⟨na, 0, none⟩ = some (.pointer (some ⟨gr, 0, none⟩)) ∧ w'.cell? ⟨na, 1, none⟩ = some (.int .i64 A.who) ∧ w'.cell? ⟨gr, 0, none⟩ = some (.pointer (some ⟨R.gm, 0, none⟩)))
    (exact ⟨hx0, hx1, hy0⟩)
    (first | (go_at_call 57; ((with_reducible refine OV.out.mono ?_); rintro e w4 ⟨rfl, rfl⟩)) | (go_at_call 44; ((with_reducible refine ASL.out.mono ?_); rintro e w4 ⟨rfl, rfl⟩)))
  all_goals
    go_upto_region 4 with (first | (go_at_call 123; ((with_reducible refine ST.out.mono ?_); rintro e w5 ⟨rfl, v, hT⟩; have HT := Aside0.mk (RGTo.of_below H.out (below_drew (Below.refl _ W)) hT); clear hT)))
    obtain ⟨own1, hrg, hs1, hk1, hb1⟩ := HT.out
    have HG := Aside0.mk hrg
    clear hx0 hx1 hx4 hy0
    have hx0 := hrg.act.cell.1
    have hx4 := hrg.act.cell.2.2.2.2.1
    have hx7 := hrg.act.cell.2.2.2.2.2.2.2
    have hz7 := blk_frozen hrg.act 7
    have hy0 := hrg.ring.cell.1
    replace hx4 : w5.cell? ⟨na, 4, none⟩ = some (.nilFunc) := by rw [hx4]; exact congrArg some HS2.out
    clear hrg hs1 hk1 hb1
    have hrun := fun W : World => eql_nil W
    have TM := Aside0.mk (Time_C HG.out.mem)
    go_wp2_with (first | (go_at_call 43; ((with_reducible refine TM.out.mono ?_); rintro e w6 ⟨rfl, hw6⟩; obtain rfl : w5 = w6 := hw6.symm)))
    go_ret
    exact ⟨rfl, v, HT.out.turn ((Kept.refl _ (fun k => k = na)).setCell (p := ⟨na, 7, none⟩) (.inl rfl) _) ((Below.refl B _).setCell (p := ⟨na, 7, none⟩) HG.out.aB _) (blk_put HG.out.act 7 _ rfl) rfl⟩
end
open Go.RowKit Go.Proofs.YtlcnckbmolefpaaW.PrintWords Go.Proofs.YtlcnckbmolefpaaW.PrintLast Go.Proofs.YtlcnckbmolefpaaW.PrintMore
attribute [local go_sem] max2_int min2_int max_two min_two max_three min_three max_four min_four   -- for this text's walks alone
/-! ### ring_Right: function 111 -/
def ring_Right.f (a0 : Int) : Option (Bool) := if a0 ≥ 1 then (if a0 ≤ 64 then (some ((Go.bits .and .i64 a0 (wrap64 (a0 - 1))) == 0)) else (some false)) else (some false)
set_option maxHeartbeats 8000000 in
set_option maxRecDepth 100000 in
theorem ring_Right.calls (a0 : Int) (r : Bool) (w : World) (h : ring_Right.f a0 = some r) :
    Calls Try.prog 111 #[.int .i64 a0] w fun e w' => e = .returned (.bool r) ∧ Drawn0 w w' := by
  have H : (if a0 ≥ 1 then (if a0 ≤ 64 then (some ((Go.bits .and .i64 a0 (wrap64 (a0 - 1))) == 0)) else (some false)) else (some false)) = some r := h
  clear h
  by_cases c2 : a0 ≥ 1
  · rw [if_pos c2] at H
    have c2b0 : decide (1 ≤ a0) = true := decide_eq_true c2
    clear c2
    by_cases c3 : a0 ≤ 64
    · rw [if_pos c3] at H
      have c3b0 : decide (a0 ≤ 64) = true := decide_eq_true c3
      clear c3
      obtain rfl := Option.some.inj H
      go_enter Try.func111, Try.ntmps111
      go_wp2
      go_ret
      exact ⟨by first | rfl | (simp; done) | (simp [*]; done), by repeat (first | exact Drawn0.refl _ | apply Drawn0.step)⟩
    · rw [if_neg c3] at H
      have c3b0 : decide (a0 ≤ 64) = false := decide_eq_false c3
      clear c3
      obtain rfl := Option.some.inj H
      go_enter Try.func111, Try.ntmps111
      go_wp2
      go_ret
      exact ⟨by first | rfl | (simp; done) | (simp [*]; done), by repeat (first | exact Drawn0.refl _ | apply Drawn0.step)⟩
  · rw [if_neg c2] at H
    have c2b0 : decide (1 ≤ a0) = false := decide_eq_false c2
    clear c2
    obtain rfl := Option.some.inj H
    go_enter Try.func111, Try.ntmps111
    go_wp2
    go_ret
    exact ⟨by first | rfl | (simp; done) | (simp [*]; done), by repeat (first | exact Drawn0.refl _ | apply Drawn0.step)⟩
set_option maxRecDepth 100000
structure RB (w : World) (B : Nat) (own : Nat → Prop) (gr : Nat) (M : MS) (R : RC) : Prop where
  mem : MemC w B own R.gm M
  ring : RingAt w gr R
  fit : R.Fit
  r1 : ¬ own gr
  gB : B ≤ gr
section
variable {w w' W : World} {B : Nat} {own : Nat → Prop} {gr na : Nat} {M M' : MS} {R R' : RC} {A A' : AC} {bl bl' : List S143}
theorem RG.rb (h : RG w B own gr na M R A bl) : RB w B own gr M R := ⟨h.mem, h.ring, h.fit, h.r1, h.gB⟩
theorem RB.below (h : RB w B own gr M R) (hb : Below w.heap.size w w') : RB w' B own gr M R := ⟨h.mem.below hb, (hb.block gr (blk_lt h.ring)).trans h.ring, h.fit, h.r1, h.gB⟩
def AC.cells0 (A : AC) (gr : Nat) : Array Value := #[.pointer none, .int .i64 A.who, .pointer (some ⟨gr, A.own, none⟩), .pointer (some ⟨gr, A.far, none⟩), A.st, A.b, .bool A.ok, .int .i64 A.mark]
def RC.act (R : RC) (out : Bool) : Value := if out then R.ao else R.ai
theorem begin_in_ok (ha : W.heap[na]? = some (.cells (A.cells0 gr) 157 (0, 0))) (hr : RingAt W gr R) (ho : A.out = false) (hne : gr ≠ na) (hov : Calls Try.prog 57 #[R.ai] W fun e w' => e = .returned (.bool true) ∧ w' = W) :
    Calls Try.prog 93 #[.pointer (some ⟨gr, 0, none⟩), .pointer (some ⟨na, 0, none⟩)] W fun e w' => e = .returned (.pointer (some ⟨na, 0, none⟩)) ∧ ActAt w' gr na A ∧ RingAt w' gr { R with ai := .pointer (some ⟨na, 0, none⟩) } ∧ Kept W w' (fun k => k = gr ∨ k = na) ∧ ∀ B, B ≤ gr → B ≤ na → Below B W w' := by
  have hx2 : W.cell? ⟨na, 2, none⟩ = some (.pointer (some ⟨gr, 3, none⟩)) := by rw [blk_cell ha]; show some (Value.pointer (some ⟨gr, A.own, none⟩)) = _; unfold AC.own; rw [ho]; rfl
  have hx0 : W.cell? ⟨na, 0, none⟩ = some (.pointer none) := (blk_cell ha 0).trans rfl
  have hz0 := blk_frozen ha 0
  have hya : W.cell? ⟨gr, 5, none⟩ = some R.ai := (blk_cell hr 5).trans rfl
  have hza := blk_frozen hr 5
  have HO := Aside0.mk hov
  have HA := Aside0.mk ha
  have HR := Aside0.mk hr
  have HN := Aside0.mk hne
  clear hov ha hr ho
  go_enter Try.func93, Try.ntmps93
  go_wp2_with (first | (go_at_call 57; ((with_reducible refine HO.out.mono ?_); rintro e w5 ⟨rfl, hw5⟩; obtain rfl : W = w5 := hw5.symm)))
  go_ret
  refine ⟨rfl, ?_, ?_, ((Kept.refl W (fun k => k = gr ∨ k = na)).setCell (p := ⟨na, 0, none⟩) (.inl (.inr rfl)) _).setCell (p := ⟨gr, 5, none⟩) (.inl (.inl rfl)) _, fun B h1 h2 => ((Below.refl B W).setCell (p := ⟨na, 0, none⟩) h2 _).setCell (p := ⟨gr, 5, none⟩) h1 _⟩
  · exact blk_far (blk_put HA.out 0 _ rfl) (p := ⟨gr, 5, none⟩) (fun e => HN.out e.symm) _
  · exact blk_put (blk_far HR.out (p := ⟨na, 0, none⟩) HN.out _) 5 _ rfl
theorem begin_in_no (ha : W.heap[na]? = some (.cells (A.cells0 gr) 157 (0, 0))) (hr : RingAt W gr R) (ho : A.out = false) (hne : gr ≠ na) (hov : Calls Try.prog 57 #[R.ai] W fun e w' => e = .returned (.bool false) ∧ w' = W) :
    Calls Try.prog 93 #[.pointer (some ⟨gr, 0, none⟩), .pointer (some ⟨na, 0, none⟩)] W fun e w' => e = .returned (.pointer none) ∧ w' = W := by
  have hx2 : W.cell? ⟨na, 2, none⟩ = some (.pointer (some ⟨gr, 3, none⟩)) := by rw [blk_cell ha]; show some (Value.pointer (some ⟨gr, A.own, none⟩)) = _; unfold AC.own; rw [ho]; rfl
  have hx0 : W.cell? ⟨na, 0, none⟩ = some (.pointer none) := (blk_cell ha 0).trans rfl
  have hz0 := blk_frozen ha 0
  have hya : W.cell? ⟨gr, 5, none⟩ = some R.ai := (blk_cell hr 5).trans rfl
  have hza := blk_frozen hr 5
  have HO := Aside0.mk hov
  have HA := Aside0.mk ha
  have HR := Aside0.mk hr
  have HN := Aside0.mk hne
  clear hov ha hr ho
  go_enter Try.func93, Try.ntmps93
  go_wp2_with (first | (go_at_call 57; ((with_reducible refine HO.out.mono ?_); rintro e w5 ⟨rfl, hw5⟩; obtain rfl : W = w5 := hw5.symm)))
  go_ret
  exact ⟨rfl, rfl⟩
theorem begin_out_ok (ha : W.heap[na]? = some (.cells (A.cells0 gr) 157 (0, 0))) (hr : RingAt W gr R) (ho : A.out = true) (hne : gr ≠ na) (hov : Calls Try.prog 57 #[R.ao] W fun e w' => e = .returned (.bool true) ∧ w' = W) :
    Calls Try.prog 93 #[.pointer (some ⟨gr, 0, none⟩), .pointer (some ⟨na, 0, none⟩)] W fun e w' => e = .returned (.pointer (some ⟨na, 0, none⟩)) ∧ ActAt w' gr na A ∧ RingAt w' gr { R with ao := .pointer (some ⟨na, 0, none⟩) } ∧ Kept W w' (fun k => k = gr ∨ k = na) ∧ ∀ B, B ≤ gr → B ≤ na → Below B W w' := by
  have hx2 : W.cell? ⟨na, 2, none⟩ = some (.pointer (some ⟨gr, 6, none⟩)) := by rw [blk_cell ha]; show some (Value.pointer (some ⟨gr, A.own, none⟩)) = _; unfold AC.own; rw [ho]; rfl
  have hx0 : W.cell? ⟨na, 0, none⟩ = some (.pointer none) := (blk_cell ha 0).trans rfl
  have hz0 := blk_frozen ha 0
  have hya : W.cell? ⟨gr, 8, none⟩ = some R.ao := (blk_cell hr 8).trans rfl
  have hza := blk_frozen hr 8
  have HO := Aside0.mk hov
  have HA := Aside0.mk ha
  have HR := Aside0.mk hr
  have HN := Aside0.mk hne
  clear hov ha hr ho
  go_enter Try.func93, Try.ntmps93
  go_wp2_with (first | (go_at_call 57; ((with_reducible refine HO.out.mono ?_); rintro e w5 ⟨rfl, hw5⟩; obtain rfl : W = w5 := hw5.symm)))
  go_ret
  refine ⟨rfl, ?_, ?_, ((Kept.refl W (fun k => k = gr ∨ k = na)).setCell (p := ⟨na, 0, none⟩) (.inl (.inr rfl)) _).setCell (p := ⟨gr, 8, none⟩) (.inl (.inl rfl)) _, fun B h1 h2 => ((Below.refl B W).setCell (p := ⟨na, 0, none⟩) h2 _).setCell (p := ⟨gr, 8, none⟩) h1 _⟩
  · exact blk_far (blk_put HA.out 0 _ rfl) (p := ⟨gr, 8, none⟩) (fun e => HN.out e.symm) _
  · exact blk_put (blk_far HR.out (p := ⟨na, 0, none⟩) HN.out _) 8 _ rfl
theorem begin_out_no (ha : W.heap[na]? = some (.cells (A.cells0 gr) 157 (0, 0))) (hr : RingAt W gr R) (ho : A.out = true) (hne : gr ≠ na) (hov : Calls Try.prog 57 #[R.ao] W fun e w' => e = .returned (.bool false) ∧ w' = W) :
    Calls Try.prog 93 #[.pointer (some ⟨gr, 0, none⟩), .pointer (some ⟨na, 0, none⟩)] W fun e w' => e = .returned (.pointer none) ∧ w' = W := by
  have hx2 : W.cell? ⟨na, 2, none⟩ = some (.pointer (some ⟨gr, 6, none⟩)) := by rw [blk_cell ha]; show some (Value.pointer (some ⟨gr, A.own, none⟩)) = _; unfold AC.own; rw [ho]; rfl
  have hx0 : W.cell? ⟨na, 0, none⟩ = some (.pointer none) := (blk_cell ha 0).trans rfl
  have hz0 := blk_frozen ha 0
  have hya : W.cell? ⟨gr, 8, none⟩ = some R.ao := (blk_cell hr 8).trans rfl
  have hza := blk_frozen hr 8
  have HO := Aside0.mk hov
  have HA := Aside0.mk ha
  have HR := Aside0.mk hr
  have HN := Aside0.mk hne
  clear hov ha hr ho
  go_enter Try.func93, Try.ntmps93
  go_wp2_with (first | (go_at_call 57; ((with_reducible refine HO.out.mono ?_); rintro e w5 ⟨rfl, hw5⟩; obtain rfl : W = w5 := hw5.symm)))
  go_ret
  exact ⟨rfl, rfl⟩
end
set_option maxRecDepth 100000
def pushA (who : Int) (b : Value) : AC := ⟨who, false, stg 95, b, false, 0⟩
def popA (who : Int) : AC := ⟨who, true, stg 94, .slice none 0 0, false, 0⟩
section
variable {w w' w1 W : World} {B : Nat} {own : Nat → Prop} {gr na : Nat} {M M' : MS} {R R' : RC} {A A' : AC} {bl bl' : List S143}
theorem RG.begun (h : RB W B own gr M R) (hb : Below W.heap.size W w1) (hna : W.heap.size ≤ na) (ha : ActAt w' gr na A) (hr : RingAt w' gr R') (hf : R'.Fit) (hg : R'.gm = R.gm) (hk : Kept w1 w' (fun k => k = gr ∨ k = na)) (hbx : ∃ Ab cb, A.b = .slice Ab bl.length cb ∧ bl.length ≤ cb ∧ Kd.F k143 w1 (fun k => W.heap.size ≤ k ∧ k ≠ na ∧ k < w1.heap.size) Ab bl.length bl) : RG w' B own gr na M R' A bl := by
  obtain ⟨Ab, cb, e1, e2, e3⟩ := hbx
  have hgr := blk_lt h.ring
  have hB := h.mem.size
  refine ⟨by rw [hg]; exact (h.mem.below hb).kept hk (fun k ho hs => hs.elim (fun e => h.r1 (e ▸ ho)) (fun e => by have := h.mem.2 k ho; omega)), hr, ha, hf, h.r1, fun ho => by have := h.mem.2 na ho; omega, by omega, h.gB, by omega, Ab, cb, e1, e2, ?_⟩
  exact Kd.F_mono (Kd.F_step e3 (fun k ho hlt => hk.2 k hlt (fun hs => hs.elim (fun e => by have := ho.1; omega) (fun e => ho.2.1 e)))) (fun k ho => ⟨fun h2 => by have := h.mem.2 k h2; have := ho.1; omega, by have := ho.1; omega, ho.2.1, Nat.lt_of_lt_of_le ho.2.2 hk.1⟩)
theorem begun_kept (hb : Below W.heap.size W w1) (hna : W.heap.size ≤ na) (hk : Kept w1 w' (fun k => k = gr ∨ k = na)) : Kept W w' (fun k => k = gr) :=
  ⟨Nat.le_trans hb.size hk.1, fun i hi hn => (hk.2 i (Nat.lt_of_lt_of_le hi hb.size) (fun hs => hs.elim hn (fun e => by omega))).trans (hb.block i hi)⟩
theorem F_nil143 (w : World) (ok : Nat → Prop) : Kd.F k143 w ok none ([] : List S143).length [] := Kd.R_F (Kd.R_nil k143 143 w 0 ok)
theorem Pop_ok (who : Int) (h : RB W B own gr M R) (hov : ∀ w1, Below W.heap.size W w1 → Calls Try.prog 57 #[R.ao] w1 fun e w' => e = .returned (.bool true) ∧ w' = w1) :
    Calls Try.prog 56 #[.pointer (some ⟨gr, 0, none⟩), .int .i64 who] W fun e w' => ∃ na, e = .returned (.pointer (some ⟨na, 0, none⟩)) ∧ W.heap.size ≤ na ∧ RG w' B own gr na M { R with ao := .pointer (some ⟨na, 0, none⟩) } (popA who) [] ∧ Kept W w' (fun k => k = gr) ∧ Below B W w' := by
  have H := Aside0.mk h
  have HB1 := Aside0.mk (below_drew1 ((Below.refl _ W).alloc (Nat.le_refl _) (.cells #[.pointer none, .int .i64 who, .pointer (some ⟨gr, 6, none⟩), .pointer (some ⟨gr, 3, none⟩), .func (.func 94) #[] #[], .slice none 0 0, .bool false, .int .i64 0] 157)))
  have BC := Aside0.mk (begin_out_ok (W := (W.alloc (.cells #[.pointer none, .int .i64 who, .pointer (some ⟨gr, 6, none⟩), .pointer (some ⟨gr, 3, none⟩), .func (.func 94) #[] #[], .slice none 0 0, .bool false, .int .i64 0] 157)).drew) (na := W.heap.size) (A := popA who) (blk_drew (blk_new W _)) (h.below HB1.out).ring rfl (Nat.ne_of_lt (blk_lt h.ring)) (hov _ HB1.out))
  clear h hov
  go_enter Try.func56, Try.ntmps56
  go_upto_region 3 with fail
  go_region_held3 (fun w' => True)
    (trivial)
    (first | (go_at_call 93; ((with_reducible refine BC.out.mono ?_); rintro e w5 ⟨rfl, ha, hr, hk, hb⟩)))
  all_goals
    go_wp2
    go_ret
    exact ⟨W.heap.size, rfl, Nat.le_refl _, RG.begun H.out HB1.out (Nat.le_refl _) ha hr ⟨H.out.fit.sz, H.out.fit.bx, H.out.fit.ci, H.out.fit.co⟩ rfl hk ⟨none, 0, rfl, Nat.le_refl _, F_nil143 _ _⟩, begun_kept HB1.out (Nat.le_refl _) hk, (below_then (Below.refl B W) H.out.mem.size HB1.out).trans (hb B H.out.gB H.out.mem.size)⟩
theorem Pop_no (who : Int) (h : RB W B own gr M R) (hov : ∀ w1, Below W.heap.size W w1 → Calls Try.prog 57 #[R.ao] w1 fun e w' => e = .returned (.bool false) ∧ w' = w1) :
    Calls Try.prog 56 #[.pointer (some ⟨gr, 0, none⟩), .int .i64 who] W fun e w' => e = .returned (.pointer none) ∧ Below W.heap.size W w' := by
  have H := Aside0.mk h
  have HB1 := Aside0.mk (below_drew1 ((Below.refl _ W).alloc (Nat.le_refl _) (.cells #[.pointer none, .int .i64 who, .pointer (some ⟨gr, 6, none⟩), .pointer (some ⟨gr, 3, none⟩), .func (.func 94) #[] #[], .slice none 0 0, .bool false, .int .i64 0] 157)))
  have BC := Aside0.mk (begin_out_no (W := (W.alloc (.cells #[.pointer none, .int .i64 who, .pointer (some ⟨gr, 6, none⟩), .pointer (some ⟨gr, 3, none⟩), .func (.func 94) #[] #[], .slice none 0 0, .bool false, .int .i64 0] 157)).drew) (na := W.heap.size) (A := popA who) (blk_drew (blk_new W _)) (h.below HB1.out).ring rfl (Nat.ne_of_lt (blk_lt h.ring)) (hov _ HB1.out))
  clear h hov
  go_enter Try.func56, Try.ntmps56
  go_upto_region 3 with fail
  go_region_held3 (fun w' => True)
    (trivial)
    (first | (go_at_call 93; ((with_reducible refine BC.out.mono ?_); rintro e w5 ⟨rfl, rfl⟩)))
  all_goals
    go_wp2
    go_ret
    exact ⟨rfl, HB1.out⟩
theorem Push_ok (who : Int) (A0 : Option Addr) (c0 : Nat) (h : RB W B own gr M R) (hC : Kd.C k143 W A0 bl.length bl) (hbl : bl.length ≤ 1000000) (hov : ∀ w1, Below W.heap.size W w1 → Calls Try.prog 57 #[R.ai] w1 fun e w' => e = .returned (.bool true) ∧ w' = w1) :
    Calls Try.prog 63 #[.pointer (some ⟨gr, 0, none⟩), .int .i64 who, .slice A0 bl.length c0] W fun e w' => ∃ na v, e = .returned (.pointer (some ⟨na, 0, none⟩)) ∧ W.heap.size ≤ na ∧ RG w' B own gr na M { R with ai := .pointer (some ⟨na, 0, none⟩) } (pushA who v) bl ∧ Kept W w' (fun k => k = gr) ∧ Below B W w' := by
  have H := Aside0.mk h
  have HC := Aside0.mk (show _ ∧ _ from ⟨hC, hbl⟩)
  have HOV := Aside0.mk hov
  clear h hov hC hbl
  go_enter Try.func63, Try.ntmps63
  go_upto_region 3 with fail
  go_region_held3 (fun w' => True)
    (trivial)
    (first | (refine Kd.R_append_rows_step k143 (w0 := W) W.heap.size (by rfl) (.const (.slice none 0 0)) (.tmp 17) 57 143 (.agg #[(.int .i64 0), (.int .u64 0), (.int .i64 0)]) 24 rfl Try.underlying57 info143 rfl (by decide) (by omega) (.slice none 0 0) [] bl A0 _ c0 (fun k => W.heap.size ≤ k) (fun _ => False) rfl rfl (Kd.R_nil _ _ _ _ _) (Kd.C_below HC.out.1 (below_drew (Below.refl _ W))) (fun _ _ h => h) (fun _ h => h.elim) (fun k hk => hk) (below_drew (Below.refl _ W)) (Nat.le_refl _) (by have := HC.out.2; simp only [List.length_nil]; omega) ?_; intro v3 w3 hr3 hb3 hg3 hat3; obtain ⟨A3, n3, c3, rfl⟩ := R_any hr3; have HR3 := Aside0.mk hr3; have HB3 := Aside0.mk hb3; have HB4 := Aside0.mk (hb3.alloc hb3.size (.cells #[.pointer none, .int .i64 who, .pointer (some ⟨gr, 3, none⟩), .pointer (some ⟨gr, 6, none⟩), .func (.func 95) #[] #[], .slice A3 n3 c3, .bool false, .int .i64 0] 157)); have BC := Aside0.mk (begin_in_ok (W := w3.alloc (.cells #[.pointer none, .int .i64 who, .pointer (some ⟨gr, 3, none⟩), .pointer (some ⟨gr, 6, none⟩), .func (.func 95) #[] #[], .slice A3 n3 c3, .bool false, .int .i64 0] 157)) (na := w3.heap.size) (A := pushA who (.slice A3 n3 c3)) (blk_new w3 _) (H.out.below HB4.out).ring rfl (Nat.ne_of_lt (Nat.lt_of_lt_of_le (blk_lt H.out.ring) hb3.size)) (HOV.out _ HB4.out)); clear hr3 hb3 hg3 hat3) | (go_at_call 93; ((with_reducible refine BC.out.mono ?_); rintro e w5 ⟨rfl, ha, hr, hk, hb⟩)))
  all_goals
    go_wp2
    go_ret
    have hr4 := HR3.out
    rw [List.nil_append] at hr4
    obtain ⟨e4, h4, -⟩ := Kd.R_reads' hr4
    subst e4
    have hs3 := HB3.out.size
    refine ⟨w3.heap.size, .slice A3 bl.length c3, rfl, hs3, RG.begun H.out HB4.out hs3 ha hr ⟨H.out.fit.sz, H.out.fit.bx, H.out.fit.ci, H.out.fit.co⟩ rfl hk ⟨A3, c3, rfl, h4, ?_⟩, begun_kept HB4.out hs3 hk, (below_then (Below.refl B W) H.out.mem.size HB4.out).trans (hb B H.out.gB (Nat.le_trans H.out.mem.size hs3))⟩
    have hF := Kd.R_F (Kd.R_mono (Kd.R_bound hr4) (ok' := fun k => W.heap.size ≤ k ∧ k < w3.heap.size) (fun k hk2 => ⟨hk2.1, hk2.2.2.1⟩))
    have hba := below_alloc (Below.refl w3.heap.size w3) (.cells #[.pointer none, .int .i64 who, .pointer (some ⟨gr, 3, none⟩), .pointer (some ⟨gr, 6, none⟩), .func (.func 95) #[] #[], .slice A3 bl.length c3, .bool false, .int .i64 0] 157)
    exact Kd.F_mono (Kd.F_step hF (fun k ho hlt => hba.block k hlt)) (fun k ho => ⟨ho.1, Nat.ne_of_lt ho.2, Nat.lt_of_lt_of_le ho.2 hba.size⟩)
theorem Push_no (who : Int) (A0 : Option Addr) (c0 : Nat) (h : RB W B own gr M R) (hC : Kd.C k143 W A0 bl.length bl) (hbl : bl.length ≤ 1000000) (hov : ∀ w1, Below W.heap.size W w1 → Calls Try.prog 57 #[R.ai] w1 fun e w' => e = .returned (.bool false) ∧ w' = w1) :
    Calls Try.prog 63 #[.pointer (some ⟨gr, 0, none⟩), .int .i64 who, .slice A0 bl.length c0] W fun e w' => e = .returned (.pointer none) ∧ Below W.heap.size W w' := by
  have H := Aside0.mk h
  have HC := Aside0.mk (show _ ∧ _ from ⟨hC, hbl⟩)
  have HOV := Aside0.mk hov
  clear h hov hC hbl
  go_enter Try.func63, Try.ntmps63
  go_upto_region 3 with fail
  go_region_held3 (fun w' => True)
    (trivial)
    (first | (refine Kd.R_append_rows_step k143 (w0 := W) W.heap.size (by rfl) (.const (.slice none 0 0)) (.tmp 17) 57 143 (.agg #[(.int .i64 0), (.int .u64 0), (.int .i64 0)]) 24 rfl Try.underlying57 info143 rfl (by decide) (by omega) (.slice none 0 0) [] bl A0 _ c0 (fun k => W.heap.size ≤ k) (fun _ => False) rfl rfl (Kd.R_nil _ _ _ _ _) (Kd.C_below HC.out.1 (below_drew (Below.refl _ W))) (fun _ _ h => h) (fun _ h => h.elim) (fun k hk => hk) (below_drew (Below.refl _ W)) (Nat.le_refl _) (by have := HC.out.2; simp only [List.length_nil]; omega) ?_; intro v3 w3 hr3 hb3 hg3 hat3; obtain ⟨A3, n3, c3, rfl⟩ := R_any hr3; have HR3 := Aside0.mk hr3; have HB3 := Aside0.mk hb3; have HB4 := Aside0.mk (hb3.alloc hb3.size (.cells #[.pointer none, .int .i64 who, .pointer (some ⟨gr, 3, none⟩), .pointer (some ⟨gr, 6, none⟩), .func (.func 95) #[] #[], .slice A3 n3 c3, .bool false, .int .i64 0] 157)); have BC := Aside0.mk (begin_in_no (W := w3.alloc (.cells #[.pointer none, .int .i64 who, .pointer (some ⟨gr, 3, none⟩), .pointer (some ⟨gr, 6, none⟩), .func (.func 95) #[] #[], .slice A3 n3 c3, .bool false, .int .i64 0] 157)) (na := w3.heap.size) (A := pushA who (.slice A3 n3 c3)) (blk_new w3 _) (H.out.below HB4.out).ring rfl (Nat.ne_of_lt (Nat.lt_of_lt_of_le (blk_lt H.out.ring) hb3.size)) (HOV.out _ HB4.out)); clear hr3 hb3 hg3 hat3) | (go_at_call 93; ((with_reducible refine BC.out.mono ?_); rintro e w5 ⟨rfl, rfl⟩)))
  all_goals
    go_wp2
    go_ret
    exact ⟨rfl, HB4.out⟩
end
set_option maxRecDepth 100000
theorem under150 : Try.prog.underlying 150 = some (.pointer 152) := by kernel_rfl
theorem info152s : ∃ j, Try.prog.info? 152 = some j ∧ j.size ≠ 0 := by
  have h : (Try.prog.info? 152).map (fun i => i.size) = some 3 := by kernel_rfl
  obtain ⟨j, h1, h2⟩ := Option.map_eq_some_iff.1 h
  exact ⟨j, h1, by rw [h2]; decide⟩
theorem neq_same (a : Addr) (w : World) : Sem.run Try.prog (binOp BinOp.neq 150 (.pointer (some a)) (.pointer (some a))) w = .ok (.bool false) w := by
  obtain ⟨j, hj, -⟩ := info152s
  exact Go.Lib.run_neq_ptr_same w a under150 hj
theorem neq_other {a b : Addr} {ca cb : Array Value} {ta tb : TypeId} (w : World) (hne : a ≠ b) (ha : w.heap[a.block]? = some (.cells ca ta (0, 0))) (hb : w.heap[b.block]? = some (.cells cb tb (0, 0))) : Sem.run Try.prog (binOp BinOp.neq 150 (.pointer (some a)) (.pointer (some b))) w = .ok (.bool true) w := by
  obtain ⟨j, hj, hsz⟩ := info152s
  have h : ∀ d : Nat, (Op.equalIn (d + 1) 150 (.pointer (some a)) (.pointer (some b))).run Try.prog w = .ok false w := fun d => by
    simp [Op.equalIn, run_underlying under150, sizeOf, typeInfo, hj, hsz, run_sameAddr_other w hne ha hb]
  simp only [binOp]
  simp [Op.equal, Op.maxDepth, h 9999]
section
variable {w w' w1 W : World} {B : Nat} {own : Nat → Prop} {gr na : Nat} {M M' : MS} {R R' : RC} {A A' : AC} {bl bl' : List S143}
theorem Batch_C (h : RG W B own gr na M R A bl) (hbl : bl.length ≤ 1000000) : Calls Try.prog 61 #[.pointer (some ⟨na, 0, none⟩)] W fun e w' => ∃ v, e = .returned v ∧ Kd.R k143 143 w' W.heap.size (fun _ => True) v (if A.ok && A.out then bl else []) ∧ Below W.heap.size W w' := by
  obtain ⟨hx0, -, hx2, -, -, hx5, hx6, -⟩ := h.act.cell
  unfold AC.own at hx2
  have H := Aside0.mk h
  have H1 := Aside0.mk (h.below (below_drew (Below.refl _ W)))
  have OK0 := Ok_C H1.out.act
  cases hok : A.ok
  · rw [hok] at OK0
    have OK := Aside0.mk OK0
    clear h OK0 hx0 hx2 hx5 hx6 hok
    go_enter Try.func61, Try.ntmps61
    go_upto_region 1 with fail
    refine start_ (n := 16) (S := fun _ => True) (ds := []) #[false, false, false, false, false, false, false, false, false, false, false, false, false, false, false, false] (by kernel_rfl) rfl rfl trivial (fun hHeld => ?_)
    refine pure_ (i := 0) (N := some 3) (v := ?_) (a' := ?_) #[true, false, false, false, false, false, false, false, false, false, false, false, false, false, false, false] rfl rfl (by kernel_rfl) (fun _ _ _ h => h) (Or.inl ⟨by rfl, ?_⟩) ?_ ?_
    rotate_left
    · intro w'
      go_simp
      with_reducible rfl
    rotate_left
    · simp only [Act.put, List.setIfInBounds_toArray, List.set_cons_zero, List.set_cons_succ]
      rfl
    refine one_ (i := 1) (N := some 4) #[true, true, false, false, false, false, false, false, false, false, false, false, false, false, false, false] rfl rfl (by kernel_rfl) (by decide) (fun K hK => ?_)
    refine goes_ Try.func60 (by kernel_rfl) rfl #[.pointer (some ⟨na, 0, none⟩)] (by rfl) rfl rfl (by (try simp only [List.map_toArray, List.map_cons, List.map_nil]); first | done | rfl) ?_
    refine OK.out.mono ?_
    rintro e w4 ⟨rfl, rfl⟩
    refine ⟨_, rfl, ?_⟩
    refine hK.out _ _ trivial (fun hHeld => ?_)
    clear hK K
    refine norm_ (a' := ?_) ?_ ?_
    rotate_left
    · show Act.put _ (some 4) _ = _
      simp only [Act.put, List.setIfInBounds_toArray, List.set_cons_zero, List.set_cons_succ]
      rfl
    refine pure_ (i := 2) (N := some 5) (v := ?_) (a' := ?_) #[true, true, true, false, false, false, false, false, false, false, false, false, false, false, false, false] rfl rfl (by kernel_rfl) (fun _ _ _ h => h) (Or.inl ⟨by rfl, ?_⟩) ?_ ?_
    rotate_left
    · intro w'
      go_simp
      with_reducible rfl
    rotate_left
    · simp only [Act.put, List.setIfInBounds_toArray, List.set_cons_zero, List.set_cons_succ]
      rfl
    refine pure_ (i := 3) (N := some 6) (v := ?_) (a' := ?_) #[true, true, true, true, false, false, false, false, false, false, false, false, false, false, false, false] rfl rfl (by kernel_rfl) (fun _ _ _ h => h) (Or.inl ⟨by rfl, ?_⟩) ?_ ?_
    rotate_left
    · intro w'
      go_simp
      with_reducible rfl
    rotate_left
    · simp only [Act.put, List.setIfInBounds_toArray, List.set_cons_zero, List.set_cons_succ]
      rfl
    refine pure_ (i := 4) (N := some 7) (v := undef) (a' := ?_) #[true, true, true, true, true, false, false, false, false, false, false, false, false, false, false, false] rfl rfl (by kernel_rfl) (fun _ _ _ h => h) (Or.inr ⟨by rfl, rfl⟩) ?_ ?_
    rotate_left
    · simp only [Act.put, List.setIfInBounds_toArray, List.set_cons_zero, List.set_cons_succ]
      rfl
    refine pure_ (i := 5) (N := some 8) (v := undef) (a' := ?_) #[true, true, true, true, true, true, false, false, false, false, false, false, false, false, false, false] rfl rfl (by kernel_rfl) (fun _ _ _ h => h) (Or.inr ⟨by rfl, rfl⟩) ?_ ?_
    rotate_left
    · simp only [Act.put, List.setIfInBounds_toArray, List.set_cons_zero, List.set_cons_succ]
      rfl
    refine pure_ (i := 6) (N := some 9) (v := undef) (a' := ?_) #[true, true, true, true, true, true, true, false, false, false, false, false, false, false, false, false] rfl rfl (by kernel_rfl) (fun _ _ _ h => h) (Or.inr ⟨by rfl, rfl⟩) ?_ ?_
    rotate_left
    · simp only [Act.put, List.setIfInBounds_toArray, List.set_cons_zero, List.set_cons_succ]
      rfl
    refine pure_ (i := 7) (N := some 10) (v := undef) (a' := ?_) #[true, true, true, true, true, true, true, true, false, false, false, false, false, false, false, false] rfl rfl (by kernel_rfl) (fun _ _ _ h => h) (Or.inr ⟨by rfl, rfl⟩) ?_ ?_
    rotate_left
    · simp only [Act.put, List.setIfInBounds_toArray, List.set_cons_zero, List.set_cons_succ]
      rfl
    refine pure_ (i := 8) (N := some 11) (v := undef) (a' := ?_) #[true, true, true, true, true, true, true, true, true, false, false, false, false, false, false, false] rfl rfl (by kernel_rfl) (fun _ _ _ h => h) (Or.inr ⟨by rfl, rfl⟩) ?_ ?_
    rotate_left
    · simp only [Act.put, List.setIfInBounds_toArray, List.set_cons_zero, List.set_cons_succ]
      rfl
    refine pure_ (i := 9) (N := some 12) (v := undef) (a' := ?_) #[true, true, true, true, true, true, true, true, true, true, false, false, false, false, false, false] rfl rfl (by kernel_rfl) (fun _ _ _ h => h) (Or.inr ⟨by rfl, rfl⟩) ?_ ?_
    rotate_left
    · simp only [Act.put, List.setIfInBounds_toArray, List.set_cons_zero, List.set_cons_succ]
      rfl
    refine pure_ (i := 10) (N := some 13) (v := undef) (a' := ?_) #[true, true, true, true, true, true, true, true, true, true, true, false, false, false, false, false] rfl rfl (by kernel_rfl) (fun _ _ _ h => h) (Or.inr ⟨by rfl, rfl⟩) ?_ ?_
    rotate_left
    · simp only [Act.put, List.setIfInBounds_toArray, List.set_cons_zero, List.set_cons_succ]
      rfl
    refine pure_ (i := 11) (N := some 14) (v := undef) (a' := ?_) #[true, true, true, true, true, true, true, true, true, true, true, true, false, false, false, false] rfl rfl (by kernel_rfl) (fun _ _ _ h => h) (Or.inr ⟨by rfl, rfl⟩) ?_ ?_
    rotate_left
    · simp only [Act.put, List.setIfInBounds_toArray, List.set_cons_zero, List.set_cons_succ]
      rfl
    refine pure_ (i := 12) (N := some 15) (v := undef) (a' := ?_) #[true, true, true, true, true, true, true, true, true, true, true, true, true, false, false, false] rfl rfl (by kernel_rfl) (fun _ _ _ h => h) (Or.inr ⟨by rfl, rfl⟩) ?_ ?_
    rotate_left
    · simp only [Act.put, List.setIfInBounds_toArray, List.set_cons_zero, List.set_cons_succ]
      rfl
    refine pure_ (i := 13) (N := some 16) (v := undef) (a' := ?_) #[true, true, true, true, true, true, true, true, true, true, true, true, true, true, false, false] rfl rfl (by kernel_rfl) (fun _ _ _ h => h) (Or.inr ⟨by rfl, rfl⟩) ?_ ?_
    rotate_left
    · simp only [Act.put, List.setIfInBounds_toArray, List.set_cons_zero, List.set_cons_succ]
      rfl
    refine pure_ (i := 14) (N := some 17) (v := undef) (a' := ?_) #[true, true, true, true, true, true, true, true, true, true, true, true, true, true, true, false] rfl rfl (by kernel_rfl) (fun _ _ _ h => h) (Or.inr ⟨by rfl, rfl⟩) ?_ ?_
    rotate_left
    · simp only [Act.put, List.setIfInBounds_toArray, List.set_cons_zero, List.set_cons_succ]
      rfl
    refine pure_ (i := 15) (N := some 18) (v := ?_) (a' := ?_) #[true, true, true, true, true, true, true, true, true, true, true, true, true, true, true, true] rfl rfl (by kernel_rfl) (fun _ _ _ h => h) (Or.inl ⟨by rfl, ?_⟩) ?_ ?_
    rotate_left
    · intro w'
      go_simp
      with_reducible rfl
    rotate_left
    · simp only [Act.put, List.setIfInBounds_toArray, List.set_cons_zero, List.set_cons_succ]
      rfl
    refine done_ (by kernel_rfl) ?_
    go_wp2
    go_ret
    exact ⟨_, rfl, Kd.R_nil _ _ _ _ _, below_drew (Below.refl _ W)⟩
  · rw [hok] at OK0
    have OK := Aside0.mk OK0
    obtain ⟨Ab, cb, eb, hcb, hF⟩ := h.bx
    rw [eb] at hx5
    have HC := Aside0.mk (show _ ∧ _ from ⟨Kd.F_now hF, hbl⟩)
    clear h OK0 hok hF hbl eb
    cases ho : A.out
    · rw [ho] at hx2
      replace hx2 : W.cell? ⟨na, 2, none⟩ = some (.pointer (some ⟨gr, 3, none⟩)) := hx2
      clear ho
      have NEQ := Aside0.mk (neq_other (a := ⟨gr, 3, none⟩) (b := ⟨gr, 6, none⟩) W.drew (by intro e; injection e with _ e; cases e) H1.out.ring H1.out.ring)
      go_enter Try.func61, Try.ntmps61
      go_upto_region 1 with fail
      refine start_ (n := 16) (S := fun w' => w'.cell? ⟨na, 0, none⟩ = some (.pointer (some ⟨gr, 0, none⟩)) ∧ w'.cell? ⟨na, 2, none⟩ = some (.pointer (some ⟨gr, 3, none⟩))) (ds := []) #[false, false, false, false, false, false, false, false, false, false, false, false, false, false, false, false] (by kernel_rfl) rfl rfl ⟨hx0, hx2⟩ (fun hHeld => ?_)
      refine pure_ (i := 0) (N := some 3) (v := ?_) (a' := ?_) #[true, false, false, false, false, false, false, false, false, false, false, false, false, false, false, false] rfl rfl (by kernel_rfl) (fun _ _ _ h => h) (Or.inl ⟨by rfl, ?_⟩) ?_ ?_
      rotate_left
      · intro w'
        go_simp
        with_reducible rfl
      rotate_left
      · simp only [Act.put, List.setIfInBounds_toArray, List.set_cons_zero, List.set_cons_succ]
        rfl
      refine one_ (i := 1) (N := some 4) #[true, true, false, false, false, false, false, false, false, false, false, false, false, false, false, false] rfl rfl (by kernel_rfl) (by decide) (fun K hK => ?_)
      refine goes_ Try.func60 (by kernel_rfl) rfl #[.pointer (some ⟨na, 0, none⟩)] (by rfl) rfl rfl (by (try simp only [List.map_toArray, List.map_cons, List.map_nil]); first | done | rfl) ?_
      refine OK.out.mono ?_
      rintro e w4 ⟨rfl, rfl⟩
      refine ⟨_, rfl, ?_⟩
      refine hK.out _ _ hHeld (fun hHeld => ?_)
      clear hK K
      refine norm_ (a' := ?_) ?_ ?_
      rotate_left
      · show Act.put _ (some 4) _ = _
        simp only [Act.put, List.setIfInBounds_toArray, List.set_cons_zero, List.set_cons_succ]
        rfl
      refine pure_ (i := 2) (N := some 5) (v := ?_) (a' := ?_) #[true, true, true, false, false, false, false, false, false, false, false, false, false, false, false, false] rfl rfl (by kernel_rfl) (fun _ _ _ h => h) (Or.inl ⟨by rfl, ?_⟩) ?_ ?_
      rotate_left
      · intro w'
        go_simp
        with_reducible rfl
      rotate_left
      · simp only [Act.put, List.setIfInBounds_toArray, List.set_cons_zero, List.set_cons_succ]
        rfl
      refine pure_ (i := 3) (N := some 6) (v := ?_) (a' := ?_) #[true, true, true, true, false, false, false, false, false, false, false, false, false, false, false, false] rfl rfl (by kernel_rfl) (fun _ _ _ h => h) (Or.inl ⟨by rfl, ?_⟩) ?_ ?_
      rotate_left
      · intro w'
        go_simp
        with_reducible rfl
      rotate_left
      · simp only [Act.put, List.setIfInBounds_toArray, List.set_cons_zero, List.set_cons_succ]
        rfl
      refine pure_ (i := 4) (N := some 7) (v := ?_) (a' := ?_) #[true, true, true, true, true, false, false, false, false, false, false, false, false, false, false, false] rfl rfl (by kernel_rfl) (fun _ _ _ h => h) (Or.inl ⟨by rfl, ?_⟩) ?_ ?_
      rotate_left
      · intro w'
        go_simp
        with_reducible rfl
      rotate_left
      · simp only [Act.put, List.setIfInBounds_toArray, List.set_cons_zero, List.set_cons_succ]
        rfl
      refine pure_ (i := 5) (N := some 8) (v := ?_) (a' := ?_) #[true, true, true, true, true, true, false, false, false, false, false, false, false, false, false, false] rfl rfl (by kernel_rfl) (fun _ _ _ h => h) (Or.inl ⟨by rfl, ?_⟩) ?_ ?_
      rotate_left
      · intro w'
        go_simp
        with_reducible rfl
      rotate_left
      · simp only [Act.put, List.setIfInBounds_toArray, List.set_cons_zero, List.set_cons_succ]
        rfl
      refine pure_ (i := 6) (N := some 9) (v := ?_) (a' := ?_) #[true, true, true, true, true, true, true, false, false, false, false, false, false, false, false, false] rfl rfl (by kernel_rfl) (fun _ _ _ h => h) (Or.inl ⟨by rfl, ?_⟩) ?_ ?_
      rotate_left
      · intro w'
        go_simp
        with_reducible rfl
      rotate_left
      · simp only [Act.put, List.setIfInBounds_toArray, List.set_cons_zero, List.set_cons_succ]
        rfl
      refine take_ (i := 7) (N := some 10) (v := ?_) (a' := ?_) #[true, true, true, true, true, true, true, true, false, false, false, false, false, false, false, false] rfl rfl (by kernel_rfl) (fun _ _ _ h => h) (Or.inl ⟨by rfl, ?_⟩) hHeld ?_ ?_
      rotate_left
      · rintro w' ⟨s0, s1⟩
        go_simp
        with_reducible rfl
      rotate_left
      · simp only [Act.put, List.setIfInBounds_toArray, List.set_cons_zero, List.set_cons_succ]
        rfl
      refine pure_ (i := 8) (N := some 11) (v := ?_) (a' := ?_) #[true, true, true, true, true, true, true, true, true, false, false, false, false, false, false, false] rfl rfl (by kernel_rfl) (fun _ _ _ h => h) (Or.inl ⟨by rfl, ?_⟩) ?_ ?_
      rotate_left
      · intro w'
        go_simp
        with_reducible rfl
      rotate_left
      · simp only [Act.put, List.setIfInBounds_toArray, List.set_cons_zero, List.set_cons_succ]
        rfl
      refine pure_ (i := 9) (N := some 12) (v := ?_) (a' := ?_) #[true, true, true, true, true, true, true, true, true, true, false, false, false, false, false, false] rfl rfl (by kernel_rfl) (fun _ _ _ h => h) (Or.inl ⟨by rfl, ?_⟩) ?_ ?_
      rotate_left
      · intro w'
        go_simp
        with_reducible rfl
      rotate_left
      · simp only [Act.put, List.setIfInBounds_toArray, List.set_cons_zero, List.set_cons_succ]
        rfl
      refine pure_ (i := 10) (N := some 13) (v := ?_) (a' := ?_) #[true, true, true, true, true, true, true, true, true, true, true, false, false, false, false, false] rfl rfl (by kernel_rfl) (fun _ _ _ h => h) (Or.inl ⟨by rfl, ?_⟩) ?_ ?_
      rotate_left
      · intro w'
        go_simp
        with_reducible rfl
      rotate_left
      · simp only [Act.put, List.setIfInBounds_toArray, List.set_cons_zero, List.set_cons_succ]
        rfl
      refine take_ (i := 11) (N := some 14) (v := ?_) (a' := ?_) #[true, true, true, true, true, true, true, true, true, true, true, true, false, false, false, false] rfl rfl (by kernel_rfl) (fun _ _ _ h => h) (Or.inl ⟨by rfl, ?_⟩) hHeld ?_ ?_
      rotate_left
      · rintro w' ⟨s0, s1⟩
        go_simp
        with_reducible rfl
      rotate_left
      · simp only [Act.put, List.setIfInBounds_toArray, List.set_cons_zero, List.set_cons_succ]
        rfl
      refine pure_ (i := 12) (N := some 15) (v := ?_) (a' := ?_) #[true, true, true, true, true, true, true, true, true, true, true, true, true, false, false, false] rfl rfl (by kernel_rfl) (fun _ _ _ h => h) (Or.inl ⟨by rfl, ?_⟩) ?_ ?_
      rotate_left
      · intro w'
        go_simp
        with_reducible rfl
      rotate_left
      · simp only [Act.put, List.setIfInBounds_toArray, List.set_cons_zero, List.set_cons_succ]
        rfl
      refine pure_ (i := 13) (N := some 16) (v := ?_) (a' := ?_) #[true, true, true, true, true, true, true, true, true, true, true, true, true, true, false, false] rfl rfl (by kernel_rfl) (fun _ _ _ h => h) (Or.inl ⟨by rfl, ?_⟩) ?_ ?_
      rotate_left
      · intro w'
        go_simp
        with_reducible rfl
      rotate_left
      · simp only [Act.put, List.setIfInBounds_toArray, List.set_cons_zero, List.set_cons_succ]
        rfl
      refine one_ (i := 14) (N := some 17) #[true, true, true, true, true, true, true, true, true, true, true, true, true, true, true, false] rfl rfl (by kernel_rfl) (by decide) (fun K hK => ?_)
      refine event_step (by rfl) (v := .bool true) (w1 := W.drew) (by have h0 := NEQ.out; unfold execOp; go_simp) ?_
      refine hK.out _ _ hHeld (fun hHeld => ?_)
      clear hK K
      refine norm_ (a' := ?_) ?_ ?_
      rotate_left
      · show Act.put _ (some 17) _ = _
        simp only [Act.put, List.setIfInBounds_toArray, List.set_cons_zero, List.set_cons_succ]
        rfl
      refine pure_ (i := 15) (N := some 18) (v := ?_) (a' := ?_) #[true, true, true, true, true, true, true, true, true, true, true, true, true, true, true, true] rfl rfl (by kernel_rfl) (fun _ _ _ h => h) (Or.inl ⟨by rfl, ?_⟩) ?_ ?_
      rotate_left
      · intro w'
        go_simp
        with_reducible rfl
      rotate_left
      · simp only [Act.put, List.setIfInBounds_toArray, List.set_cons_zero, List.set_cons_succ]
        rfl
      refine done_ (by kernel_rfl) ?_
      go_wp2
      go_ret
      exact ⟨_, rfl, Kd.R_nil _ _ _ _ _, below_drew (Below.refl _ W)⟩
    · rw [ho] at hx2
      replace hx2 : W.cell? ⟨na, 2, none⟩ = some (.pointer (some ⟨gr, 6, none⟩)) := hx2
      clear ho
      have hrun := fun W : World => neq_same ⟨gr, 6, none⟩ W
      go_enter Try.func61, Try.ntmps61
      go_upto_region 1 with fail
      go_region_held3 (fun w' => w'.cell? ⟨na, 0, none⟩ = some (.pointer (some ⟨gr, 0, none⟩)) ∧ w'.cell? ⟨na, 2, none⟩ = some (.pointer (some ⟨gr, 6, none⟩)))
        (exact ⟨hx0, hx2⟩) (first | (go_at_call 60; ((with_reducible refine OK.out.mono ?_); rintro e w4 ⟨rfl, rfl⟩)))
      all_goals
        go_wp2_with (first | ((with_reducible refine gate_builtin (b := .append) (xs := #[.const (.slice none 0 0), .tmp 22]) rfl ?_); at_builtin; refine Kd.R_append_rows k143 (w0 := W) W.heap.size rfl (.const (.slice none 0 0)) (.tmp 22) 57 143 (.agg #[(.int .i64 0), (.int .u64 0), (.int .i64 0)]) 24 rfl Try.underlying57 info143 rfl (by decide) (by omega) (.slice none 0 0) [] bl Ab _ cb (fun _ => True) (fun _ => False) rfl rfl (Kd.R_nil _ _ _ _ _) (Kd.C_below HC.out.1 (below_drew (Below.refl _ W))) (fun _ _ h => h) (fun _ h => h.elim) (fun _ _ => trivial) (below_drew (Below.refl _ W)) (Nat.le_refl _) (by have := HC.out.2; simp only [List.length_nil]; omega) ?_; intro v2 w2 ho2 hb2 hg2 hat2; have HO2 := Aside0.mk ho2; have HB2 := Aside0.mk hb2; clear ho2 hb2 hg2 hat2))
        go_ret
        exact ⟨_, rfl, by have := HO2.out; rwa [List.nil_append] at this, HB2.out⟩
theorem right_C (size : Int) (hs : size = 1 ∨ size = 2 ∨ size = 4 ∨ size = 8 ∨ size = 16) : ring_Right.f size = some true := by
  rcases hs with rfl | rfl | rfl | rfl | rfl <;> decide +kernel
def RC.start (gm : Nat) (size : Int) : RC := ⟨gm, 1, size, 1, 0, .pointer none, 2, 0, .pointer none⟩
theorem RNew_C (size : Int) (gm : Nat) (hs : size = 1 ∨ size = 2 ∨ size = 4 ∨ size = 8 ∨ size = 16) (W : World) : Calls Try.prog 92 #[.pointer (some ⟨gm, 0, none⟩), .int .i64 1, .int .i64 1, .int .i64 size] W fun e w' => ∃ gr, e = .returned (.tuple #[.pointer (some ⟨gr, 0, none⟩), .int .i64 0]) ∧ W.heap.size ≤ gr ∧ RingAt w' gr (RC.start gm size) ∧ Below W.heap.size W w' := by
  have RT := Aside0.mk (right_C size hs)
  clear hs
  go_enter Try.func92, Try.ntmps92
  go_wp2_with (first | (go_at_call 111; ((with_reducible refine (ring_Right.calls size true _ RT.out).mono ?_); rintro e w2 ⟨rfl, ⟨nd, rfl⟩⟩)))
  ((try simp only [Exit.inBlock, Exit.then]); first | refine bodyPost_ret (results_tmp2 rfl _ _ _) rfl ?_ | refine bodyPost_end (results_tmp2 rfl _ _ _) rfl ?_)
  exact ⟨_, rfl, Nat.le_refl _, blk_new _ _, (pw_below_drewN (Below.refl _ W) nd).alloc (Nat.le_refl _) _⟩
def RingM (size : Nat) : MS := ⟨List.replicate 4 0, List.replicate (size + 2) [], List.replicate 0 (-1), fun _ => none, 0, []⟩
theorem rbegin_C (size : Nat) (hs : size = 1 ∨ size = 2 ∨ size = 4 ∨ size = 8 ∨ size = 16) (W : World) : Calls Try.prog 54 #[.int .i64 (size : Int)] W fun e w' => ∃ gm gr own, e = .returned (.tuple #[.pointer (some ⟨gm, 0, none⟩), .pointer (some ⟨gr, 0, none⟩)]) ∧ RB w' W.heap.size own gr (RingM size) (RC.start gm (size : Int)) ∧ (∀ k, own k → W.heap.size ≤ k) ∧ Below W.heap.size W w' := by
  have HS := Aside0.mk hs
  have hw : IntKind.i64.wrap ((size : Int) + 2) = ((size + 2 : Nat) : Int) := by rw [IntKind.wrap_i64]; omega
  clear hs
  go_enter Try.func54, Try.ntmps54
  go_wp2_with (first | (go_at_call 30; ((refine (New_C 4 (size + 2) 0 (by decide) (by have := HS.out; omega) (by decide) _).mono ?_); rintro e w1 ⟨g, own0, rfl, hm, hw0, hb⟩; have HM := Aside0.mk (show MemC w1 W.heap.size own0 g (RingM size) from hm); have HB := Aside0.mk hb; have HO := Aside0.mk hw0; clear hm hb hw0)) | (go_at_call 92; ((refine (RNew_C (size : Int) g (by have := HS.out; omega) w1).mono ?_); rintro e w2 ⟨gr, rfl, hge, hr, hb2⟩; have HR := Aside0.mk (show _ ∧ _ ∧ _ from ⟨hge, hr, hb2⟩); clear hge hr hb2)))
  ((try simp only [Exit.inBlock, Exit.then]); first | refine bodyPost_ret (results_tmp2 rfl _ _ _) rfl ?_ | refine bodyPost_end (results_tmp2 rfl _ _ _) rfl ?_)
  obtain ⟨hge, hr, hb2⟩ := HR.out
  exact ⟨g, gr, own0, rfl, ⟨HM.out.below hb2, hr, ⟨by have := HS.out; show (size : Int) = 1 ∨ (size : Int) = 2 ∨ (size : Int) = 4 ∨ (size : Int) = 8 ∨ (size : Int) = 16; omega, ⟨(by show (0 : Int) ≤ 1; decide), (by show (1 : Int) ≤ 1000000; decide)⟩, ⟨(by show (0 : Int) ≤ 0; decide), (by show (0 : Int) < 18446744073709551616; decide)⟩, ⟨(by show (0 : Int) ≤ 0; decide), (by show (0 : Int) < 18446744073709551616; decide)⟩⟩, fun ho => by have := HM.out.2 gr ho; omega, Nat.le_trans HB.out.size hge⟩, HO.out, below_step HB.out hb2⟩
end
set_option maxRecDepth 100000
theorem finish_gen {W : World} {na : Nat} (n : Nat) (hn : 1 ≤ n ∧ n ≤ 8) (St : Nat → World → Prop) (Fin : World → Prop) (h0 : St 0 W)
    (hs : ∀ i, i + 1 < n → ∀ w, St i w → Calls Try.prog 78 #[.pointer (some ⟨na, 0, none⟩)] w fun e w' => e = .returned (.bool false) ∧ St (i + 1) w')
    (he : ∀ i, i + 1 = n → ∀ w, St i w → Calls Try.prog 78 #[.pointer (some ⟨na, 0, none⟩)] w fun e w' => e = .returned (.bool true) ∧ Fin w')
    (hov : ∀ w, Fin w → Calls Try.prog 57 #[.pointer (some ⟨na, 0, none⟩)] w fun e w' => e = .returned (.bool true) ∧ w' = w) :
    Calls Try.prog 58 #[.pointer (some ⟨na, 0, none⟩)] W fun e w' => e = .returned (.bool true) ∧ Fin w' := by
  have HS := Aside0.mk hs
  have HE := Aside0.mk he
  have HOV := Aside0.mk hov
  have HN := Aside0.mk hn
  have H0 := Aside0.mk h0
  clear hs he hov hn h0
  go_enter Try.func58, Try.ntmps58
  go_wp2
  go_loopw [3] (fun v3 wr => ∃ i : Nat, v3 = .int .i64 (i : Int) ∧ Aside0 (i < n ∧ St i wr)) (fun v3 _ => (10 - intOf v3).toNat)
  case atStart => exact ⟨0, rfl, ⟨by have := HN.out; omega, H0.out⟩⟩
  case round =>
    obtain ⟨i, rfl, HI⟩ := hrel
    have d1 := decide_eq_true (show (i : Int) < 8 by have := HN.out; have := HI.out.1; omega)
    have hw : IntKind.i64.wrap ((i : Int) + 1) = (i : Int) + 1 := by rw [IntKind.wrap_i64]; have := HN.out; have := HI.out.1; omega
    by_cases hi : i + 1 = n
    · have HC := Aside0.mk (HE.out i hi _ HI.out.2)
      clear hi
      go_wp2_with (first | (go_at_call 78; ((with_reducible refine HC.out.mono ?_); rintro e w2 ⟨rfl, hf⟩; have HF := Aside0.mk hf; have HO := Aside0.mk (HOV.out _ hf); clear hf)) | (go_at_call 57; ((with_reducible refine HO.out.mono ?_); rintro e w3 ⟨rfl, hw3⟩; obtain rfl : w2 = w3 := hw3.symm)))
      go_ret
      exact ⟨rfl, HF.out⟩
    · have HC := Aside0.mk (HS.out i (by have := HI.out.1; omega) _ HI.out.2)
      have HLT := Aside0.mk (show i + 1 < n by have := HI.out.1; omega)
      clear hi
      go_wp2_with (first | (go_at_call 78; ((with_reducible refine HC.out.mono ?_); rintro e w2 ⟨rfl, hf⟩; have HF := Aside0.mk hf; clear hf)))
      go_roundw
      case rel => exact ⟨i + 1, by first | rfl | exact congrArg _ hw, ⟨HLT.out, HF.out⟩⟩
      case measure => have := HN.out; have := HLT.out; simp only [intOf]; omega
/-! ### marchlandref03_before: function 109 -/
def marchlandref03_before.f (a0_0 : Int) (a0_1 : Int) (a0_2 : Int) (a1_0 : Int) (a1_1 : Int) (a1_2 : Int) : Option (Bool) := if a0_0 < a1_0 then (some true) else (if a0_0 = a1_0 then (some (decide (a0_1 < a1_1))) else (some false))
set_option maxHeartbeats 8000000 in
set_option maxRecDepth 100000 in
theorem marchlandref03_before.calls (a0_0 : Int) (a0_1 : Int) (a0_2 : Int) (a1_0 : Int) (a1_1 : Int) (a1_2 : Int) (r : Bool) (w : World) (h : marchlandref03_before.f a0_0 a0_1 a0_2 a1_0 a1_1 a1_2 = some r) :
    Calls Try.prog 109 #[.agg #[.int .i64 a0_0, .int .u64 a0_1, .int .i64 a0_2], .agg #[.int .i64 a1_0, .int .u64 a1_1, .int .i64 a1_2]] w fun e w' => e = .returned (.bool r) ∧ Below w.heap.size w w' := by
  have hu140 := Try.underlying140
  have HB := Aside0.mk (Below.refl w.heap.size w)
  have H : (if a0_0 < a1_0 then (some true) else (if a0_0 = a1_0 then (some (decide (a0_1 < a1_1))) else (some false))) = some r := h
  clear h
  by_cases c3 : a0_0 < a1_0
  · rw [if_pos c3] at H
    have c3b0 : decide (a0_0 < a1_0) = true := decide_eq_true c3
    clear c3
    obtain rfl := Option.some.inj H
    go_enter Try.func109, Try.ntmps109
    go_wp2_with (first | ((with_reducible refine gate_dst (N := 2) rfl ?_); refine box_event ?hg (N := 2) ?hd (cs := #[.int .i64 a0_0, .int .u64 a0_1, .int .i64 a0_2]) (t := 140) ?hr ?_; (case hd => rfl); (case hg => rfl); (case hr => first | (go_simp; done) | (go_simp; rfl)); intro gb240 hg w4 hbox hb; have n0_ := Aside0.mk (below_step (by repeat (first | (with_reducible first | exact HB.out | apply below_alloc | apply pw_below_drewN | apply below_drew1) | exact HB.out)) hb); have n1_ := Aside0.mk (hbox); have n2_ := Aside0.mk ((by rw [hg]; exact (below_size (by repeat (first | (with_reducible first | exact HB.out | apply below_alloc | apply pw_below_drewN | apply below_drew1) | exact HB.out))) : w.heap.size ≤ gb240)); have n3_ := Aside0.mk ((by rw [hg]; exact (below_size (by repeat (first | (with_reducible first | exact HB.out | apply below_alloc | apply pw_below_drewN | apply below_drew1) | exact HB.out))) : w.heap.size ≤ gb240)); clear HB; have HB := n0_; have BK240 := n1_; have GW240 := n2_; have GE240 := n3_; clear n0_ n1_ n2_ n3_; clear hb hbox hg) | ((with_reducible refine gate_dst (N := 3) rfl ?_); refine box_event ?hg (N := 3) ?hd (cs := #[.int .i64 a1_0, .int .u64 a1_1, .int .i64 a1_2]) (t := 140) ?hr ?_; (case hd => rfl); (case hg => rfl); (case hr => first | (go_simp; done) | (go_simp; rfl)); intro gb241 hg w5 hbox hb; have n0_ := Aside0.mk (blk_below (g := gb240) (o := .cells #[.int .i64 a0_0, .int .u64 a0_1, .int .i64 a0_2] 140 (0, 0)) (by (with_reducible repeat (first | refine blk_drewN ?_ _ | refine blk_drew ?_ | refine blk_alloc ?_ _)); exact BK240.out) hb); have n1_ := Aside0.mk (below_step (by repeat (first | (with_reducible first | exact HB.out | apply below_alloc | apply pw_below_drewN | apply below_drew1 | refine below_set ?_ GE240.out) | exact HB.out)) hb); have n2_ := Aside0.mk (hbox); have n3_ := Aside0.mk ((by rw [hg]; exact (below_size (by repeat (first | (with_reducible first | exact HB.out | apply below_alloc | apply pw_below_drewN | apply below_drew1 | refine below_set ?_ GE240.out) | exact HB.out))) : w.heap.size ≤ gb241)); have n4_ := Aside0.mk ((by rw [hg]; exact (below_size (by repeat (first | (with_reducible first | exact HB.out | apply below_alloc | apply pw_below_drewN | apply below_drew1 | refine below_set ?_ GE240.out) | exact HB.out))) : w.heap.size ≤ gb241)); have n5_ := Aside0.mk ((by rw [hg]; exact Nat.ne_of_lt (blk_lt (g := gb240) (o := .cells #[.int .i64 a0_0, .int .u64 a0_1, .int .i64 a0_2] 140 (0, 0)) (by (with_reducible repeat (first | refine blk_drewN ?_ _ | refine blk_drew ?_ | refine blk_alloc ?_ _)); exact BK240.out)) : gb240 ≠ gb241)); have n6_ := Aside0.mk ((by rw [hg]; exact Nat.ne_of_gt (blk_lt (g := gb240) (o := .cells #[.int .i64 a0_0, .int .u64 a0_1, .int .i64 a0_2] 140 (0, 0)) (by (with_reducible repeat (first | refine blk_drewN ?_ _ | refine blk_drew ?_ | refine blk_alloc ?_ _)); exact BK240.out)) : gb241 ≠ gb240)); clear BK240; clear HB; have BK240 := n0_; have HB := n1_; have BK241 := n2_; have GW241 := n3_; have GE241 := n4_; have NB240_241 := n5_; have NB241_240 := n6_; clear n0_ n1_ n2_ n3_ n4_ n5_ n6_; clear hb hbox hg; have hnb6 := NB240_241.out; have hnc6 := NB241_240.out; have hcz7_0 : w5.cell? ⟨gb240, 0, none⟩ = some (.int .i64 a0_0) := (blk_cell BK240.out 0).trans rfl; have hcz7_1 : w5.cell? ⟨gb240, 1, none⟩ = some (.int .u64 a0_1) := (blk_cell BK240.out 1).trans rfl; have hcz7_2 : w5.cell? ⟨gb240, 2, none⟩ = some (.int .i64 a0_2) := (blk_cell BK240.out 2).trans rfl; have hfz7_0 := blk_frozen BK240.out 0; have hfz7_1 := blk_frozen BK240.out 1; have hfz7_2 := blk_frozen BK240.out 2; have hcz8_0 : w5.cell? ⟨gb241, 0, none⟩ = some (.int .i64 a1_0) := (blk_cell BK241.out 0).trans rfl; have hcz8_1 : w5.cell? ⟨gb241, 1, none⟩ = some (.int .u64 a1_1) := (blk_cell BK241.out 1).trans rfl; have hcz8_2 : w5.cell? ⟨gb241, 2, none⟩ = some (.int .i64 a1_2) := (blk_cell BK241.out 2).trans rfl; have hfz8_0 := blk_frozen BK241.out 0; have hfz8_1 := blk_frozen BK241.out 1; have hfz8_2 := blk_frozen BK241.out 2))
    go_ret
    exact ⟨by first | rfl | (simp [errW_none, errW_some] <;> rfl) | (simp [*, errW_none, errW_some] <;> rfl), by repeat (first | (with_reducible first | exact HB.out | apply below_alloc | apply pw_below_drewN | apply below_drew1 | refine below_set ?_ GE240.out | refine below_set ?_ GE241.out) | exact HB.out)⟩
  · rw [if_neg c3] at H
    have c3b0 : decide (a0_0 < a1_0) = false := decide_eq_false c3
    clear c3
    by_cases c9 : a0_0 = a1_0
    · rw [if_pos c9] at H
      have c9b0 : (a0_0 == a1_0) = true := beq_iff_eq.mpr c9
      have c9b1 : (a0_0 != a1_0) = false := bne_eq_false_iff_eq.mpr c9
      clear c9
      obtain rfl := Option.some.inj H
      go_enter Try.func109, Try.ntmps109
      go_wp2_with (first | ((with_reducible refine gate_dst (N := 2) rfl ?_); refine box_event ?hg (N := 2) ?hd (cs := #[.int .i64 a0_0, .int .u64 a0_1, .int .i64 a0_2]) (t := 140) ?hr ?_; (case hd => rfl); (case hg => rfl); (case hr => first | (go_simp; done) | (go_simp; rfl)); intro gb240 hg w10 hbox hb; have n0_ := Aside0.mk (below_step (by repeat (first | (with_reducible first | exact HB.out | apply below_alloc | apply pw_below_drewN | apply below_drew1) | exact HB.out)) hb); have n1_ := Aside0.mk (hbox); have n2_ := Aside0.mk ((by rw [hg]; exact (below_size (by repeat (first | (with_reducible first | exact HB.out | apply below_alloc | apply pw_below_drewN | apply below_drew1) | exact HB.out))) : w.heap.size ≤ gb240)); have n3_ := Aside0.mk ((by rw [hg]; exact (below_size (by repeat (first | (with_reducible first | exact HB.out | apply below_alloc | apply pw_below_drewN | apply below_drew1) | exact HB.out))) : w.heap.size ≤ gb240)); clear HB; have HB := n0_; have BK240 := n1_; have GW240 := n2_; have GE240 := n3_; clear n0_ n1_ n2_ n3_; clear hb hbox hg) | ((with_reducible refine gate_dst (N := 3) rfl ?_); refine box_event ?hg (N := 3) ?hd (cs := #[.int .i64 a1_0, .int .u64 a1_1, .int .i64 a1_2]) (t := 140) ?hr ?_; (case hd => rfl); (case hg => rfl); (case hr => first | (go_simp; done) | (go_simp; rfl)); intro gb241 hg w11 hbox hb; have n0_ := Aside0.mk (blk_below (g := gb240) (o := .cells #[.int .i64 a0_0, .int .u64 a0_1, .int .i64 a0_2] 140 (0, 0)) (by (with_reducible repeat (first | refine blk_drewN ?_ _ | refine blk_drew ?_ | refine blk_alloc ?_ _)); exact BK240.out) hb); have n1_ := Aside0.mk (below_step (by repeat (first | (with_reducible first | exact HB.out | apply below_alloc | apply pw_below_drewN | apply below_drew1 | refine below_set ?_ GE240.out) | exact HB.out)) hb); have n2_ := Aside0.mk (hbox); have n3_ := Aside0.mk ((by rw [hg]; exact (below_size (by repeat (first | (with_reducible first | exact HB.out | apply below_alloc | apply pw_below_drewN | apply below_drew1 | refine below_set ?_ GE240.out) | exact HB.out))) : w.heap.size ≤ gb241)); have n4_ := Aside0.mk ((by rw [hg]; exact (below_size (by repeat (first | (with_reducible first | exact HB.out | apply below_alloc | apply pw_below_drewN | apply below_drew1 | refine below_set ?_ GE240.out) | exact HB.out))) : w.heap.size ≤ gb241)); have n5_ := Aside0.mk ((by rw [hg]; exact Nat.ne_of_lt (blk_lt (g := gb240) (o := .cells #[.int .i64 a0_0, .int .u64 a0_1, .int .i64 a0_2] 140 (0, 0)) (by (with_reducible repeat (first | refine blk_drewN ?_ _ | refine blk_drew ?_ | refine blk_alloc ?_ _)); exact BK240.out)) : gb240 ≠ gb241)); have n6_ := Aside0.mk ((by rw [hg]; exact Nat.ne_of_gt (blk_lt (g := gb240) (o := .cells #[.int .i64 a0_0, .int .u64 a0_1, .int .i64 a0_2] 140 (0, 0)) (by (with_reducible repeat (first | refine blk_drewN ?_ _ | refine blk_drew ?_ | refine blk_alloc ?_ _)); exact BK240.out)) : gb241 ≠ gb240)); clear BK240; clear HB; have BK240 := n0_; have HB := n1_; have BK241 := n2_; have GW241 := n3_; have GE241 := n4_; have NB240_241 := n5_; have NB241_240 := n6_; clear n0_ n1_ n2_ n3_ n4_ n5_ n6_; clear hb hbox hg; have hnb12 := NB240_241.out; have hnc12 := NB241_240.out; have hcz13_0 : w11.cell? ⟨gb240, 0, none⟩ = some (.int .i64 a0_0) := (blk_cell BK240.out 0).trans rfl; have hcz13_1 : w11.cell? ⟨gb240, 1, none⟩ = some (.int .u64 a0_1) := (blk_cell BK240.out 1).trans rfl; have hcz13_2 : w11.cell? ⟨gb240, 2, none⟩ = some (.int .i64 a0_2) := (blk_cell BK240.out 2).trans rfl; have hfz13_0 := blk_frozen BK240.out 0; have hfz13_1 := blk_frozen BK240.out 1; have hfz13_2 := blk_frozen BK240.out 2; have hcz14_0 : w11.cell? ⟨gb241, 0, none⟩ = some (.int .i64 a1_0) := (blk_cell BK241.out 0).trans rfl; have hcz14_1 : w11.cell? ⟨gb241, 1, none⟩ = some (.int .u64 a1_1) := (blk_cell BK241.out 1).trans rfl; have hcz14_2 : w11.cell? ⟨gb241, 2, none⟩ = some (.int .i64 a1_2) := (blk_cell BK241.out 2).trans rfl; have hfz14_0 := blk_frozen BK241.out 0; have hfz14_1 := blk_frozen BK241.out 1; have hfz14_2 := blk_frozen BK241.out 2))
      go_ret
      exact ⟨by first | rfl | (simp [errW_none, errW_some] <;> rfl) | (simp [*, errW_none, errW_some] <;> rfl), by repeat (first | (with_reducible first | exact HB.out | apply below_alloc | apply pw_below_drewN | apply below_drew1 | refine below_set ?_ GE240.out | refine below_set ?_ GE241.out) | exact HB.out)⟩
    · rw [if_neg c9] at H
      have c9b0 : (a0_0 == a1_0) = false := beq_eq_false_iff_ne.mpr c9
      have c9b1 : (a0_0 != a1_0) = true := bne_iff_ne.mpr c9
      obtain rfl := Option.some.inj H
      go_enter Try.func109, Try.ntmps109
      go_wp2_with (first | ((with_reducible refine gate_dst (N := 2) rfl ?_); refine box_event ?hg (N := 2) ?hd (cs := #[.int .i64 a0_0, .int .u64 a0_1, .int .i64 a0_2]) (t := 140) ?hr ?_; (case hd => rfl); (case hg => rfl); (case hr => first | (go_simp; done) | (go_simp; rfl)); intro gb240 hg w15 hbox hb; have n0_ := Aside0.mk (below_step (by repeat (first | (with_reducible first | exact HB.out | apply below_alloc | apply pw_below_drewN | apply below_drew1) | exact HB.out)) hb); have n1_ := Aside0.mk (hbox); have n2_ := Aside0.mk ((by rw [hg]; exact (below_size (by repeat (first | (with_reducible first | exact HB.out | apply below_alloc | apply pw_below_drewN | apply below_drew1) | exact HB.out))) : w.heap.size ≤ gb240)); have n3_ := Aside0.mk ((by rw [hg]; exact (below_size (by repeat (first | (with_reducible first | exact HB.out | apply below_alloc | apply pw_below_drewN | apply below_drew1) | exact HB.out))) : w.heap.size ≤ gb240)); clear HB; have HB := n0_; have BK240 := n1_; have GW240 := n2_; have GE240 := n3_; clear n0_ n1_ n2_ n3_; clear hb hbox hg) | ((with_reducible refine gate_dst (N := 3) rfl ?_); refine box_event ?hg (N := 3) ?hd (cs := #[.int .i64 a1_0, .int .u64 a1_1, .int .i64 a1_2]) (t := 140) ?hr ?_; (case hd => rfl); (case hg => rfl); (case hr => first | (go_simp; done) | (go_simp; rfl)); intro gb241 hg w16 hbox hb; have n0_ := Aside0.mk (blk_below (g := gb240) (o := .cells #[.int .i64 a0_0, .int .u64 a0_1, .int .i64 a0_2] 140 (0, 0)) (by (with_reducible repeat (first | refine blk_drewN ?_ _ | refine blk_drew ?_ | refine blk_alloc ?_ _)); exact BK240.out) hb); have n1_ := Aside0.mk (below_step (by repeat (first | (with_reducible first | exact HB.out | apply below_alloc | apply pw_below_drewN | apply below_drew1 | refine below_set ?_ GE240.out) | exact HB.out)) hb); have n2_ := Aside0.mk (hbox); have n3_ := Aside0.mk ((by rw [hg]; exact (below_size (by repeat (first | (with_reducible first | exact HB.out | apply below_alloc | apply pw_below_drewN | apply below_drew1 | refine below_set ?_ GE240.out) | exact HB.out))) : w.heap.size ≤ gb241)); have n4_ := Aside0.mk ((by rw [hg]; exact (below_size (by repeat (first | (with_reducible first | exact HB.out | apply below_alloc | apply pw_below_drewN | apply below_drew1 | refine below_set ?_ GE240.out) | exact HB.out))) : w.heap.size ≤ gb241)); have n5_ := Aside0.mk ((by rw [hg]; exact Nat.ne_of_lt (blk_lt (g := gb240) (o := .cells #[.int .i64 a0_0, .int .u64 a0_1, .int .i64 a0_2] 140 (0, 0)) (by (with_reducible repeat (first | refine blk_drewN ?_ _ | refine blk_drew ?_ | refine blk_alloc ?_ _)); exact BK240.out)) : gb240 ≠ gb241)); have n6_ := Aside0.mk ((by rw [hg]; exact Nat.ne_of_gt (blk_lt (g := gb240) (o := .cells #[.int .i64 a0_0, .int .u64 a0_1, .int .i64 a0_2] 140 (0, 0)) (by (with_reducible repeat (first | refine blk_drewN ?_ _ | refine blk_drew ?_ | refine blk_alloc ?_ _)); exact BK240.out)) : gb241 ≠ gb240)); clear BK240; clear HB; have BK240 := n0_; have HB := n1_; have BK241 := n2_; have GW241 := n3_; have GE241 := n4_; have NB240_241 := n5_; have NB241_240 := n6_; clear n0_ n1_ n2_ n3_ n4_ n5_ n6_; clear hb hbox hg; have hnb17 := NB240_241.out; have hnc17 := NB241_240.out; have hcz18_0 : w16.cell? ⟨gb240, 0, none⟩ = some (.int .i64 a0_0) := (blk_cell BK240.out 0).trans rfl; have hcz18_1 : w16.cell? ⟨gb240, 1, none⟩ = some (.int .u64 a0_1) := (blk_cell BK240.out 1).trans rfl; have hcz18_2 : w16.cell? ⟨gb240, 2, none⟩ = some (.int .i64 a0_2) := (blk_cell BK240.out 2).trans rfl; have hfz18_0 := blk_frozen BK240.out 0; have hfz18_1 := blk_frozen BK240.out 1; have hfz18_2 := blk_frozen BK240.out 2; have hcz19_0 : w16.cell? ⟨gb241, 0, none⟩ = some (.int .i64 a1_0) := (blk_cell BK241.out 0).trans rfl; have hcz19_1 : w16.cell? ⟨gb241, 1, none⟩ = some (.int .u64 a1_1) := (blk_cell BK241.out 1).trans rfl; have hcz19_2 : w16.cell? ⟨gb241, 2, none⟩ = some (.int .i64 a1_2) := (blk_cell BK241.out 2).trans rfl; have hfz19_0 := blk_frozen BK241.out 0; have hfz19_1 := blk_frozen BK241.out 1; have hfz19_2 := blk_frozen BK241.out 2))
      go_ret
      exact ⟨by first | rfl | (simp [errW_none, errW_some] <;> rfl) | (simp [*, errW_none, errW_some] <;> rfl), by repeat (first | (with_reducible first | exact HB.out | apply below_alloc | apply pw_below_drewN | apply below_drew1 | refine below_set ?_ GE240.out | refine below_set ?_ GE241.out) | exact HB.out)⟩
/-! ### marchlandref03_within: function 110 -/
def marchlandref03_within.f (a0 : Int) : Option (Bool) := if a0 ≥ (-576460752303423488) then (some (decide (a0 ≤ 576460752303423488))) else (some false)
set_option maxHeartbeats 8000000 in
set_option maxRecDepth 100000 in
theorem marchlandref03_within.calls (a0 : Int) (r : Bool) (w : World) (h : marchlandref03_within.f a0 = some r) :
    Calls Try.prog 110 #[.int .i64 a0] w fun e w' => e = .returned (.bool r) ∧ Drawn0 w w' := by
  have H : (if a0 ≥ (-576460752303423488) then (some (decide (a0 ≤ 576460752303423488))) else (some false)) = some r := h
  clear h
  by_cases c2 : a0 ≥ (-576460752303423488)
  · rw [if_pos c2] at H
    have c2b0 : decide ((-576460752303423488) ≤ a0) = true := decide_eq_true c2
    clear c2
    obtain rfl := Option.some.inj H
    go_enter Try.func110, Try.ntmps110
    go_wp2
    go_ret
    exact ⟨by first | rfl | (simp; done) | (simp [*]; done), by repeat (first | exact Drawn0.refl _ | apply Drawn0.step)⟩
  · rw [if_neg c2] at H
    have c2b0 : decide ((-576460752303423488) ≤ a0) = false := decide_eq_false c2
    clear c2
    obtain rfl := Option.some.inj H
    go_enter Try.func110, Try.ntmps110
    go_wp2
    go_ret
    exact ⟨by first | rfl | (simp; done) | (simp [*]; done), by repeat (first | exact Drawn0.refl _ | apply Drawn0.step)⟩
end Go.Proofs.Ytlcnckbmolefpaa.P
end
