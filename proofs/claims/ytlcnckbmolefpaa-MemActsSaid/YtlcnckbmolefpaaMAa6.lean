/- Walks and laws of several statements of this seat, joined into one text; no condition. -/
import Derived.Test.YtlcnckbmolefpaaProg
import Derived.Below
import Derived.Deep.Draws
import Derived.Deep.AppendLies
import Derived.Maps.AppendAt
import Derived.OwnWalk
import Derived.Laws.BytesArg
import Derived.Laws.MakeOwn
import Derived.Laws.OwnMore
import Derived.Deep.OwnRows
import Derived.Tactics
import Derived.Lib.ConvBytes
import Derived.Laws.Slices
import Derived.WalkKit
import Derived.KernelRfl
import Derived.RowKit3
import Derived.Deep.LoopGhost
import Derived.Deep.QuietTactic
import Derived.BigQuiet
import Derived.WideLaws
import Derived.Deep.DeepCutAuto
import Derived.Deep.CutBlock
import Derived.Deep.RegionHeld3
import Derived.Laws.Rows
import Derived.Lib.AppendStr
import Derived.ArgAppend
import Derived.Laws.IdiomCopy
import Derived.OrdersHeld
import Derived.Laws.BitsLemmas
import Derived.RowKit
import Derived.Laws.StructEq
import Derived.Maps.RangeWalk
import Derived.Maps.OwnRows
import Derived.Maps.Views
import Derived.Maps.OwnSet
import Derived.IntWalk
import Derived.Shelf.SlMaps.Clone
import Derived.Laws.CopyOwn
import Derived.Deep.RegionLaw
import Derived.LoopTactic
import Derived.Outline
import Derived.Lib.BufferMore
import Derived.Deep.CutRange
import Derived.Deep.Slices
import Derived.SizedLaws
import Derived.OpenShut
import Derived.Lib.SmallJoins
import Derived.Test.YtlcnckbmolefpaaMAa0
import Derived.Test.YtlcnckbmolefpaaMAa1
import Derived.Test.YtlcnckbmolefpaaMAa4
import Derived.Test.YtlcnckbmolefpaaMAa5
section
namespace Go.Proofs.Ytlcnckbmolefpaa.P
open Go.RowKit Go.Maps Go.Proofs.Ytlcnckbmolefpaa.CK Go.Proofs.YtlcnckbmolefpaaW.PrintWords Go.Proofs.YtlcnckbmolefpaaW.PrintLast Go.Proofs.YtlcnckbmolefpaaW.PrintMore
set_option linter.unusedVariables false
set_option linter.unusedSimpArgs false
theorem rd_lg (L : List S128) (i : Nat) (hi : i < L.length) : rd_T127 (L.map lg) (i : Int) = lg (rd_T128 L (i : Int)) := by
  unfold rd_T127 rd_T128
  rw [Int.toNat_natCast, List.getD_eq_getElem?_getD, List.getD_eq_getElem?_getD, List.getElem?_map, List.getElem?_eq_getElem hi]
  rfl
theorem sameL (L : List S128) (hL : L.length ≤ 1000000) : ∀ (m i : Nat), i ≤ L.length → L.length < i + m → marchlandlaw08_Same.l0 m L (L.map lg) (i : Int) = some true := by
  intro m
  induction m with
  | zero => intro i h1 h2; omega
  | succ m ih =>
    intro i h1 h2
    rw [marchlandlaw08_Same.l0]
    by_cases hi : i < L.length
    · have hw : wrap64 ((i : Int) + 1) = ((i + 1 : Nat) : Int) := by rw [wrap64]; omega
      rw [if_pos (by omega), if_pos (by omega), if_pos (by rw [List.length_map]; omega), rd_lg L i hi, if_pos (show (rd_T128 L ↑i).f0 = (lg (rd_T128 L ↑i)).f0 from rfl), if_pos (show (rd_T128 L ↑i).f1 = (lg (rd_T128 L ↑i)).f1 from rfl), if_pos (show (rd_T128 L ↑i).f2 = (lg (rd_T128 L ↑i)).f2 from rfl), if_neg (by simp [lg]), hw]
      exact ih (i + 1) (by omega) (by omega)
    · rw [if_neg (by omega)]
theorem Same_L (A0 A1 : Option Addr) (c0 c1 : Nat) (L : List S128) (hL : L.length ≤ 1000000) (w : World) (h0 : Kd.C k128 w A0 L.length L) (hc0 : L.length ≤ c0) (h1 : Kd.C k127 w A1 L.length (L.map lg)) (hc1 : L.length ≤ c1) :
    Calls Try.prog 47 #[.slice A0 L.length c0, .slice A1 L.length c1] w fun e w' => e = .returned (.bool true) ∧ Drawn0 w w' := by
  have hf : marchlandlaw08_Same.f (L.length + 1) L (L.map lg) = some true := by
    unfold marchlandlaw08_Same.f
    rw [if_pos (by rw [List.length_map])]
    exact sameL L hL (L.length + 1) 0 (by omega) (by omega)
  have e : (L.map lg).length = L.length := List.length_map ..
  have h := marchlandlaw08_Same.calls (L.length + 1) A0 c0 L A1 c1 (L.map lg) true w h0 hc0 (by rw [e]; exact h1) (by rw [e]; exact hc1) hf
  rw [e] at h
  exact h
section
variable {M : MS} {bd : List S28} {i : Nat}
theorem pass_lim (who k at_ fr to_ : Int) : (M.pass who k at_ fr to_).log.length ≤ M.log.length + 1 ∧ (M.pass who k at_ fr to_).nb = M.nb ∧ (M.pass who k at_ fr to_).boxes = M.boxes ∧ (M.pass who k at_ fr to_).latches.length = M.latches.length := by
  unfold MS.pass
  split
  · split <;> simp [MS.note]
  · simp
theorem act_lim (kk : Nat) (who at_ x : Int) (b : List S143) : (M.act kk who at_ x b).log.length ≤ M.log.length + 1 ∧ (M.act kk who at_ x b).nb ≤ M.nb + 1 ∧ (∀ c ∈ (M.act kk who at_ x b).boxes, c ∈ M.boxes ∨ c = b) ∧ (M.act kk who at_ x b).latches.length = M.latches.length := by
  unfold MS.act
  split
  · unfold MS.loadTo; split <;> simp [MS.note] <;> (intro c hc; exact .inl hc)
  · split
    · unfold MS.store; split <;> simp [MS.note] <;> (intro c hc; exact .inl hc)
    · split
      · unfold MS.getTo; split <;> simp [MS.note] <;> (intro c hc; exact .inl hc)
      · split
        · unfold MS.set_; split
          · exact ⟨by simp [MS.note], by simp [MS.note], fun c hc => List.mem_or_eq_of_mem_set hc, rfl⟩
          · exact ⟨by omega, by omega, fun c hc => .inl hc, rfl⟩
        · split
          · obtain ⟨h1, h2, h3, h4⟩ := pass_lim (M := M) who 4 at_ (-1) who
            exact ⟨h1, by omega, fun c hc => .inl (by rw [h3] at hc; exact hc), h4⟩
          · split
            · obtain ⟨h1, h2, h3, h4⟩ := pass_lim (M := M) who 5 at_ who (-1)
              exact ⟨h1, by omega, fun c hc => .inl (by rw [h3] at hc; exact hc), h4⟩
            · split
              · obtain ⟨h1, h2, h3, h4⟩ := pass_lim (M := M) who 6 at_ who (-1)
                unfold MS.sleep
                split
                · exact ⟨h1, Nat.le_refl _, fun c hc => .inl (by have hc : c ∈ (M.pass who 6 at_ who (-1)).boxes := hc; rw [h3] at hc; exact hc), h4⟩
                · exact ⟨h1, by omega, fun c hc => .inl (by rw [h3] at hc; exact hc), h4⟩
              · obtain ⟨h1, h2, h3, h4⟩ := pass_lim (M := M) who 7 at_ who who
                unfold MS.wake
                split
                · exact ⟨h1, by show (M.pass who 7 at_ who who).nb ≤ _; omega, fun c hc => .inl (by have hc : c ∈ (M.pass who 7 at_ who who).boxes := hc; rw [h3] at hc; exact hc), h4⟩
                · exact ⟨h1, by omega, fun c hc => .inl (by rw [h3] at hc; exact hc), h4⟩
theorem Lim.act {bd' : List S28} (h : Lim M bd i) (kk : Nat) (who at_ x : Int) (b : List S143) (hb : b.length ≤ 12) (hbd : bd'.length ≤ bd.length + 1) : Lim (M.act kk who at_ x b) bd' (i + 1) := by
  obtain ⟨h1, h2, h3, h4⟩ := act_lim (M := M) kk who at_ x b
  exact ⟨Nat.le_trans h1 (by have := h.log; omega), Nat.le_trans h2 (by have := h.nb; omega), by have := h.bd; omega, fun c hc => (h3 c hc).elim (h.box c) (fun e => e ▸ hb), h4.trans h.lat⟩
theorem ansB_len (h : Lim M bd i) (kk : Nat) (who at_ : Int) : (M.ansB kk who at_).length ≤ 12 := by
  unfold MS.ansB
  split
  · unfold MS.get
    split
    · unfold rdB
      rw [List.getD_eq_getElem?_getD]
      cases hb : M.boxes[at_.toNat]? with
      | none => simp
      | some c => exact h.box c (List.mem_of_getElem? hb)
    · simp
  · simp
end
end Go.Proofs.Ytlcnckbmolefpaa.P
end
