/-
  DERIVED. GIVEN WITH THE SEED: THE CARDS: each row of YtgeldmhgbnamcaaDoorRows.lean that lists a variable, with what it lists TIED to the program's text (the seventh form; the later family's looks); each row that meets fmt, with fmt's text TOLD by the authors' own Lean function (tested against real Go, not proved from fmt's source: count such statements apart). THE CARD IS WHAT COUNTS. Prove the row's statement (the work); the ties are given (YtgeldmhgbnamcaaDoorTie.lean); close each card by the builder's one call (the guide's Derived/Test/ToyasCard.lean, 'card_holds'). Laid BY PROGRAM, IN A SANDBOX (cutbox-door.mjs). By AI agents, Wed Nov 11 2026. No macro, syntax, notation, axiom, sorry.
-/
import Derived.Test.YtgeldmhgbnamcaaDoorRows
import GoSem.ClaimSeven
namespace Go.Proofs.YtgeldmhgbnamcaaDoor
namespace Rows

/-- THE TIED CARD OF 'marchlandlaw01.StampPlus'. -/
def stampPlusCard : Claim7 := { stood := { row := stampPlusRow, standIns := [], harness := (true, "37d01870fc24a553ad4715d5cd325253aec781f376097a369b5acd97a3e3791d"), looks := true }, kinds := [], alts := [], laidByText := true, laidKinds := [.data, .data, .data], laidTests := true, laidLooks := .later }
def StampPlusCardSaid : Prop := Claim7.holds Tryd.pinned (.plain (OpenSpec.ofChange stampPlusSpec)) stampPlusCard

/-- THE TIED CARD OF 'marchlandlaw01.StampReaches'. -/
def stampReachesCard : Claim7 := { stood := { row := stampReachesRow, standIns := [], harness := (true, "37d01870fc24a553ad4715d5cd325253aec781f376097a369b5acd97a3e3791d"), looks := true }, kinds := [], alts := [], laidByText := true, laidKinds := [.data, .data, .data], laidTests := true, laidLooks := .later }
def StampReachesCardSaid : Prop := Claim7.holds Tryd.pinned (.plain (OpenSpec.ofChange stampReachesSpec)) stampReachesCard

/-- THE TIED CARD OF 'marchlandlaw02.FaultTells'. -/
def faultTellsCard : Claim7 := { stood := { row := faultTellsRow, standIns := [], harness := (true, "37d01870fc24a553ad4715d5cd325253aec781f376097a369b5acd97a3e3791d"), looks := true }, kinds := [], alts := [], laidByText := true, laidKinds := [.data, .data, .data, .handle], laidTests := true, laidLooks := .later }
def FaultTellsCardSaid : Prop := Claim7.holds Tryd.pinned (.plain (OpenSpec.ofChange faultTellsSpec)) faultTellsCard

/-- THE TIED CARD OF 'marchlandlaw02.FaultNone'. -/
def faultNoneCard : Claim7 := { stood := { row := faultNoneRow, standIns := [], harness := (true, "37d01870fc24a553ad4715d5cd325253aec781f376097a369b5acd97a3e3791d"), looks := true }, kinds := [], alts := [], laidByText := true, laidKinds := [.data, .data, .data, .handle], laidTests := true, laidLooks := .later }
def FaultNoneCardSaid : Prop := Claim7.holds Tryd.pinned (.plain (OpenSpec.ofChange faultNoneSpec)) faultNoneCard

/-- THE TIED CARD OF 'marchlandlaw01.StampTexts'. -/
def stampTextsCard : Claim7 := { stood := { row := stampTextsRow, standIns := [], harness := (true, "37d01870fc24a553ad4715d5cd325253aec781f376097a369b5acd97a3e3791d"), looks := true }, kinds := [], alts := [], laidByText := true, laidKinds := [.data, .data, .data, .sentinel, .sentinel], laidTests := true, laidLooks := .later }
def StampTextsCardSaid : Prop := Claim7.holds Tryd.pinned (.plain (OpenSpec.ofChange stampTextsSpec)) stampTextsCard

/-- THE TIED CARD OF 'marchlandlaw05.GraphChecks'. -/
def graphChecksCard : Claim7 := { stood := { row := graphChecksRow, standIns := [], harness := (true, "37d01870fc24a553ad4715d5cd325253aec781f376097a369b5acd97a3e3791d"), looks := true }, kinds := [], alts := [], laidByText := true, laidKinds := [.data, .data, .data, .handle], laidTests := true, laidLooks := .later }
def GraphChecksCardSaid : Prop := Claim7.holds Tryd.pinned (.plain (OpenSpec.ofChange graphChecksSpec)) graphChecksCard

/-- THE TIED CARD OF 'marchlandlaw05.GraphPaths'. -/
def graphPathsCard : Claim7 := { stood := { row := graphPathsRow, standIns := [], harness := (true, "37d01870fc24a553ad4715d5cd325253aec781f376097a369b5acd97a3e3791d"), looks := true }, kinds := [], alts := [], laidByText := true, laidKinds := [.data, .data, .data, .handle], laidTests := true, laidLooks := .later }
def GraphPathsCardSaid : Prop := Claim7.holds Tryd.pinned (.plain (OpenSpec.ofChange graphPathsSpec)) graphPathsCard

/-- THE TIED CARD OF 'marchlandlaw05.GraphCycles'. -/
def graphCyclesCard : Claim7 := { stood := { row := graphCyclesRow, standIns := [], harness := (true, "37d01870fc24a553ad4715d5cd325253aec781f376097a369b5acd97a3e3791d"), looks := true }, kinds := [], alts := [], laidByText := true, laidKinds := [.data, .data, .data, .handle], laidTests := true, laidLooks := .later }
def GraphCyclesCardSaid : Prop := Claim7.holds Tryd.pinned (.plain (OpenSpec.ofChange graphCyclesSpec)) graphCyclesCard

/-- THE TIED CARD OF 'marchlandlaw06.FrontApplies'. -/
def frontAppliesCard : Claim7 := { stood := { row := frontAppliesRow, standIns := [], harness := (true, "37d01870fc24a553ad4715d5cd325253aec781f376097a369b5acd97a3e3791d"), looks := true }, kinds := [], alts := [], laidByText := true, laidKinds := [.handle], laidTests := true, laidLooks := .later }
def FrontAppliesCardSaid : Prop := Claim7.holds Tryd.pinned (.plain (OpenSpec.ofChange frontAppliesSpec)) frontAppliesCard

/-- THE SECOND FORM's CARD OF 'marchlandlaw01.StampPlus'. -/
def stampPlusUptoCard : Claim7 := { stood := { row := stampPlusUptoRow, standIns := [], harness := (true, "37d01870fc24a553ad4715d5cd325253aec781f376097a369b5acd97a3e3791d"), looks := true }, kinds := [], alts := [], laidByText := true, laidKinds := [.data, .data, .data], laidTests := true, laidLooks := .later }
def StampPlusUptoCardSaid : Prop := Claim7.holds Tryd.pinned (.plain (OpenSpec.upto stampPlusSpec)) stampPlusUptoCard

/-- THE SECOND FORM's CARD OF 'marchlandlaw01.StampReaches'. -/
def stampReachesUptoCard : Claim7 := { stood := { row := stampReachesUptoRow, standIns := [], harness := (true, "37d01870fc24a553ad4715d5cd325253aec781f376097a369b5acd97a3e3791d"), looks := true }, kinds := [], alts := [], laidByText := true, laidKinds := [.data, .data, .data], laidTests := true, laidLooks := .later }
def StampReachesUptoCardSaid : Prop := Claim7.holds Tryd.pinned (.plain (OpenSpec.upto stampReachesSpec)) stampReachesUptoCard

/-- THE SECOND FORM's CARD OF 'marchlandlaw02.FaultTells'. -/
def faultTellsUptoCard : Claim7 := { stood := { row := faultTellsUptoRow, standIns := [], harness := (true, "37d01870fc24a553ad4715d5cd325253aec781f376097a369b5acd97a3e3791d"), looks := true }, kinds := [], alts := [], laidByText := true, laidKinds := [.data, .data, .data, .handle], laidTests := true, laidLooks := .later }
def FaultTellsUptoCardSaid : Prop := Claim7.holds Tryd.pinned (.plain (OpenSpec.upto faultTellsSpec)) faultTellsUptoCard

/-- THE SECOND FORM's CARD OF 'marchlandlaw02.FaultNone'. -/
def faultNoneUptoCard : Claim7 := { stood := { row := faultNoneUptoRow, standIns := [], harness := (true, "37d01870fc24a553ad4715d5cd325253aec781f376097a369b5acd97a3e3791d"), looks := true }, kinds := [], alts := [], laidByText := true, laidKinds := [.data, .data, .data, .handle], laidTests := true, laidLooks := .later }
def FaultNoneUptoCardSaid : Prop := Claim7.holds Tryd.pinned (.plain (OpenSpec.upto faultNoneSpec)) faultNoneUptoCard

/-- THE SECOND FORM's CARD OF 'marchlandlaw01.StampTexts'. -/
def stampTextsUptoCard : Claim7 := { stood := { row := stampTextsUptoRow, standIns := [], harness := (true, "37d01870fc24a553ad4715d5cd325253aec781f376097a369b5acd97a3e3791d"), looks := true }, kinds := [], alts := [], laidByText := true, laidKinds := [.data, .data, .data, .sentinel, .sentinel], laidTests := true, laidLooks := .later }
def StampTextsUptoCardSaid : Prop := Claim7.holds Tryd.pinned (.plain (OpenSpec.upto stampTextsSpec)) stampTextsUptoCard

/-- THE SECOND FORM's CARD OF 'marchlandlaw05.GraphChecks'. -/
def graphChecksUptoCard : Claim7 := { stood := { row := graphChecksUptoRow, standIns := [], harness := (true, "37d01870fc24a553ad4715d5cd325253aec781f376097a369b5acd97a3e3791d"), looks := true }, kinds := [], alts := [], laidByText := true, laidKinds := [.data, .data, .data, .handle], laidTests := true, laidLooks := .later }
def GraphChecksUptoCardSaid : Prop := Claim7.holds Tryd.pinned (.plain (OpenSpec.upto graphChecksSpec)) graphChecksUptoCard

/-- THE SECOND FORM's CARD OF 'marchlandlaw05.GraphPaths'. -/
def graphPathsUptoCard : Claim7 := { stood := { row := graphPathsUptoRow, standIns := [], harness := (true, "37d01870fc24a553ad4715d5cd325253aec781f376097a369b5acd97a3e3791d"), looks := true }, kinds := [], alts := [], laidByText := true, laidKinds := [.data, .data, .data, .handle], laidTests := true, laidLooks := .later }
def GraphPathsUptoCardSaid : Prop := Claim7.holds Tryd.pinned (.plain (OpenSpec.upto graphPathsSpec)) graphPathsUptoCard

/-- THE SECOND FORM's CARD OF 'marchlandlaw05.GraphCycles'. -/
def graphCyclesUptoCard : Claim7 := { stood := { row := graphCyclesUptoRow, standIns := [], harness := (true, "37d01870fc24a553ad4715d5cd325253aec781f376097a369b5acd97a3e3791d"), looks := true }, kinds := [], alts := [], laidByText := true, laidKinds := [.data, .data, .data, .handle], laidTests := true, laidLooks := .later }
def GraphCyclesUptoCardSaid : Prop := Claim7.holds Tryd.pinned (.plain (OpenSpec.upto graphCyclesSpec)) graphCyclesUptoCard

/-- THE SECOND FORM's CARD OF 'marchlandlaw06.FrontApplies'. -/
def frontAppliesUptoCard : Claim7 := { stood := { row := frontAppliesUptoRow, standIns := [], harness := (true, "37d01870fc24a553ad4715d5cd325253aec781f376097a369b5acd97a3e3791d"), looks := true }, kinds := [], alts := [], laidByText := true, laidKinds := [.handle], laidTests := true, laidLooks := .later }
def FrontAppliesUptoCardSaid : Prop := Claim7.holds Tryd.pinned (.plain (OpenSpec.upto frontAppliesSpec)) frontAppliesUptoCard
end Rows
end Go.Proofs.YtgeldmhgbnamcaaDoor
