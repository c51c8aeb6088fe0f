/-
  No cell of these rows narrows 'for every input' (looked for: loops, veiled, ifaces, maps, wideKeys, modest, calm, conditions, laid).
  DERIVED. THE GIVEN ROWS OF THIS SEAT. 11 by the template 'for every input the law returns true; each argument reads behind the call as it read before'; 0 by the template 'total and deterministic' (their statements: YtgeldmhgbnamcaaTotals.lean).
  GIVEN WITH THE SEED: the statements are not yours to turn. If you find one false, say at which input.
  Laid BY PROGRAM, IN A SANDBOX (cutbox-rows.mjs): the forced cells as the released guide's own fill.sh prints them over the translation 45a54d1490a06f65… (all of the seat's roots in one cut). By AI agents, Wed Nov 11 2026. No macro, syntax, notation, axiom, sorry.
-/
import Derived.Test.YtgeldmhgbnamcaaChecked
import GoSem.Claim
import GoSem.ClaimJoined
import GoSem.ClaimMapViews
import Derived.JoinedTies
import Derived.KernelRfl
namespace Go.Proofs.Ytgeldmhgbnamcaa
/- THE CELL 'sum', in the pinned program and in every row, IS THE sha256 OF THE DUMP (.gsa) THAT YtgeldmhgbnamcaaProg.lean LOADS. Nothing in Lean hashes anything: it is a label: what it is worth is what the hold of that sum in a sandbox is worth. -/
noncomputable def Try.pinned : Pinned := { name := "ytgeldmhgbnamcaa", sum := "45a54d1490a06f6516649711b75642b87f40c832c68acf322801a08fa326dc93", checked := Try.checked }
namespace Rows
def none {H : Type} : Left H := { results := [], args := [] }

/-- 'marchlandlaw03.BatchPacks': WHATEVER THE INPUT: true; the input reads as it did. -/
def batchPacksSpec : ChangeSpec := { name := "batchPacks", fn := fun _ => fun
  | [d] => { results := [.lit (.bool true)], args := [d] }
  | _ => none }
def batchPacksRow : OpenClaim := { program := "ytgeldmhgbnamcaa", sum := "45a54d1490a06f6516649711b75642b87f40c832c68acf322801a08fa326dc93", func := "marchland/marchlandlaw03.BatchPacks", spec := "batchPacks", unfollowed := true, recurses := true, apart := false }
def BatchPacksSaid : Prop := batchPacksRow.holds Try.pinned (OpenSpec.ofChange batchPacksSpec)

/-- ITS FALSE NEIGHBOUR: 'it returns false'. Refute it at one input. -/
def batchPacksWrong : ChangeSpec := { name := "batchPacks", fn := fun _ => fun
  | [d] => { results := [.lit (.bool false)], args := [d] }
  | _ => none }
def BatchPacksWrongFalsely : Prop := batchPacksRow.holds Try.pinned (OpenSpec.ofChange batchPacksWrong)

/-- 'marchlandlaw03.BatchOnce': WHATEVER THE INPUT: true; the input reads as it did. -/
def batchOnceSpec : ChangeSpec := { name := "batchOnce", fn := fun _ => fun
  | [d1, d2] => { results := [.lit (.bool true)], args := [d1, d2] }
  | _ => none }
def batchOnceRow : OpenClaim := { program := "ytgeldmhgbnamcaa", sum := "45a54d1490a06f6516649711b75642b87f40c832c68acf322801a08fa326dc93", func := "marchland/marchlandlaw03.BatchOnce", spec := "batchOnce", unfollowed := true, recurses := true, apart := false }
def BatchOnceSaid : Prop := batchOnceRow.holds Try.pinned (OpenSpec.ofChange batchOnceSpec)

/-- ITS FALSE NEIGHBOUR: 'it returns false'. Refute it at one input. -/
def batchOnceWrong : ChangeSpec := { name := "batchOnce", fn := fun _ => fun
  | [d1, d2] => { results := [.lit (.bool false)], args := [d1, d2] }
  | _ => none }
def BatchOnceWrongFalsely : Prop := batchOnceRow.holds Try.pinned (OpenSpec.ofChange batchOnceWrong)

/-- 'marchlandlaw03.BatchGreat': WHATEVER THE INPUT: true; the input reads as it did. -/
def batchGreatSpec : ChangeSpec := { name := "batchGreat", fn := fun _ => fun
  | [d1, d2, d3] => { results := [.lit (.bool true)], args := [d1, d2, d3] }
  | _ => none }
def batchGreatRow : OpenClaim := { program := "ytgeldmhgbnamcaa", sum := "45a54d1490a06f6516649711b75642b87f40c832c68acf322801a08fa326dc93", func := "marchland/marchlandlaw03.BatchGreat", spec := "batchGreat", unfollowed := true, recurses := true, apart := false }
def BatchGreatSaid : Prop := batchGreatRow.holds Try.pinned (OpenSpec.ofChange batchGreatSpec)

/-- ITS FALSE NEIGHBOUR: 'it returns false'. Refute it at one input. -/
def batchGreatWrong : ChangeSpec := { name := "batchGreat", fn := fun _ => fun
  | [d1, d2, d3] => { results := [.lit (.bool false)], args := [d1, d2, d3] }
  | _ => none }
def BatchGreatWrongFalsely : Prop := batchGreatRow.holds Try.pinned (OpenSpec.ofChange batchGreatWrong)

/-- 'marchlandlaw04.BagApplies': WHATEVER THE INPUT: true; the input reads as it did. -/
def bagAppliesSpec : ChangeSpec := { name := "bagApplies", fn := fun _ => fun
  | [d1, d2, d3] => { results := [.lit (.bool true)], args := [d1, d2, d3] }
  | _ => none }
def bagAppliesRow : OpenClaim := { program := "ytgeldmhgbnamcaa", sum := "45a54d1490a06f6516649711b75642b87f40c832c68acf322801a08fa326dc93", func := "marchland/marchlandlaw04.BagApplies", spec := "bagApplies", unfollowed := true, recurses := true, apart := false }
def BagAppliesSaid : Prop := bagAppliesRow.holds Try.pinned (OpenSpec.ofChange bagAppliesSpec)

/-- ITS FALSE NEIGHBOUR: 'it returns false'. Refute it at one input. -/
def bagAppliesWrong : ChangeSpec := { name := "bagApplies", fn := fun _ => fun
  | [d1, d2, d3] => { results := [.lit (.bool false)], args := [d1, d2, d3] }
  | _ => none }
def BagAppliesWrongFalsely : Prop := bagAppliesRow.holds Try.pinned (OpenSpec.ofChange bagAppliesWrong)

/-- 'marchlandlaw04.BagGreat': WHATEVER THE INPUT: true; the input reads as it did. -/
def bagGreatSpec : ChangeSpec := { name := "bagGreat", fn := fun _ => fun
  | [d1, d2] => { results := [.lit (.bool true)], args := [d1, d2] }
  | _ => none }
def bagGreatRow : OpenClaim := { program := "ytgeldmhgbnamcaa", sum := "45a54d1490a06f6516649711b75642b87f40c832c68acf322801a08fa326dc93", func := "marchland/marchlandlaw04.BagGreat", spec := "bagGreat", unfollowed := true, recurses := true, apart := false }
def BagGreatSaid : Prop := bagGreatRow.holds Try.pinned (OpenSpec.ofChange bagGreatSpec)

/-- ITS FALSE NEIGHBOUR: 'it returns false'. Refute it at one input. -/
def bagGreatWrong : ChangeSpec := { name := "bagGreat", fn := fun _ => fun
  | [d1, d2] => { results := [.lit (.bool false)], args := [d1, d2] }
  | _ => none }
def BagGreatWrongFalsely : Prop := bagGreatRow.holds Try.pinned (OpenSpec.ofChange bagGreatWrong)

/-- 'marchlandlaw04.BagLeasts': WHATEVER THE INPUT: true; the input reads as it did. -/
def bagLeastsSpec : ChangeSpec := { name := "bagLeasts", fn := fun _ => fun
  | [d1, d2] => { results := [.lit (.bool true)], args := [d1, d2] }
  | _ => none }
def bagLeastsRow : OpenClaim := { program := "ytgeldmhgbnamcaa", sum := "45a54d1490a06f6516649711b75642b87f40c832c68acf322801a08fa326dc93", func := "marchland/marchlandlaw04.BagLeasts", spec := "bagLeasts", unfollowed := true, recurses := true, apart := false }
def BagLeastsSaid : Prop := bagLeastsRow.holds Try.pinned (OpenSpec.ofChange bagLeastsSpec)

/-- ITS FALSE NEIGHBOUR: 'it returns false'. Refute it at one input. -/
def bagLeastsWrong : ChangeSpec := { name := "bagLeasts", fn := fun _ => fun
  | [d1, d2] => { results := [.lit (.bool false)], args := [d1, d2] }
  | _ => none }
def BagLeastsWrongFalsely : Prop := bagLeastsRow.holds Try.pinned (OpenSpec.ofChange bagLeastsWrong)

/-- 'marchlandlaw03.BatchMerges': WHATEVER THE INPUT: true; the input reads as it did. -/
def batchMergesSpec : ChangeSpec := { name := "batchMerges", fn := fun _ => fun
  | [d1, d2, d3] => { results := [.lit (.bool true)], args := [d1, d2, d3] }
  | _ => none }
def batchMergesRow : OpenClaim := { program := "ytgeldmhgbnamcaa", sum := "45a54d1490a06f6516649711b75642b87f40c832c68acf322801a08fa326dc93", func := "marchland/marchlandlaw03.BatchMerges", spec := "batchMerges", unfollowed := true, recurses := true, apart := false }
def BatchMergesSaid : Prop := batchMergesRow.holds Try.pinned (OpenSpec.ofChange batchMergesSpec)

/-- ITS FALSE NEIGHBOUR: 'it returns false'. Refute it at one input. -/
def batchMergesWrong : ChangeSpec := { name := "batchMerges", fn := fun _ => fun
  | [d1, d2, d3] => { results := [.lit (.bool false)], args := [d1, d2, d3] }
  | _ => none }
def BatchMergesWrongFalsely : Prop := batchMergesRow.holds Try.pinned (OpenSpec.ofChange batchMergesWrong)

/-- 'marchlandlaw04.BagBack': WHATEVER THE INPUT: true; the input reads as it did. -/
def bagBackSpec : ChangeSpec := { name := "bagBack", fn := fun _ => fun
  | [d1, d2, d3] => { results := [.lit (.bool true)], args := [d1, d2, d3] }
  | _ => none }
def bagBackRow : OpenClaim := { program := "ytgeldmhgbnamcaa", sum := "45a54d1490a06f6516649711b75642b87f40c832c68acf322801a08fa326dc93", func := "marchland/marchlandlaw04.BagBack", spec := "bagBack", unfollowed := true, recurses := true, apart := false }
def BagBackSaid : Prop := bagBackRow.holds Try.pinned (OpenSpec.ofChange bagBackSpec)

/-- ITS FALSE NEIGHBOUR: 'it returns false'. Refute it at one input. -/
def bagBackWrong : ChangeSpec := { name := "bagBack", fn := fun _ => fun
  | [d1, d2, d3] => { results := [.lit (.bool false)], args := [d1, d2, d3] }
  | _ => none }
def BagBackWrongFalsely : Prop := bagBackRow.holds Try.pinned (OpenSpec.ofChange bagBackWrong)

/-- 'marchlandlaw06.FrontOf': WHATEVER THE INPUT: true; the input reads as it did. -/
def frontOfSpec : ChangeSpec := { name := "frontOf", fn := fun _ => fun
  | [d1, d2] => { results := [.lit (.bool true)], args := [d1, d2] }
  | _ => none }
def frontOfRow : OpenClaim := { program := "ytgeldmhgbnamcaa", sum := "45a54d1490a06f6516649711b75642b87f40c832c68acf322801a08fa326dc93", func := "marchland/marchlandlaw06.FrontOf", spec := "frontOf", unfollowed := true, recurses := true, apart := false }
def FrontOfSaid : Prop := frontOfRow.holds Try.pinned (OpenSpec.ofChange frontOfSpec)

/-- ITS FALSE NEIGHBOUR: 'it returns false'. Refute it at one input. -/
def frontOfWrong : ChangeSpec := { name := "frontOf", fn := fun _ => fun
  | [d1, d2] => { results := [.lit (.bool false)], args := [d1, d2] }
  | _ => none }
def FrontOfWrongFalsely : Prop := frontOfRow.holds Try.pinned (OpenSpec.ofChange frontOfWrong)

/-- 'marchlandlaw06.FrontSinks': WHATEVER THE INPUT: true; the input reads as it did. -/
def frontSinksSpec : ChangeSpec := { name := "frontSinks", fn := fun _ => fun
  | [d1, d2, d3] => { results := [.lit (.bool true)], args := [d1, d2, d3] }
  | _ => none }
def frontSinksRow : OpenClaim := { program := "ytgeldmhgbnamcaa", sum := "45a54d1490a06f6516649711b75642b87f40c832c68acf322801a08fa326dc93", func := "marchland/marchlandlaw06.FrontSinks", spec := "frontSinks", unfollowed := true, recurses := true, apart := false }
def FrontSinksSaid : Prop := frontSinksRow.holds Try.pinned (OpenSpec.ofChange frontSinksSpec)

/-- ITS FALSE NEIGHBOUR: 'it returns false'. Refute it at one input. -/
def frontSinksWrong : ChangeSpec := { name := "frontSinks", fn := fun _ => fun
  | [d1, d2, d3] => { results := [.lit (.bool false)], args := [d1, d2, d3] }
  | _ => none }
def FrontSinksWrongFalsely : Prop := frontSinksRow.holds Try.pinned (OpenSpec.ofChange frontSinksWrong)

/-- 'marchlandlaw06.FrontWays': WHATEVER THE INPUT: true; the input reads as it did. -/
def frontWaysSpec : ChangeSpec := { name := "frontWays", fn := fun _ => fun
  | [d1, d2, d3] => { results := [.lit (.bool true)], args := [d1, d2, d3] }
  | _ => none }
def frontWaysRow : OpenClaim := { program := "ytgeldmhgbnamcaa", sum := "45a54d1490a06f6516649711b75642b87f40c832c68acf322801a08fa326dc93", func := "marchland/marchlandlaw06.FrontWays", spec := "frontWays", unfollowed := true, recurses := true, apart := false }
def FrontWaysSaid : Prop := frontWaysRow.holds Try.pinned (OpenSpec.ofChange frontWaysSpec)

/-- ITS FALSE NEIGHBOUR: 'it returns false'. Refute it at one input. -/
def frontWaysWrong : ChangeSpec := { name := "frontWays", fn := fun _ => fun
  | [d1, d2, d3] => { results := [.lit (.bool false)], args := [d1, d2, d3] }
  | _ => none }
def FrontWaysWrongFalsely : Prop := frontWaysRow.holds Try.pinned (OpenSpec.ofChange frontWaysWrong)

/- THE SECOND FORM. 'bulk': how many values and letters a reading holds, each counted each time it is reached (what is shared counts as often as it is met; a slice's spare places count too). A statement '..UptoSaid' is the law's where the arguments, and the package variables that the reading takes, are together of bulk at most 1048576: NARROWER than '..Said'. Prove '..Said' where nothing that the law and all that it calls make is longer than what came in: it says more and counts as full. Else prove '..UptoSaid'. A law counts once. -/
mutual
def uptoBulk {H : Type} : DataW H → Nat
  | .lit (.string bytes) => bytes.length + 1
  | .lit _ => 1
  | .nil => 1
  | .ptr d => uptoBulk d + 1
  | .slice elems spare => uptoBulkAll elems + uptoBulkAll spare + 1
  | .agg parts => uptoBulkAll parts + 1
  | .iface _ d => uptoBulk d + 1
  | .map entries => uptoBulkEntries entries + 1
  | .held _ => 1
def uptoBulkAll {H : Type} : List (DataW H) → Nat
  | [] => 0
  | d :: r => uptoBulk d + uptoBulkAll r
def uptoBulkEntries {H : Type} : List (Lit × DataW H) → Nat
  | [] => 0
  | x :: r => uptoBulkEntry x + uptoBulkEntries r
def uptoBulkEntry {H : Type} : Lit × DataW H → Nat
  | (.string bytes, d) => bytes.length + uptoBulk d + 1
  | (_, d) => uptoBulk d + 1
 end
def uptoSmall : (H : Type) → List (DataW H) → Bool := fun _ ds => decide (uptoBulkAll ds ≤ 1048576)
def OpenSpec.upto (s : _root_.Go.ChangeSpec) : _root_.Go.OpenSpec := { _root_.Go.OpenSpec.ofChange s with cond := some uptoSmall }

/-- 'marchlandlaw03.BatchPacks', WHERE WHAT IT READS IS OF BULK AT MOST 1048576: true; the input reads as it did. -/
def batchPacksUptoRow : OpenClaim := { program := "ytgeldmhgbnamcaa", sum := "45a54d1490a06f6516649711b75642b87f40c832c68acf322801a08fa326dc93", func := "marchland/marchlandlaw03.BatchPacks", spec := "batchPacks", unfollowed := true, recurses := true, apart := false, narrowed := true }
def BatchPacksUptoSaid : Prop := batchPacksUptoRow.holds Try.pinned (OpenSpec.upto batchPacksSpec)

/-- 'marchlandlaw03.BatchOnce', WHERE WHAT IT READS IS OF BULK AT MOST 1048576: true; the input reads as it did. -/
def batchOnceUptoRow : OpenClaim := { program := "ytgeldmhgbnamcaa", sum := "45a54d1490a06f6516649711b75642b87f40c832c68acf322801a08fa326dc93", func := "marchland/marchlandlaw03.BatchOnce", spec := "batchOnce", unfollowed := true, recurses := true, apart := false, narrowed := true }
def BatchOnceUptoSaid : Prop := batchOnceUptoRow.holds Try.pinned (OpenSpec.upto batchOnceSpec)

/-- 'marchlandlaw03.BatchGreat', WHERE WHAT IT READS IS OF BULK AT MOST 1048576: true; the input reads as it did. -/
def batchGreatUptoRow : OpenClaim := { program := "ytgeldmhgbnamcaa", sum := "45a54d1490a06f6516649711b75642b87f40c832c68acf322801a08fa326dc93", func := "marchland/marchlandlaw03.BatchGreat", spec := "batchGreat", unfollowed := true, recurses := true, apart := false, narrowed := true }
def BatchGreatUptoSaid : Prop := batchGreatUptoRow.holds Try.pinned (OpenSpec.upto batchGreatSpec)

/-- 'marchlandlaw04.BagApplies', WHERE WHAT IT READS IS OF BULK AT MOST 1048576: true; the input reads as it did. -/
def bagAppliesUptoRow : OpenClaim := { program := "ytgeldmhgbnamcaa", sum := "45a54d1490a06f6516649711b75642b87f40c832c68acf322801a08fa326dc93", func := "marchland/marchlandlaw04.BagApplies", spec := "bagApplies", unfollowed := true, recurses := true, apart := false, narrowed := true }
def BagAppliesUptoSaid : Prop := bagAppliesUptoRow.holds Try.pinned (OpenSpec.upto bagAppliesSpec)

/-- 'marchlandlaw04.BagGreat', WHERE WHAT IT READS IS OF BULK AT MOST 1048576: true; the input reads as it did. -/
def bagGreatUptoRow : OpenClaim := { program := "ytgeldmhgbnamcaa", sum := "45a54d1490a06f6516649711b75642b87f40c832c68acf322801a08fa326dc93", func := "marchland/marchlandlaw04.BagGreat", spec := "bagGreat", unfollowed := true, recurses := true, apart := false, narrowed := true }
def BagGreatUptoSaid : Prop := bagGreatUptoRow.holds Try.pinned (OpenSpec.upto bagGreatSpec)

/-- 'marchlandlaw04.BagLeasts', WHERE WHAT IT READS IS OF BULK AT MOST 1048576: true; the input reads as it did. -/
def bagLeastsUptoRow : OpenClaim := { program := "ytgeldmhgbnamcaa", sum := "45a54d1490a06f6516649711b75642b87f40c832c68acf322801a08fa326dc93", func := "marchland/marchlandlaw04.BagLeasts", spec := "bagLeasts", unfollowed := true, recurses := true, apart := false, narrowed := true }
def BagLeastsUptoSaid : Prop := bagLeastsUptoRow.holds Try.pinned (OpenSpec.upto bagLeastsSpec)

/-- 'marchlandlaw03.BatchMerges', WHERE WHAT IT READS IS OF BULK AT MOST 1048576: true; the input reads as it did. -/
def batchMergesUptoRow : OpenClaim := { program := "ytgeldmhgbnamcaa", sum := "45a54d1490a06f6516649711b75642b87f40c832c68acf322801a08fa326dc93", func := "marchland/marchlandlaw03.BatchMerges", spec := "batchMerges", unfollowed := true, recurses := true, apart := false, narrowed := true }
def BatchMergesUptoSaid : Prop := batchMergesUptoRow.holds Try.pinned (OpenSpec.upto batchMergesSpec)

/-- 'marchlandlaw04.BagBack', WHERE WHAT IT READS IS OF BULK AT MOST 1048576: true; the input reads as it did. -/
def bagBackUptoRow : OpenClaim := { program := "ytgeldmhgbnamcaa", sum := "45a54d1490a06f6516649711b75642b87f40c832c68acf322801a08fa326dc93", func := "marchland/marchlandlaw04.BagBack", spec := "bagBack", unfollowed := true, recurses := true, apart := false, narrowed := true }
def BagBackUptoSaid : Prop := bagBackUptoRow.holds Try.pinned (OpenSpec.upto bagBackSpec)

/-- 'marchlandlaw06.FrontOf', WHERE WHAT IT READS IS OF BULK AT MOST 1048576: true; the input reads as it did. -/
def frontOfUptoRow : OpenClaim := { program := "ytgeldmhgbnamcaa", sum := "45a54d1490a06f6516649711b75642b87f40c832c68acf322801a08fa326dc93", func := "marchland/marchlandlaw06.FrontOf", spec := "frontOf", unfollowed := true, recurses := true, apart := false, narrowed := true }
def FrontOfUptoSaid : Prop := frontOfUptoRow.holds Try.pinned (OpenSpec.upto frontOfSpec)

/-- 'marchlandlaw06.FrontSinks', WHERE WHAT IT READS IS OF BULK AT MOST 1048576: true; the input reads as it did. -/
def frontSinksUptoRow : OpenClaim := { program := "ytgeldmhgbnamcaa", sum := "45a54d1490a06f6516649711b75642b87f40c832c68acf322801a08fa326dc93", func := "marchland/marchlandlaw06.FrontSinks", spec := "frontSinks", unfollowed := true, recurses := true, apart := false, narrowed := true }
def FrontSinksUptoSaid : Prop := frontSinksUptoRow.holds Try.pinned (OpenSpec.upto frontSinksSpec)

/-- 'marchlandlaw06.FrontWays', WHERE WHAT IT READS IS OF BULK AT MOST 1048576: true; the input reads as it did. -/
def frontWaysUptoRow : OpenClaim := { program := "ytgeldmhgbnamcaa", sum := "45a54d1490a06f6516649711b75642b87f40c832c68acf322801a08fa326dc93", func := "marchland/marchlandlaw06.FrontWays", spec := "frontWays", unfollowed := true, recurses := true, apart := false, narrowed := true }
def FrontWaysUptoSaid : Prop := frontWaysUptoRow.holds Try.pinned (OpenSpec.upto frontWaysSpec)

end Rows
end Go.Proofs.Ytgeldmhgbnamcaa
