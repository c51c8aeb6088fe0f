/-
  No cell of these rows narrows 'for every input' (looked for: loops, veiled, ifaces, maps, wideKeys, modest, calm, conditions, laid).
  DERIVED. THE GIVEN ROWS OF THIS SEAT. 13 by the template 'for every input the law returns true; each argument reads behind the call as it read before'; 0 by the template 'total and deterministic' (their statements: YtlcnckbmolefpaaTotals.lean).
  GIVEN WITH THE SEED: the statements are not yours to turn. If you find one false, say at which input.
  Laid BY PROGRAM, IN A SANDBOX (cutbox-rows.mjs): the forced cells as the released guide's own fill.sh prints them over the translation bebde1b6e10178c1… (all of the seat's roots in one cut). By AI agents, Wed Nov 11 2026. No macro, syntax, notation, axiom, sorry.
-/
import Derived.Test.YtlcnckbmolefpaaChecked
import GoSem.Claim
import GoSem.ClaimJoined
import GoSem.ClaimMapViews
import Derived.JoinedTies
import Derived.KernelRfl
namespace Go.Proofs.Ytlcnckbmolefpaa
/- THE CELL 'sum', in the pinned program and in every row, IS THE sha256 OF THE DUMP (.gsa) THAT YtlcnckbmolefpaaProg.lean LOADS. Nothing in Lean hashes anything: it is a label: what it is worth is what the hold of that sum in a sandbox is worth. -/
noncomputable def Try.pinned : Pinned := { name := "ytlcnckbmolefpaa", sum := "bebde1b6e10178c1a140b50015dbfde6b71a18757ef558954923701bcb16b5ba", checked := Try.checked }
namespace Rows
def none {H : Type} : Left H := { results := [], args := [] }

/-- 'marchlandlaw10.PickWhos': WHATEVER THE INPUT: true; the input reads as it did. -/
def pickWhosSpec : ChangeSpec := { name := "pickWhos", fn := fun _ => fun
  | [d1, d2, d3] => { results := [.lit (.bool true)], args := [d1, d2, d3] }
  | _ => none }
def pickWhosRow : OpenClaim := { program := "ytlcnckbmolefpaa", sum := "bebde1b6e10178c1a140b50015dbfde6b71a18757ef558954923701bcb16b5ba", func := "marchland/marchlandlaw10.PickWhos", spec := "pickWhos", apart := false }
def PickWhosSaid : Prop := pickWhosRow.holds Try.pinned (OpenSpec.ofChange pickWhosSpec)

/-- ITS FALSE NEIGHBOUR: 'it returns false'. Refute it at one input. -/
def pickWhosWrong : ChangeSpec := { name := "pickWhos", fn := fun _ => fun
  | [d1, d2, d3] => { results := [.lit (.bool false)], args := [d1, d2, d3] }
  | _ => none }
def PickWhosWrongFalsely : Prop := pickWhosRow.holds Try.pinned (OpenSpec.ofChange pickWhosWrong)

/-- 'marchlandlaw10.PickFairs': WHATEVER THE INPUT: true; the input reads as it did. -/
def pickFairsSpec : ChangeSpec := { name := "pickFairs", fn := fun _ => fun
  | [d1, d2, d3] => { results := [.lit (.bool true)], args := [d1, d2, d3] }
  | _ => none }
def pickFairsRow : OpenClaim := { program := "ytlcnckbmolefpaa", sum := "bebde1b6e10178c1a140b50015dbfde6b71a18757ef558954923701bcb16b5ba", func := "marchland/marchlandlaw10.PickFairs", spec := "pickFairs", apart := false }
def PickFairsSaid : Prop := pickFairsRow.holds Try.pinned (OpenSpec.ofChange pickFairsSpec)

/-- ITS FALSE NEIGHBOUR: 'it returns false'. Refute it at one input. -/
def pickFairsWrong : ChangeSpec := { name := "pickFairs", fn := fun _ => fun
  | [d1, d2, d3] => { results := [.lit (.bool false)], args := [d1, d2, d3] }
  | _ => none }
def PickFairsWrongFalsely : Prop := pickFairsRow.holds Try.pinned (OpenSpec.ofChange pickFairsWrong)

/-- 'marchlandlaw09.ClockBefores': WHATEVER THE INPUT: true; the input reads as it did. -/
def clockBeforesSpec : ChangeSpec := { name := "clockBefores", fn := fun _ => fun
  | [d1, d2, d3] => { results := [.lit (.bool true)], args := [d1, d2, d3] }
  | _ => none }
def clockBeforesRow : OpenClaim := { program := "ytlcnckbmolefpaa", sum := "bebde1b6e10178c1a140b50015dbfde6b71a18757ef558954923701bcb16b5ba", func := "marchland/marchlandlaw09.ClockBefores", spec := "clockBefores", inPlace := ["maps.clone"], apart := false }
def ClockBeforesSaid : Prop := clockBeforesRow.holds Try.pinned (OpenSpec.ofChange clockBeforesSpec)

/-- ITS FALSE NEIGHBOUR: 'it returns false'. Refute it at one input. -/
def clockBeforesWrong : ChangeSpec := { name := "clockBefores", fn := fun _ => fun
  | [d1, d2, d3] => { results := [.lit (.bool false)], args := [d1, d2, d3] }
  | _ => none }
def ClockBeforesWrongFalsely : Prop := clockBeforesRow.holds Try.pinned (OpenSpec.ofChange clockBeforesWrong)

/-- 'marchlandlaw09.ClockRaces': WHATEVER THE INPUT: true; the input reads as it did. -/
def clockRacesSpec : ChangeSpec := { name := "clockRaces", fn := fun _ => fun
  | [d] => { results := [.lit (.bool true)], args := [d] }
  | _ => none }
def clockRacesRow : OpenClaim := { program := "ytlcnckbmolefpaa", sum := "bebde1b6e10178c1a140b50015dbfde6b71a18757ef558954923701bcb16b5ba", func := "marchland/marchlandlaw09.ClockRaces", spec := "clockRaces", inPlace := ["maps.clone"], apart := false }
def ClockRacesSaid : Prop := clockRacesRow.holds Try.pinned (OpenSpec.ofChange clockRacesSpec)

/-- ITS FALSE NEIGHBOUR: 'it returns false'. Refute it at one input. -/
def clockRacesWrong : ChangeSpec := { name := "clockRaces", fn := fun _ => fun
  | [d] => { results := [.lit (.bool false)], args := [d] }
  | _ => none }
def ClockRacesWrongFalsely : Prop := clockRacesRow.holds Try.pinned (OpenSpec.ofChange clockRacesWrong)

/-- 'marchlandlaw08.MemKeeps': WHATEVER THE INPUT: true; the input reads as it did. -/
def memKeepsSpec : ChangeSpec := { name := "memKeeps", fn := fun _ => fun
  | [d1, d2, d3] => { results := [.lit (.bool true)], args := [d1, d2, d3] }
  | _ => none }
def memKeepsRow : OpenClaim := { program := "ytlcnckbmolefpaa", sum := "bebde1b6e10178c1a140b50015dbfde6b71a18757ef558954923701bcb16b5ba", func := "marchland/marchlandlaw08.MemKeeps", spec := "memKeeps", apart := false }
def MemKeepsSaid : Prop := memKeepsRow.holds Try.pinned (OpenSpec.ofChange memKeepsSpec)

/-- ITS FALSE NEIGHBOUR: 'it returns false'. Refute it at one input. -/
def memKeepsWrong : ChangeSpec := { name := "memKeeps", fn := fun _ => fun
  | [d1, d2, d3] => { results := [.lit (.bool false)], args := [d1, d2, d3] }
  | _ => none }
def MemKeepsWrongFalsely : Prop := memKeepsRow.holds Try.pinned (OpenSpec.ofChange memKeepsWrong)

/-- 'marchlandlaw08.MemActs': WHATEVER THE INPUT: true; the input reads as it did. -/
def memActsSpec : ChangeSpec := { name := "memActs", fn := fun _ => fun
  | [d] => { results := [.lit (.bool true)], args := [d] }
  | _ => none }
def memActsRow : OpenClaim := { program := "ytlcnckbmolefpaa", sum := "bebde1b6e10178c1a140b50015dbfde6b71a18757ef558954923701bcb16b5ba", func := "marchland/marchlandlaw08.MemActs", spec := "memActs", apart := false }
def MemActsSaid : Prop := memActsRow.holds Try.pinned (OpenSpec.ofChange memActsSpec)

/-- ITS FALSE NEIGHBOUR: 'it returns false'. Refute it at one input. -/
def memActsWrong : ChangeSpec := { name := "memActs", fn := fun _ => fun
  | [d] => { results := [.lit (.bool false)], args := [d] }
  | _ => none }
def MemActsWrongFalsely : Prop := memActsRow.holds Try.pinned (OpenSpec.ofChange memActsWrong)

/-- 'marchlandlaw08.MemNews': WHATEVER THE INPUT: true; the input reads as it did. -/
def memNewsSpec : ChangeSpec := { name := "memNews", fn := fun _ => fun
  | [d1, d2, d3] => { results := [.lit (.bool true)], args := [d1, d2, d3] }
  | _ => none }
def memNewsRow : OpenClaim := { program := "ytlcnckbmolefpaa", sum := "bebde1b6e10178c1a140b50015dbfde6b71a18757ef558954923701bcb16b5ba", func := "marchland/marchlandlaw08.MemNews", spec := "memNews", apart := false }
def MemNewsSaid : Prop := memNewsRow.holds Try.pinned (OpenSpec.ofChange memNewsSpec)

/-- ITS FALSE NEIGHBOUR: 'it returns false'. Refute it at one input. -/
def memNewsWrong : ChangeSpec := { name := "memNews", fn := fun _ => fun
  | [d1, d2, d3] => { results := [.lit (.bool false)], args := [d1, d2, d3] }
  | _ => none }
def MemNewsWrongFalsely : Prop := memNewsRow.holds Try.pinned (OpenSpec.ofChange memNewsWrong)

/-- 'marchlandlaw09.ClockLatches': WHATEVER THE INPUT: true; the input reads as it did. -/
def clockLatchesSpec : ChangeSpec := { name := "clockLatches", fn := fun _ => fun
  | [d] => { results := [.lit (.bool true)], args := [d] }
  | _ => none }
def clockLatchesRow : OpenClaim := { program := "ytlcnckbmolefpaa", sum := "bebde1b6e10178c1a140b50015dbfde6b71a18757ef558954923701bcb16b5ba", func := "marchland/marchlandlaw09.ClockLatches", spec := "clockLatches", inPlace := ["maps.clone"], apart := false }
def ClockLatchesSaid : Prop := clockLatchesRow.holds Try.pinned (OpenSpec.ofChange clockLatchesSpec)

/-- ITS FALSE NEIGHBOUR: 'it returns false'. Refute it at one input. -/
def clockLatchesWrong : ChangeSpec := { name := "clockLatches", fn := fun _ => fun
  | [d] => { results := [.lit (.bool false)], args := [d] }
  | _ => none }
def ClockLatchesWrongFalsely : Prop := clockLatchesRow.holds Try.pinned (OpenSpec.ofChange clockLatchesWrong)

/-- 'marchlandlaw09.ClockHands': WHATEVER THE INPUT: true; the input reads as it did. -/
def clockHandsSpec : ChangeSpec := { name := "clockHands", fn := fun _ => fun
  | [d1, d2] => { results := [.lit (.bool true)], args := [d1, d2] }
  | _ => none }
def clockHandsRow : OpenClaim := { program := "ytlcnckbmolefpaa", sum := "bebde1b6e10178c1a140b50015dbfde6b71a18757ef558954923701bcb16b5ba", func := "marchland/marchlandlaw09.ClockHands", spec := "clockHands", inPlace := ["maps.clone"], apart := false }
def ClockHandsSaid : Prop := clockHandsRow.holds Try.pinned (OpenSpec.ofChange clockHandsSpec)

/-- ITS FALSE NEIGHBOUR: 'it returns false'. Refute it at one input. -/
def clockHandsWrong : ChangeSpec := { name := "clockHands", fn := fun _ => fun
  | [d1, d2] => { results := [.lit (.bool false)], args := [d1, d2] }
  | _ => none }
def ClockHandsWrongFalsely : Prop := clockHandsRow.holds Try.pinned (OpenSpec.ofChange clockHandsWrong)

/-- 'marchlandlaw11.RingAlone': WHATEVER THE INPUT: true; the input reads as it did. -/
def ringAloneSpec : ChangeSpec := { name := "ringAlone", fn := fun _ => fun
  | [d1, d2, d3] => { results := [.lit (.bool true)], args := [d1, d2, d3] }
  | _ => none }
def ringAloneRow : OpenClaim := { program := "ytlcnckbmolefpaa", sum := "bebde1b6e10178c1a140b50015dbfde6b71a18757ef558954923701bcb16b5ba", func := "marchland/marchlandlaw11.RingAlone", spec := "ringAlone", unfollowed := true, recurses := true, apart := false }
def RingAloneSaid : Prop := ringAloneRow.holds Try.pinned (OpenSpec.ofChange ringAloneSpec)

/-- ITS FALSE NEIGHBOUR: 'it returns false'. Refute it at one input. -/
def ringAloneWrong : ChangeSpec := { name := "ringAlone", fn := fun _ => fun
  | [d1, d2, d3] => { results := [.lit (.bool false)], args := [d1, d2, d3] }
  | _ => none }
def RingAloneWrongFalsely : Prop := ringAloneRow.holds Try.pinned (OpenSpec.ofChange ringAloneWrong)

/-- 'marchlandlaw13.ShotKeeps': WHATEVER THE INPUT: true; the input reads as it did. -/
def shotKeepsSpec : ChangeSpec := { name := "shotKeeps", fn := fun _ => fun
  | [d1, d2, d3] => { results := [.lit (.bool true)], args := [d1, d2, d3] }
  | _ => none }
def shotKeepsRow : OpenClaim := { program := "ytlcnckbmolefpaa", sum := "bebde1b6e10178c1a140b50015dbfde6b71a18757ef558954923701bcb16b5ba", func := "marchland/marchlandlaw13.ShotKeeps", spec := "shotKeeps", unfollowed := true, recurses := true, apart := false }
def ShotKeepsSaid : Prop := shotKeepsRow.holds Try.pinned (OpenSpec.ofChange shotKeepsSpec)

/-- ITS FALSE NEIGHBOUR: 'it returns false'. Refute it at one input. -/
def shotKeepsWrong : ChangeSpec := { name := "shotKeeps", fn := fun _ => fun
  | [d1, d2, d3] => { results := [.lit (.bool false)], args := [d1, d2, d3] }
  | _ => none }
def ShotKeepsWrongFalsely : Prop := shotKeepsRow.holds Try.pinned (OpenSpec.ofChange shotKeepsWrong)

/-- 'marchlandlaw13.ShotAlone': WHATEVER THE INPUT: true; the input reads as it did. -/
def shotAloneSpec : ChangeSpec := { name := "shotAlone", fn := fun _ => fun
  | [d1, d2, d3] => { results := [.lit (.bool true)], args := [d1, d2, d3] }
  | _ => none }
def shotAloneRow : OpenClaim := { program := "ytlcnckbmolefpaa", sum := "bebde1b6e10178c1a140b50015dbfde6b71a18757ef558954923701bcb16b5ba", func := "marchland/marchlandlaw13.ShotAlone", spec := "shotAlone", unfollowed := true, recurses := true, apart := false }
def ShotAloneSaid : Prop := shotAloneRow.holds Try.pinned (OpenSpec.ofChange shotAloneSpec)

/-- ITS FALSE NEIGHBOUR: 'it returns false'. Refute it at one input. -/
def shotAloneWrong : ChangeSpec := { name := "shotAlone", fn := fun _ => fun
  | [d1, d2, d3] => { results := [.lit (.bool false)], args := [d1, d2, d3] }
  | _ => none }
def ShotAloneWrongFalsely : Prop := shotAloneRow.holds Try.pinned (OpenSpec.ofChange shotAloneWrong)

/-- 'marchlandlaw11.RingTurns': WHATEVER THE INPUT: true; the input reads as it did. -/
def ringTurnsSpec : ChangeSpec := { name := "ringTurns", fn := fun _ => fun
  | [d1, d2, d3] => { results := [.lit (.bool true)], args := [d1, d2, d3] }
  | _ => none }
def ringTurnsRow : OpenClaim := { program := "ytlcnckbmolefpaa", sum := "bebde1b6e10178c1a140b50015dbfde6b71a18757ef558954923701bcb16b5ba", func := "marchland/marchlandlaw11.RingTurns", spec := "ringTurns", inPlace := ["maps.clone"], unfollowed := true, recurses := true, apart := false }
def RingTurnsSaid : Prop := ringTurnsRow.holds Try.pinned (OpenSpec.ofChange ringTurnsSpec)

/-- ITS FALSE NEIGHBOUR: 'it returns false'. Refute it at one input. -/
def ringTurnsWrong : ChangeSpec := { name := "ringTurns", fn := fun _ => fun
  | [d1, d2, d3] => { results := [.lit (.bool false)], args := [d1, d2, d3] }
  | _ => none }
def RingTurnsWrongFalsely : Prop := ringTurnsRow.holds Try.pinned (OpenSpec.ofChange ringTurnsWrong)

/- THE SECOND FORM. 'bulk': how many values and letters a reading holds, each counted each time it is reached (what is shared counts as often as it is met; a slice's spare places count too). A statement '..UptoSaid' is the law's where the arguments, and the package variables that the reading takes, are together of bulk at most 1048576: NARROWER than '..Said'. Prove '..Said' where nothing that the law and all that it calls make is longer than what came in: it says more and counts as full. Else prove '..UptoSaid'. A law counts once. -/
mutual
def uptoBulk {H : Type} : DataW H → Nat
  | .lit (.string bytes) => bytes.length + 1
  | .lit _ => 1
  | .nil => 1
  | .ptr d => uptoBulk d + 1
  | .slice elems spare => uptoBulkAll elems + uptoBulkAll spare + 1
  | .agg parts => uptoBulkAll parts + 1
  | .iface _ d => uptoBulk d + 1
  | .map entries => uptoBulkEntries entries + 1
  | .held _ => 1
def uptoBulkAll {H : Type} : List (DataW H) → Nat
  | [] => 0
  | d :: r => uptoBulk d + uptoBulkAll r
def uptoBulkEntries {H : Type} : List (Lit × DataW H) → Nat
  | [] => 0
  | x :: r => uptoBulkEntry x + uptoBulkEntries r
def uptoBulkEntry {H : Type} : Lit × DataW H → Nat
  | (.string bytes, d) => bytes.length + uptoBulk d + 1
  | (_, d) => uptoBulk d + 1
 end
def uptoSmall : (H : Type) → List (DataW H) → Bool := fun _ ds => decide (uptoBulkAll ds ≤ 1048576)
def OpenSpec.upto (s : _root_.Go.ChangeSpec) : _root_.Go.OpenSpec := { _root_.Go.OpenSpec.ofChange s with cond := some uptoSmall }

/-- 'marchlandlaw10.PickWhos', WHERE WHAT IT READS IS OF BULK AT MOST 1048576: true; the input reads as it did. -/
def pickWhosUptoRow : OpenClaim := { program := "ytlcnckbmolefpaa", sum := "bebde1b6e10178c1a140b50015dbfde6b71a18757ef558954923701bcb16b5ba", func := "marchland/marchlandlaw10.PickWhos", spec := "pickWhos", apart := false, narrowed := true }
def PickWhosUptoSaid : Prop := pickWhosUptoRow.holds Try.pinned (OpenSpec.upto pickWhosSpec)

/-- 'marchlandlaw10.PickFairs', WHERE WHAT IT READS IS OF BULK AT MOST 1048576: true; the input reads as it did. -/
def pickFairsUptoRow : OpenClaim := { program := "ytlcnckbmolefpaa", sum := "bebde1b6e10178c1a140b50015dbfde6b71a18757ef558954923701bcb16b5ba", func := "marchland/marchlandlaw10.PickFairs", spec := "pickFairs", apart := false, narrowed := true }
def PickFairsUptoSaid : Prop := pickFairsUptoRow.holds Try.pinned (OpenSpec.upto pickFairsSpec)

/-- 'marchlandlaw09.ClockBefores', WHERE WHAT IT READS IS OF BULK AT MOST 1048576: true; the input reads as it did. -/
def clockBeforesUptoRow : OpenClaim := { program := "ytlcnckbmolefpaa", sum := "bebde1b6e10178c1a140b50015dbfde6b71a18757ef558954923701bcb16b5ba", func := "marchland/marchlandlaw09.ClockBefores", spec := "clockBefores", inPlace := ["maps.clone"], apart := false, narrowed := true }
def ClockBeforesUptoSaid : Prop := clockBeforesUptoRow.holds Try.pinned (OpenSpec.upto clockBeforesSpec)

/-- 'marchlandlaw09.ClockRaces', WHERE WHAT IT READS IS OF BULK AT MOST 1048576: true; the input reads as it did. -/
def clockRacesUptoRow : OpenClaim := { program := "ytlcnckbmolefpaa", sum := "bebde1b6e10178c1a140b50015dbfde6b71a18757ef558954923701bcb16b5ba", func := "marchland/marchlandlaw09.ClockRaces", spec := "clockRaces", inPlace := ["maps.clone"], apart := false, narrowed := true }
def ClockRacesUptoSaid : Prop := clockRacesUptoRow.holds Try.pinned (OpenSpec.upto clockRacesSpec)

/-- 'marchlandlaw08.MemKeeps', WHERE WHAT IT READS IS OF BULK AT MOST 1048576: true; the input reads as it did. -/
def memKeepsUptoRow : OpenClaim := { program := "ytlcnckbmolefpaa", sum := "bebde1b6e10178c1a140b50015dbfde6b71a18757ef558954923701bcb16b5ba", func := "marchland/marchlandlaw08.MemKeeps", spec := "memKeeps", apart := false, narrowed := true }
def MemKeepsUptoSaid : Prop := memKeepsUptoRow.holds Try.pinned (OpenSpec.upto memKeepsSpec)

/-- 'marchlandlaw08.MemActs', WHERE WHAT IT READS IS OF BULK AT MOST 1048576: true; the input reads as it did. -/
def memActsUptoRow : OpenClaim := { program := "ytlcnckbmolefpaa", sum := "bebde1b6e10178c1a140b50015dbfde6b71a18757ef558954923701bcb16b5ba", func := "marchland/marchlandlaw08.MemActs", spec := "memActs", apart := false, narrowed := true }
def MemActsUptoSaid : Prop := memActsUptoRow.holds Try.pinned (OpenSpec.upto memActsSpec)

/-- 'marchlandlaw08.MemNews', WHERE WHAT IT READS IS OF BULK AT MOST 1048576: true; the input reads as it did. -/
def memNewsUptoRow : OpenClaim := { program := "ytlcnckbmolefpaa", sum := "bebde1b6e10178c1a140b50015dbfde6b71a18757ef558954923701bcb16b5ba", func := "marchland/marchlandlaw08.MemNews", spec := "memNews", apart := false, narrowed := true }
def MemNewsUptoSaid : Prop := memNewsUptoRow.holds Try.pinned (OpenSpec.upto memNewsSpec)

/-- 'marchlandlaw09.ClockLatches', WHERE WHAT IT READS IS OF BULK AT MOST 1048576: true; the input reads as it did. -/
def clockLatchesUptoRow : OpenClaim := { program := "ytlcnckbmolefpaa", sum := "bebde1b6e10178c1a140b50015dbfde6b71a18757ef558954923701bcb16b5ba", func := "marchland/marchlandlaw09.ClockLatches", spec := "clockLatches", inPlace := ["maps.clone"], apart := false, narrowed := true }
def ClockLatchesUptoSaid : Prop := clockLatchesUptoRow.holds Try.pinned (OpenSpec.upto clockLatchesSpec)

/-- 'marchlandlaw09.ClockHands', WHERE WHAT IT READS IS OF BULK AT MOST 1048576: true; the input reads as it did. -/
def clockHandsUptoRow : OpenClaim := { program := "ytlcnckbmolefpaa", sum := "bebde1b6e10178c1a140b50015dbfde6b71a18757ef558954923701bcb16b5ba", func := "marchland/marchlandlaw09.ClockHands", spec := "clockHands", inPlace := ["maps.clone"], apart := false, narrowed := true }
def ClockHandsUptoSaid : Prop := clockHandsUptoRow.holds Try.pinned (OpenSpec.upto clockHandsSpec)

/-- 'marchlandlaw11.RingAlone', WHERE WHAT IT READS IS OF BULK AT MOST 1048576: true; the input reads as it did. -/
def ringAloneUptoRow : OpenClaim := { program := "ytlcnckbmolefpaa", sum := "bebde1b6e10178c1a140b50015dbfde6b71a18757ef558954923701bcb16b5ba", func := "marchland/marchlandlaw11.RingAlone", spec := "ringAlone", unfollowed := true, recurses := true, apart := false, narrowed := true }
def RingAloneUptoSaid : Prop := ringAloneUptoRow.holds Try.pinned (OpenSpec.upto ringAloneSpec)

/-- 'marchlandlaw13.ShotKeeps', WHERE WHAT IT READS IS OF BULK AT MOST 1048576: true; the input reads as it did. -/
def shotKeepsUptoRow : OpenClaim := { program := "ytlcnckbmolefpaa", sum := "bebde1b6e10178c1a140b50015dbfde6b71a18757ef558954923701bcb16b5ba", func := "marchland/marchlandlaw13.ShotKeeps", spec := "shotKeeps", unfollowed := true, recurses := true, apart := false, narrowed := true }
def ShotKeepsUptoSaid : Prop := shotKeepsUptoRow.holds Try.pinned (OpenSpec.upto shotKeepsSpec)

/-- 'marchlandlaw13.ShotAlone', WHERE WHAT IT READS IS OF BULK AT MOST 1048576: true; the input reads as it did. -/
def shotAloneUptoRow : OpenClaim := { program := "ytlcnckbmolefpaa", sum := "bebde1b6e10178c1a140b50015dbfde6b71a18757ef558954923701bcb16b5ba", func := "marchland/marchlandlaw13.ShotAlone", spec := "shotAlone", unfollowed := true, recurses := true, apart := false, narrowed := true }
def ShotAloneUptoSaid : Prop := shotAloneUptoRow.holds Try.pinned (OpenSpec.upto shotAloneSpec)

/-- 'marchlandlaw11.RingTurns', WHERE WHAT IT READS IS OF BULK AT MOST 1048576: true; the input reads as it did. -/
def ringTurnsUptoRow : OpenClaim := { program := "ytlcnckbmolefpaa", sum := "bebde1b6e10178c1a140b50015dbfde6b71a18757ef558954923701bcb16b5ba", func := "marchland/marchlandlaw11.RingTurns", spec := "ringTurns", inPlace := ["maps.clone"], unfollowed := true, recurses := true, apart := false, narrowed := true }
def RingTurnsUptoSaid : Prop := ringTurnsUptoRow.holds Try.pinned (OpenSpec.upto ringTurnsSpec)

end Rows
end Go.Proofs.Ytlcnckbmolefpaa
