/-
  No cell of these rows narrows 'for every input' (looked for: loops, veiled, ifaces, maps, wideKeys, modest, calm, conditions, laid).
  DERIVED. THE GIVEN ROWS OF THIS SEAT. 12 by the template 'for every input the law returns true; each argument reads behind the call as it read before'; 0 by the template 'total and deterministic' (their statements: YtlljndojbhopfaaTotals.lean).
  GIVEN WITH THE SEED: the statements are not yours to turn. If you find one false, say at which input.
  Laid BY PROGRAM, IN A SANDBOX (cutbox-rows.mjs): the forced cells as the released guide's own fill.sh prints them over the translation 4e14908aa60c4173… (all of the seat's roots in one cut). By AI agents, Wed Nov 11 2026. No macro, syntax, notation, axiom, sorry.
-/
import Derived.Test.YtlljndojbhopfaaChecked
import GoSem.Claim
import GoSem.ClaimJoined
import GoSem.ClaimMapViews
import Derived.JoinedTies
import Derived.KernelRfl
namespace Go.Proofs.Ytlljndojbhopfaa
/- THE CELL 'sum', in the pinned program and in every row, IS THE sha256 OF THE DUMP (.gsa) THAT YtlljndojbhopfaaProg.lean LOADS. Nothing in Lean hashes anything: it is a label: what it is worth is what the hold of that sum in a sandbox is worth. -/
noncomputable def Try.pinned : Pinned := { name := "ytlljndojbhopfaa", sum := "4e14908aa60c41739a0246e585cd4c5b22e26b70d73f694236e1b04433656928", checked := Try.checked }
namespace Rows
def none {H : Type} : Left H := { results := [], args := [] }

/-- 'timeballlaw15.FilterDoes': WHATEVER THE INPUT: true; the input reads as it did. -/
def filterDoesSpec : ChangeSpec := { name := "filterDoes", fn := fun _ => fun
  | [d1, d2] => { results := [.lit (.bool true)], args := [d1, d2] }
  | _ => none }
def filterDoesRow : OpenClaim := { program := "ytlljndojbhopfaa", sum := "4e14908aa60c41739a0246e585cd4c5b22e26b70d73f694236e1b04433656928", func := "timeball/timeballlaw15.FilterDoes", spec := "filterDoes", unfollowed := true, recurses := true, apart := false }
def FilterDoesSaid : Prop := filterDoesRow.holds Try.pinned (OpenSpec.ofChange filterDoesSpec)

/-- ITS FALSE NEIGHBOUR: 'it returns false'. Refute it at one input. -/
def filterDoesWrong : ChangeSpec := { name := "filterDoes", fn := fun _ => fun
  | [d1, d2] => { results := [.lit (.bool false)], args := [d1, d2] }
  | _ => none }
def FilterDoesWrongFalsely : Prop := filterDoesRow.holds Try.pinned (OpenSpec.ofChange filterDoesWrong)

/-- 'timeballlaw15.FilterBest': WHATEVER THE INPUT: true; the input reads as it did. -/
def filterBestSpec : ChangeSpec := { name := "filterBest", fn := fun _ => fun
  | [d1, d2] => { results := [.lit (.bool true)], args := [d1, d2] }
  | _ => none }
def filterBestRow : OpenClaim := { program := "ytlljndojbhopfaa", sum := "4e14908aa60c41739a0246e585cd4c5b22e26b70d73f694236e1b04433656928", func := "timeball/timeballlaw15.FilterBest", spec := "filterBest", unfollowed := true, recurses := true, apart := false }
def FilterBestSaid : Prop := filterBestRow.holds Try.pinned (OpenSpec.ofChange filterBestSpec)

/-- ITS FALSE NEIGHBOUR: 'it returns false'. Refute it at one input. -/
def filterBestWrong : ChangeSpec := { name := "filterBest", fn := fun _ => fun
  | [d1, d2] => { results := [.lit (.bool false)], args := [d1, d2] }
  | _ => none }
def FilterBestWrongFalsely : Prop := filterBestRow.holds Try.pinned (OpenSpec.ofChange filterBestWrong)

/-- 'timeballlaw15.FilterSpikes': WHATEVER THE INPUT: true; the input reads as it did. -/
def filterSpikesSpec : ChangeSpec := { name := "filterSpikes", fn := fun _ => fun
  | [d1, d2, d3] => { results := [.lit (.bool true)], args := [d1, d2, d3] }
  | _ => none }
def filterSpikesRow : OpenClaim := { program := "ytlljndojbhopfaa", sum := "4e14908aa60c41739a0246e585cd4c5b22e26b70d73f694236e1b04433656928", func := "timeball/timeballlaw15.FilterSpikes", spec := "filterSpikes", unfollowed := true, recurses := true, apart := false }
def FilterSpikesSaid : Prop := filterSpikesRow.holds Try.pinned (OpenSpec.ofChange filterSpikesSpec)

/-- ITS FALSE NEIGHBOUR: 'it returns false'. Refute it at one input. -/
def filterSpikesWrong : ChangeSpec := { name := "filterSpikes", fn := fun _ => fun
  | [d1, d2, d3] => { results := [.lit (.bool false)], args := [d1, d2, d3] }
  | _ => none }
def FilterSpikesWrongFalsely : Prop := filterSpikesRow.holds Try.pinned (OpenSpec.ofChange filterSpikesWrong)

/-- 'timeballlaw15.FilterNewest': WHATEVER THE INPUT: true; the input reads as it did. -/
def filterNewestSpec : ChangeSpec := { name := "filterNewest", fn := fun _ => fun
  | [d] => { results := [.lit (.bool true)], args := [d] }
  | _ => none }
def filterNewestRow : OpenClaim := { program := "ytlljndojbhopfaa", sum := "4e14908aa60c41739a0246e585cd4c5b22e26b70d73f694236e1b04433656928", func := "timeball/timeballlaw15.FilterNewest", spec := "filterNewest", unfollowed := true, recurses := true, apart := false }
def FilterNewestSaid : Prop := filterNewestRow.holds Try.pinned (OpenSpec.ofChange filterNewestSpec)

/-- ITS FALSE NEIGHBOUR: 'it returns false'. Refute it at one input. -/
def filterNewestWrong : ChangeSpec := { name := "filterNewest", fn := fun _ => fun
  | [d] => { results := [.lit (.bool false)], args := [d] }
  | _ => none }
def FilterNewestWrongFalsely : Prop := filterNewestRow.holds Try.pinned (OpenSpec.ofChange filterNewestWrong)

/-- 'timeballlaw01.OctetPuts': WHATEVER THE INPUT: true; the input reads as it did. -/
def octetPutsSpec : ChangeSpec := { name := "octetPuts", fn := fun _ => fun
  | [d1, d2, d3] => { results := [.lit (.bool true)], args := [d1, d2, d3] }
  | _ => none }
def octetPutsRow : OpenClaim := { program := "ytlljndojbhopfaa", sum := "4e14908aa60c41739a0246e585cd4c5b22e26b70d73f694236e1b04433656928", func := "timeball/timeballlaw01.OctetPuts", spec := "octetPuts", inPlace := ["internal/abi.NoEscape", "internal/bytealg.MakeNoZero"], apart := false }
def OctetPutsSaid : Prop := octetPutsRow.holds Try.pinned (OpenSpec.ofChange octetPutsSpec)

/-- ITS FALSE NEIGHBOUR: 'it returns false'. Refute it at one input. -/
def octetPutsWrong : ChangeSpec := { name := "octetPuts", fn := fun _ => fun
  | [d1, d2, d3] => { results := [.lit (.bool false)], args := [d1, d2, d3] }
  | _ => none }
def OctetPutsWrongFalsely : Prop := octetPutsRow.holds Try.pinned (OpenSpec.ofChange octetPutsWrong)

/-- 'timeballlaw01.OctetParts': WHATEVER THE INPUT: true; the input reads as it did. -/
def octetPartsSpec : ChangeSpec := { name := "octetParts", fn := fun _ => fun
  | [d1, d2, d3] => { results := [.lit (.bool true)], args := [d1, d2, d3] }
  | _ => none }
def octetPartsRow : OpenClaim := { program := "ytlljndojbhopfaa", sum := "4e14908aa60c41739a0246e585cd4c5b22e26b70d73f694236e1b04433656928", func := "timeball/timeballlaw01.OctetParts", spec := "octetParts", inPlace := ["internal/abi.NoEscape", "internal/bytealg.MakeNoZero"], apart := false }
def OctetPartsSaid : Prop := octetPartsRow.holds Try.pinned (OpenSpec.ofChange octetPartsSpec)

/-- ITS FALSE NEIGHBOUR: 'it returns false'. Refute it at one input. -/
def octetPartsWrong : ChangeSpec := { name := "octetParts", fn := fun _ => fun
  | [d1, d2, d3] => { results := [.lit (.bool false)], args := [d1, d2, d3] }
  | _ => none }
def OctetPartsWrongFalsely : Prop := octetPartsRow.holds Try.pinned (OpenSpec.ofChange octetPartsWrong)

/-- 'timeballlaw01.OctetBack': WHATEVER THE INPUT: true; the input reads as it did. -/
def octetBackSpec : ChangeSpec := { name := "octetBack", fn := fun _ => fun
  | [d1, d2, d3] => { results := [.lit (.bool true)], args := [d1, d2, d3] }
  | _ => none }
def octetBackRow : OpenClaim := { program := "ytlljndojbhopfaa", sum := "4e14908aa60c41739a0246e585cd4c5b22e26b70d73f694236e1b04433656928", func := "timeball/timeballlaw01.OctetBack", spec := "octetBack", inPlace := ["internal/abi.NoEscape", "internal/bytealg.MakeNoZero"], apart := false }
def OctetBackSaid : Prop := octetBackRow.holds Try.pinned (OpenSpec.ofChange octetBackSpec)

/-- ITS FALSE NEIGHBOUR: 'it returns false'. Refute it at one input. -/
def octetBackWrong : ChangeSpec := { name := "octetBack", fn := fun _ => fun
  | [d1, d2, d3] => { results := [.lit (.bool false)], args := [d1, d2, d3] }
  | _ => none }
def OctetBackWrongFalsely : Prop := octetBackRow.holds Try.pinned (OpenSpec.ofChange octetBackWrong)

/-- 'timeballlaw01.OctetRound': WHATEVER THE INPUT: true; the input reads as it did. -/
def octetRoundSpec : ChangeSpec := { name := "octetRound", fn := fun _ => fun
  | [d1, d2, d3, d4] => { results := [.lit (.bool true)], args := [d1, d2, d3, d4] }
  | _ => none }
def octetRoundRow : OpenClaim := { program := "ytlljndojbhopfaa", sum := "4e14908aa60c41739a0246e585cd4c5b22e26b70d73f694236e1b04433656928", func := "timeball/timeballlaw01.OctetRound", spec := "octetRound", inPlace := ["internal/abi.NoEscape", "internal/bytealg.MakeNoZero"], apart := false }
def OctetRoundSaid : Prop := octetRoundRow.holds Try.pinned (OpenSpec.ofChange octetRoundSpec)

/-- ITS FALSE NEIGHBOUR: 'it returns false'. Refute it at one input. -/
def octetRoundWrong : ChangeSpec := { name := "octetRound", fn := fun _ => fun
  | [d1, d2, d3, d4] => { results := [.lit (.bool false)], args := [d1, d2, d3, d4] }
  | _ => none }
def OctetRoundWrongFalsely : Prop := octetRoundRow.holds Try.pinned (OpenSpec.ofChange octetRoundWrong)

/-- 'timeballlaw01.OctetJoins': WHATEVER THE INPUT: true; the input reads as it did. -/
def octetJoinsSpec : ChangeSpec := { name := "octetJoins", fn := fun _ => fun
  | [d1, d2] => { results := [.lit (.bool true)], args := [d1, d2] }
  | _ => none }
def octetJoinsRow : OpenClaim := { program := "ytlljndojbhopfaa", sum := "4e14908aa60c41739a0246e585cd4c5b22e26b70d73f694236e1b04433656928", func := "timeball/timeballlaw01.OctetJoins", spec := "octetJoins", inPlace := ["internal/abi.NoEscape", "internal/bytealg.MakeNoZero"], apart := false }
def OctetJoinsSaid : Prop := octetJoinsRow.holds Try.pinned (OpenSpec.ofChange octetJoinsSpec)

/-- ITS FALSE NEIGHBOUR: 'it returns false'. Refute it at one input. -/
def octetJoinsWrong : ChangeSpec := { name := "octetJoins", fn := fun _ => fun
  | [d1, d2] => { results := [.lit (.bool false)], args := [d1, d2] }
  | _ => none }
def OctetJoinsWrongFalsely : Prop := octetJoinsRow.holds Try.pinned (OpenSpec.ofChange octetJoinsWrong)

/-- 'timeballlaw01.OctetSame': WHATEVER THE INPUT: true; the input reads as it did. -/
def octetSameSpec : ChangeSpec := { name := "octetSame", fn := fun _ => fun
  | [d1, d2, d3] => { results := [.lit (.bool true)], args := [d1, d2, d3] }
  | _ => none }
def octetSameRow : OpenClaim := { program := "ytlljndojbhopfaa", sum := "4e14908aa60c41739a0246e585cd4c5b22e26b70d73f694236e1b04433656928", func := "timeball/timeballlaw01.OctetSame", spec := "octetSame", inPlace := ["internal/abi.NoEscape", "internal/bytealg.MakeNoZero"], apart := false }
def OctetSameSaid : Prop := octetSameRow.holds Try.pinned (OpenSpec.ofChange octetSameSpec)

/-- ITS FALSE NEIGHBOUR: 'it returns false'. Refute it at one input. -/
def octetSameWrong : ChangeSpec := { name := "octetSame", fn := fun _ => fun
  | [d1, d2, d3] => { results := [.lit (.bool false)], args := [d1, d2, d3] }
  | _ => none }
def OctetSameWrongFalsely : Prop := octetSameRow.holds Try.pinned (OpenSpec.ofChange octetSameWrong)

/-- 'timeballlaw01.OctetPads': WHATEVER THE INPUT: true; the input reads as it did. -/
def octetPadsSpec : ChangeSpec := { name := "octetPads", fn := fun _ => fun
  | [d1, d2] => { results := [.lit (.bool true)], args := [d1, d2] }
  | _ => none }
def octetPadsRow : OpenClaim := { program := "ytlljndojbhopfaa", sum := "4e14908aa60c41739a0246e585cd4c5b22e26b70d73f694236e1b04433656928", func := "timeball/timeballlaw01.OctetPads", spec := "octetPads", inPlace := ["internal/abi.NoEscape", "internal/bytealg.MakeNoZero"], apart := false }
def OctetPadsSaid : Prop := octetPadsRow.holds Try.pinned (OpenSpec.ofChange octetPadsSpec)

/-- ITS FALSE NEIGHBOUR: 'it returns false'. Refute it at one input. -/
def octetPadsWrong : ChangeSpec := { name := "octetPads", fn := fun _ => fun
  | [d1, d2] => { results := [.lit (.bool false)], args := [d1, d2] }
  | _ => none }
def OctetPadsWrongFalsely : Prop := octetPadsRow.holds Try.pinned (OpenSpec.ofChange octetPadsWrong)

/-- 'timeballlaw01.OctetOrder': WHATEVER THE INPUT: true; the input reads as it did. -/
def octetOrderSpec : ChangeSpec := { name := "octetOrder", fn := fun _ => fun
  | [d1, d2] => { results := [.lit (.bool true)], args := [d1, d2] }
  | _ => none }
def octetOrderRow : OpenClaim := { program := "ytlljndojbhopfaa", sum := "4e14908aa60c41739a0246e585cd4c5b22e26b70d73f694236e1b04433656928", func := "timeball/timeballlaw01.OctetOrder", spec := "octetOrder", inPlace := ["internal/abi.NoEscape", "internal/bytealg.MakeNoZero"], apart := false }
def OctetOrderSaid : Prop := octetOrderRow.holds Try.pinned (OpenSpec.ofChange octetOrderSpec)

/-- ITS FALSE NEIGHBOUR: 'it returns false'. Refute it at one input. -/
def octetOrderWrong : ChangeSpec := { name := "octetOrder", fn := fun _ => fun
  | [d1, d2] => { results := [.lit (.bool false)], args := [d1, d2] }
  | _ => none }
def OctetOrderWrongFalsely : Prop := octetOrderRow.holds Try.pinned (OpenSpec.ofChange octetOrderWrong)

/- THE SECOND FORM. 'bulk': how many values and letters a reading holds, each counted each time it is reached (what is shared counts as often as it is met; a slice's spare places count too). A statement '..UptoSaid' is the law's where the arguments, and the package variables that the reading takes, are together of bulk at most 1048576: NARROWER than '..Said'. Prove '..Said' where nothing that the law and all that it calls make is longer than what came in: it says more and counts as full. Else prove '..UptoSaid'. A law counts once. -/
mutual
def uptoBulk {H : Type} : DataW H → Nat
  | .lit (.string bytes) => bytes.length + 1
  | .lit _ => 1
  | .nil => 1
  | .ptr d => uptoBulk d + 1
  | .slice elems spare => uptoBulkAll elems + uptoBulkAll spare + 1
  | .agg parts => uptoBulkAll parts + 1
  | .iface _ d => uptoBulk d + 1
  | .map entries => uptoBulkEntries entries + 1
  | .held _ => 1
def uptoBulkAll {H : Type} : List (DataW H) → Nat
  | [] => 0
  | d :: r => uptoBulk d + uptoBulkAll r
def uptoBulkEntries {H : Type} : List (Lit × DataW H) → Nat
  | [] => 0
  | x :: r => uptoBulkEntry x + uptoBulkEntries r
def uptoBulkEntry {H : Type} : Lit × DataW H → Nat
  | (.string bytes, d) => bytes.length + uptoBulk d + 1
  | (_, d) => uptoBulk d + 1
 end
def uptoSmall : (H : Type) → List (DataW H) → Bool := fun _ ds => decide (uptoBulkAll ds ≤ 1048576)
def OpenSpec.upto (s : _root_.Go.ChangeSpec) : _root_.Go.OpenSpec := { _root_.Go.OpenSpec.ofChange s with cond := some uptoSmall }

/-- 'timeballlaw15.FilterDoes', WHERE WHAT IT READS IS OF BULK AT MOST 1048576: true; the input reads as it did. -/
def filterDoesUptoRow : OpenClaim := { program := "ytlljndojbhopfaa", sum := "4e14908aa60c41739a0246e585cd4c5b22e26b70d73f694236e1b04433656928", func := "timeball/timeballlaw15.FilterDoes", spec := "filterDoes", unfollowed := true, recurses := true, apart := false, narrowed := true }
def FilterDoesUptoSaid : Prop := filterDoesUptoRow.holds Try.pinned (OpenSpec.upto filterDoesSpec)

/-- 'timeballlaw15.FilterBest', WHERE WHAT IT READS IS OF BULK AT MOST 1048576: true; the input reads as it did. -/
def filterBestUptoRow : OpenClaim := { program := "ytlljndojbhopfaa", sum := "4e14908aa60c41739a0246e585cd4c5b22e26b70d73f694236e1b04433656928", func := "timeball/timeballlaw15.FilterBest", spec := "filterBest", unfollowed := true, recurses := true, apart := false, narrowed := true }
def FilterBestUptoSaid : Prop := filterBestUptoRow.holds Try.pinned (OpenSpec.upto filterBestSpec)

/-- 'timeballlaw15.FilterSpikes', WHERE WHAT IT READS IS OF BULK AT MOST 1048576: true; the input reads as it did. -/
def filterSpikesUptoRow : OpenClaim := { program := "ytlljndojbhopfaa", sum := "4e14908aa60c41739a0246e585cd4c5b22e26b70d73f694236e1b04433656928", func := "timeball/timeballlaw15.FilterSpikes", spec := "filterSpikes", unfollowed := true, recurses := true, apart := false, narrowed := true }
def FilterSpikesUptoSaid : Prop := filterSpikesUptoRow.holds Try.pinned (OpenSpec.upto filterSpikesSpec)

/-- 'timeballlaw15.FilterNewest', WHERE WHAT IT READS IS OF BULK AT MOST 1048576: true; the input reads as it did. -/
def filterNewestUptoRow : OpenClaim := { program := "ytlljndojbhopfaa", sum := "4e14908aa60c41739a0246e585cd4c5b22e26b70d73f694236e1b04433656928", func := "timeball/timeballlaw15.FilterNewest", spec := "filterNewest", unfollowed := true, recurses := true, apart := false, narrowed := true }
def FilterNewestUptoSaid : Prop := filterNewestUptoRow.holds Try.pinned (OpenSpec.upto filterNewestSpec)

/-- 'timeballlaw01.OctetPuts', WHERE WHAT IT READS IS OF BULK AT MOST 1048576: true; the input reads as it did. -/
def octetPutsUptoRow : OpenClaim := { program := "ytlljndojbhopfaa", sum := "4e14908aa60c41739a0246e585cd4c5b22e26b70d73f694236e1b04433656928", func := "timeball/timeballlaw01.OctetPuts", spec := "octetPuts", inPlace := ["internal/abi.NoEscape", "internal/bytealg.MakeNoZero"], apart := false, narrowed := true }
def OctetPutsUptoSaid : Prop := octetPutsUptoRow.holds Try.pinned (OpenSpec.upto octetPutsSpec)

/-- 'timeballlaw01.OctetParts', WHERE WHAT IT READS IS OF BULK AT MOST 1048576: true; the input reads as it did. -/
def octetPartsUptoRow : OpenClaim := { program := "ytlljndojbhopfaa", sum := "4e14908aa60c41739a0246e585cd4c5b22e26b70d73f694236e1b04433656928", func := "timeball/timeballlaw01.OctetParts", spec := "octetParts", inPlace := ["internal/abi.NoEscape", "internal/bytealg.MakeNoZero"], apart := false, narrowed := true }
def OctetPartsUptoSaid : Prop := octetPartsUptoRow.holds Try.pinned (OpenSpec.upto octetPartsSpec)

/-- 'timeballlaw01.OctetBack', WHERE WHAT IT READS IS OF BULK AT MOST 1048576: true; the input reads as it did. -/
def octetBackUptoRow : OpenClaim := { program := "ytlljndojbhopfaa", sum := "4e14908aa60c41739a0246e585cd4c5b22e26b70d73f694236e1b04433656928", func := "timeball/timeballlaw01.OctetBack", spec := "octetBack", inPlace := ["internal/abi.NoEscape", "internal/bytealg.MakeNoZero"], apart := false, narrowed := true }
def OctetBackUptoSaid : Prop := octetBackUptoRow.holds Try.pinned (OpenSpec.upto octetBackSpec)

/-- 'timeballlaw01.OctetRound', WHERE WHAT IT READS IS OF BULK AT MOST 1048576: true; the input reads as it did. -/
def octetRoundUptoRow : OpenClaim := { program := "ytlljndojbhopfaa", sum := "4e14908aa60c41739a0246e585cd4c5b22e26b70d73f694236e1b04433656928", func := "timeball/timeballlaw01.OctetRound", spec := "octetRound", inPlace := ["internal/abi.NoEscape", "internal/bytealg.MakeNoZero"], apart := false, narrowed := true }
def OctetRoundUptoSaid : Prop := octetRoundUptoRow.holds Try.pinned (OpenSpec.upto octetRoundSpec)

/-- 'timeballlaw01.OctetJoins', WHERE WHAT IT READS IS OF BULK AT MOST 1048576: true; the input reads as it did. -/
def octetJoinsUptoRow : OpenClaim := { program := "ytlljndojbhopfaa", sum := "4e14908aa60c41739a0246e585cd4c5b22e26b70d73f694236e1b04433656928", func := "timeball/timeballlaw01.OctetJoins", spec := "octetJoins", inPlace := ["internal/abi.NoEscape", "internal/bytealg.MakeNoZero"], apart := false, narrowed := true }
def OctetJoinsUptoSaid : Prop := octetJoinsUptoRow.holds Try.pinned (OpenSpec.upto octetJoinsSpec)

/-- 'timeballlaw01.OctetSame', WHERE WHAT IT READS IS OF BULK AT MOST 1048576: true; the input reads as it did. -/
def octetSameUptoRow : OpenClaim := { program := "ytlljndojbhopfaa", sum := "4e14908aa60c41739a0246e585cd4c5b22e26b70d73f694236e1b04433656928", func := "timeball/timeballlaw01.OctetSame", spec := "octetSame", inPlace := ["internal/abi.NoEscape", "internal/bytealg.MakeNoZero"], apart := false, narrowed := true }
def OctetSameUptoSaid : Prop := octetSameUptoRow.holds Try.pinned (OpenSpec.upto octetSameSpec)

/-- 'timeballlaw01.OctetPads', WHERE WHAT IT READS IS OF BULK AT MOST 1048576: true; the input reads as it did. -/
def octetPadsUptoRow : OpenClaim := { program := "ytlljndojbhopfaa", sum := "4e14908aa60c41739a0246e585cd4c5b22e26b70d73f694236e1b04433656928", func := "timeball/timeballlaw01.OctetPads", spec := "octetPads", inPlace := ["internal/abi.NoEscape", "internal/bytealg.MakeNoZero"], apart := false, narrowed := true }
def OctetPadsUptoSaid : Prop := octetPadsUptoRow.holds Try.pinned (OpenSpec.upto octetPadsSpec)

/-- 'timeballlaw01.OctetOrder', WHERE WHAT IT READS IS OF BULK AT MOST 1048576: true; the input reads as it did. -/
def octetOrderUptoRow : OpenClaim := { program := "ytlljndojbhopfaa", sum := "4e14908aa60c41739a0246e585cd4c5b22e26b70d73f694236e1b04433656928", func := "timeball/timeballlaw01.OctetOrder", spec := "octetOrder", inPlace := ["internal/abi.NoEscape", "internal/bytealg.MakeNoZero"], apart := false, narrowed := true }
def OctetOrderUptoSaid : Prop := octetOrderUptoRow.holds Try.pinned (OpenSpec.upto octetOrderSpec)

end Rows
end Go.Proofs.Ytlljndojbhopfaa
