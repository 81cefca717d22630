/-
  No cell of these rows narrows 'for every input' (looked for: loops, veiled, ifaces, maps, wideKeys, modest, calm, conditions, laid).
  DERIVED. THE GIVEN ROWS OF THIS SEAT. 8 by the template 'for every input the law returns true; each argument reads behind the call as it read before'; 0 by the template 'total and deterministic' (their statements: YtoifkfhbinfplaaTotals.lean).
  GIVEN WITH THE SEED: the statements are not yours to turn. If you find one false, say at which input.
  Laid BY PROGRAM, IN A SANDBOX (cutbox-rows.mjs): the forced cells as the released guide's own fill.sh prints them over the translation a149a0136cd4b157… (all of the seat's roots in one cut). By AI agents, Wed Nov 11 2026. No macro, syntax, notation, axiom, sorry.
-/
import Derived.Test.YtoifkfhbinfplaaChecked
import GoSem.Claim
import GoSem.ClaimJoined
import GoSem.ClaimMapViews
import Derived.JoinedTies
import Derived.KernelRfl
namespace Go.Proofs.Ytoifkfhbinfplaa
/- THE CELL 'sum', in the pinned program and in every row, IS THE sha256 OF THE DUMP (.gsa) THAT YtoifkfhbinfplaaProg.lean LOADS. Nothing in Lean hashes anything: it is a label: what it is worth is what the hold of that sum in a sandbox is worth. -/
noncomputable def Try.pinned : Pinned := { name := "ytoifkfhbinfplaa", sum := "a149a0136cd4b1571faccbcaaba1d78301aa8be383a5e0708df59ab7712ef26b", checked := Try.checked }
namespace Rows
def none {H : Type} : Left H := { results := [], args := [] }

/-- 'timeballlaw07.HeadPuts': WHATEVER THE INPUT: true; the input reads as it did. -/
def headPutsSpec : ChangeSpec := { name := "headPuts", fn := fun _ => fun
  | [d1, d2] => { results := [.lit (.bool true)], args := [d1, d2] }
  | _ => none }
def headPutsRow : OpenClaim := { program := "ytoifkfhbinfplaa", sum := "a149a0136cd4b1571faccbcaaba1d78301aa8be383a5e0708df59ab7712ef26b", func := "timeball/timeballlaw07.HeadPuts", spec := "headPuts", inPlace := ["internal/abi.NoEscape", "internal/bytealg.MakeNoZero"], apart := false }
def HeadPutsSaid : Prop := headPutsRow.holds Try.pinned (OpenSpec.ofChange headPutsSpec)

/-- ITS FALSE NEIGHBOUR: 'it returns false'. Refute it at one input. -/
def headPutsWrong : ChangeSpec := { name := "headPuts", fn := fun _ => fun
  | [d1, d2] => { results := [.lit (.bool false)], args := [d1, d2] }
  | _ => none }
def HeadPutsWrongFalsely : Prop := headPutsRow.holds Try.pinned (OpenSpec.ofChange headPutsWrong)

/-- 'timeballlaw07.HeadReads': WHATEVER THE INPUT: true; the input reads as it did. -/
def headReadsSpec : ChangeSpec := { name := "headReads", fn := fun _ => fun
  | [d1, d2, d3] => { results := [.lit (.bool true)], args := [d1, d2, d3] }
  | _ => none }
def headReadsRow : OpenClaim := { program := "ytoifkfhbinfplaa", sum := "a149a0136cd4b1571faccbcaaba1d78301aa8be383a5e0708df59ab7712ef26b", func := "timeball/timeballlaw07.HeadReads", spec := "headReads", inPlace := ["internal/abi.NoEscape", "internal/bytealg.MakeNoZero"], apart := false }
def HeadReadsSaid : Prop := headReadsRow.holds Try.pinned (OpenSpec.ofChange headReadsSpec)

/-- ITS FALSE NEIGHBOUR: 'it returns false'. Refute it at one input. -/
def headReadsWrong : ChangeSpec := { name := "headReads", fn := fun _ => fun
  | [d1, d2, d3] => { results := [.lit (.bool false)], args := [d1, d2, d3] }
  | _ => none }
def HeadReadsWrongFalsely : Prop := headReadsRow.holds Try.pinned (OpenSpec.ofChange headReadsWrong)

/-- 'timeballlaw07.HeadBack': WHATEVER THE INPUT: true; the input reads as it did. -/
def headBackSpec : ChangeSpec := { name := "headBack", fn := fun _ => fun
  | [d1, d2] => { results := [.lit (.bool true)], args := [d1, d2] }
  | _ => none }
def headBackRow : OpenClaim := { program := "ytoifkfhbinfplaa", sum := "a149a0136cd4b1571faccbcaaba1d78301aa8be383a5e0708df59ab7712ef26b", func := "timeball/timeballlaw07.HeadBack", spec := "headBack", inPlace := ["internal/abi.NoEscape", "internal/bytealg.MakeNoZero"], apart := false }
def HeadBackSaid : Prop := headBackRow.holds Try.pinned (OpenSpec.ofChange headBackSpec)

/-- ITS FALSE NEIGHBOUR: 'it returns false'. Refute it at one input. -/
def headBackWrong : ChangeSpec := { name := "headBack", fn := fun _ => fun
  | [d1, d2] => { results := [.lit (.bool false)], args := [d1, d2] }
  | _ => none }
def HeadBackWrongFalsely : Prop := headBackRow.holds Try.pinned (OpenSpec.ofChange headBackWrong)

/-- 'timeballlaw07.HeadPackets': WHATEVER THE INPUT: true; the input reads as it did. -/
def headPacketsSpec : ChangeSpec := { name := "headPackets", fn := fun _ => fun
  | [d1, d2, d3] => { results := [.lit (.bool true)], args := [d1, d2, d3] }
  | _ => none }
def headPacketsRow : OpenClaim := { program := "ytoifkfhbinfplaa", sum := "a149a0136cd4b1571faccbcaaba1d78301aa8be383a5e0708df59ab7712ef26b", func := "timeball/timeballlaw07.HeadPackets", spec := "headPackets", inPlace := ["internal/abi.NoEscape", "internal/bytealg.MakeNoZero"], apart := false }
def HeadPacketsSaid : Prop := headPacketsRow.holds Try.pinned (OpenSpec.ofChange headPacketsSpec)

/-- ITS FALSE NEIGHBOUR: 'it returns false'. Refute it at one input. -/
def headPacketsWrong : ChangeSpec := { name := "headPackets", fn := fun _ => fun
  | [d1, d2, d3] => { results := [.lit (.bool false)], args := [d1, d2, d3] }
  | _ => none }
def HeadPacketsWrongFalsely : Prop := headPacketsRow.holds Try.pinned (OpenSpec.ofChange headPacketsWrong)

/-- 'timeballlaw07.HeadCuts': WHATEVER THE INPUT: true; the input reads as it did. -/
def headCutsSpec : ChangeSpec := { name := "headCuts", fn := fun _ => fun
  | [d1, d2, d3] => { results := [.lit (.bool true)], args := [d1, d2, d3] }
  | _ => none }
def headCutsRow : OpenClaim := { program := "ytoifkfhbinfplaa", sum := "a149a0136cd4b1571faccbcaaba1d78301aa8be383a5e0708df59ab7712ef26b", func := "timeball/timeballlaw07.HeadCuts", spec := "headCuts", inPlace := ["internal/abi.NoEscape", "internal/bytealg.MakeNoZero"], apart := false }
def HeadCutsSaid : Prop := headCutsRow.holds Try.pinned (OpenSpec.ofChange headCutsSpec)

/-- ITS FALSE NEIGHBOUR: 'it returns false'. Refute it at one input. -/
def headCutsWrong : ChangeSpec := { name := "headCuts", fn := fun _ => fun
  | [d1, d2, d3] => { results := [.lit (.bool false)], args := [d1, d2, d3] }
  | _ => none }
def HeadCutsWrongFalsely : Prop := headCutsRow.holds Try.pinned (OpenSpec.ofChange headCutsWrong)

/-- 'timeballlaw07.HeadFinds': WHATEVER THE INPUT: true; the input reads as it did. -/
def headFindsSpec : ChangeSpec := { name := "headFinds", fn := fun _ => fun
  | [d1, d2] => { results := [.lit (.bool true)], args := [d1, d2] }
  | _ => none }
def headFindsRow : OpenClaim := { program := "ytoifkfhbinfplaa", sum := "a149a0136cd4b1571faccbcaaba1d78301aa8be383a5e0708df59ab7712ef26b", func := "timeball/timeballlaw07.HeadFinds", spec := "headFinds", inPlace := ["internal/abi.NoEscape", "internal/bytealg.MakeNoZero"], apart := false }
def HeadFindsSaid : Prop := headFindsRow.holds Try.pinned (OpenSpec.ofChange headFindsSpec)

/-- ITS FALSE NEIGHBOUR: 'it returns false'. Refute it at one input. -/
def headFindsWrong : ChangeSpec := { name := "headFinds", fn := fun _ => fun
  | [d1, d2] => { results := [.lit (.bool false)], args := [d1, d2] }
  | _ => none }
def HeadFindsWrongFalsely : Prop := headFindsRow.holds Try.pinned (OpenSpec.ofChange headFindsWrong)

/-- 'timeballlaw07.HeadJoins': WHATEVER THE INPUT: true; the input reads as it did. -/
def headJoinsSpec : ChangeSpec := { name := "headJoins", fn := fun _ => fun
  | [d1, d2, d3] => { results := [.lit (.bool true)], args := [d1, d2, d3] }
  | _ => none }
def headJoinsRow : OpenClaim := { program := "ytoifkfhbinfplaa", sum := "a149a0136cd4b1571faccbcaaba1d78301aa8be383a5e0708df59ab7712ef26b", func := "timeball/timeballlaw07.HeadJoins", spec := "headJoins", inPlace := ["internal/abi.NoEscape", "internal/bytealg.MakeNoZero"], apart := false }
def HeadJoinsSaid : Prop := headJoinsRow.holds Try.pinned (OpenSpec.ofChange headJoinsSpec)

/-- ITS FALSE NEIGHBOUR: 'it returns false'. Refute it at one input. -/
def headJoinsWrong : ChangeSpec := { name := "headJoins", fn := fun _ => fun
  | [d1, d2, d3] => { results := [.lit (.bool false)], args := [d1, d2, d3] }
  | _ => none }
def HeadJoinsWrongFalsely : Prop := headJoinsRow.holds Try.pinned (OpenSpec.ofChange headJoinsWrong)

/-- 'timeballlaw07.HeadStamps': WHATEVER THE INPUT: true; the input reads as it did. -/
def headStampsSpec : ChangeSpec := { name := "headStamps", fn := fun _ => fun
  | [d1, d2, d3] => { results := [.lit (.bool true)], args := [d1, d2, d3] }
  | _ => none }
def headStampsRow : OpenClaim := { program := "ytoifkfhbinfplaa", sum := "a149a0136cd4b1571faccbcaaba1d78301aa8be383a5e0708df59ab7712ef26b", func := "timeball/timeballlaw07.HeadStamps", spec := "headStamps", inPlace := ["internal/abi.NoEscape", "internal/bytealg.MakeNoZero"], apart := false }
def HeadStampsSaid : Prop := headStampsRow.holds Try.pinned (OpenSpec.ofChange headStampsSpec)

/-- ITS FALSE NEIGHBOUR: 'it returns false'. Refute it at one input. -/
def headStampsWrong : ChangeSpec := { name := "headStamps", fn := fun _ => fun
  | [d1, d2, d3] => { results := [.lit (.bool false)], args := [d1, d2, d3] }
  | _ => none }
def HeadStampsWrongFalsely : Prop := headStampsRow.holds Try.pinned (OpenSpec.ofChange headStampsWrong)

/- THE SECOND FORM. 'bulk': how many values and letters a reading holds, each counted each time it is reached (what is shared counts as often as it is met; a slice's spare places count too). A statement '..UptoSaid' is the law's where the arguments, and the package variables that the reading takes, are together of bulk at most 1048576: NARROWER than '..Said'. Prove '..Said' where nothing that the law and all that it calls make is longer than what came in: it says more and counts as full. Else prove '..UptoSaid'. A law counts once. -/
mutual
def uptoBulk {H : Type} : DataW H → Nat
  | .lit (.string bytes) => bytes.length + 1
  | .lit _ => 1
  | .nil => 1
  | .ptr d => uptoBulk d + 1
  | .slice elems spare => uptoBulkAll elems + uptoBulkAll spare + 1
  | .agg parts => uptoBulkAll parts + 1
  | .iface _ d => uptoBulk d + 1
  | .map entries => uptoBulkEntries entries + 1
  | .held _ => 1
def uptoBulkAll {H : Type} : List (DataW H) → Nat
  | [] => 0
  | d :: r => uptoBulk d + uptoBulkAll r
def uptoBulkEntries {H : Type} : List (Lit × DataW H) → Nat
  | [] => 0
  | x :: r => uptoBulkEntry x + uptoBulkEntries r
def uptoBulkEntry {H : Type} : Lit × DataW H → Nat
  | (.string bytes, d) => bytes.length + uptoBulk d + 1
  | (_, d) => uptoBulk d + 1
 end
def uptoSmall : (H : Type) → List (DataW H) → Bool := fun _ ds => decide (uptoBulkAll ds ≤ 1048576)
def OpenSpec.upto (s : _root_.Go.ChangeSpec) : _root_.Go.OpenSpec := { _root_.Go.OpenSpec.ofChange s with cond := some uptoSmall }

/-- 'timeballlaw07.HeadPuts', WHERE WHAT IT READS IS OF BULK AT MOST 1048576: true; the input reads as it did. -/
def headPutsUptoRow : OpenClaim := { program := "ytoifkfhbinfplaa", sum := "a149a0136cd4b1571faccbcaaba1d78301aa8be383a5e0708df59ab7712ef26b", func := "timeball/timeballlaw07.HeadPuts", spec := "headPuts", inPlace := ["internal/abi.NoEscape", "internal/bytealg.MakeNoZero"], apart := false, narrowed := true }
def HeadPutsUptoSaid : Prop := headPutsUptoRow.holds Try.pinned (OpenSpec.upto headPutsSpec)

/-- 'timeballlaw07.HeadReads', WHERE WHAT IT READS IS OF BULK AT MOST 1048576: true; the input reads as it did. -/
def headReadsUptoRow : OpenClaim := { program := "ytoifkfhbinfplaa", sum := "a149a0136cd4b1571faccbcaaba1d78301aa8be383a5e0708df59ab7712ef26b", func := "timeball/timeballlaw07.HeadReads", spec := "headReads", inPlace := ["internal/abi.NoEscape", "internal/bytealg.MakeNoZero"], apart := false, narrowed := true }
def HeadReadsUptoSaid : Prop := headReadsUptoRow.holds Try.pinned (OpenSpec.upto headReadsSpec)

/-- 'timeballlaw07.HeadBack', WHERE WHAT IT READS IS OF BULK AT MOST 1048576: true; the input reads as it did. -/
def headBackUptoRow : OpenClaim := { program := "ytoifkfhbinfplaa", sum := "a149a0136cd4b1571faccbcaaba1d78301aa8be383a5e0708df59ab7712ef26b", func := "timeball/timeballlaw07.HeadBack", spec := "headBack", inPlace := ["internal/abi.NoEscape", "internal/bytealg.MakeNoZero"], apart := false, narrowed := true }
def HeadBackUptoSaid : Prop := headBackUptoRow.holds Try.pinned (OpenSpec.upto headBackSpec)

/-- 'timeballlaw07.HeadPackets', WHERE WHAT IT READS IS OF BULK AT MOST 1048576: true; the input reads as it did. -/
def headPacketsUptoRow : OpenClaim := { program := "ytoifkfhbinfplaa", sum := "a149a0136cd4b1571faccbcaaba1d78301aa8be383a5e0708df59ab7712ef26b", func := "timeball/timeballlaw07.HeadPackets", spec := "headPackets", inPlace := ["internal/abi.NoEscape", "internal/bytealg.MakeNoZero"], apart := false, narrowed := true }
def HeadPacketsUptoSaid : Prop := headPacketsUptoRow.holds Try.pinned (OpenSpec.upto headPacketsSpec)

/-- 'timeballlaw07.HeadCuts', WHERE WHAT IT READS IS OF BULK AT MOST 1048576: true; the input reads as it did. -/
def headCutsUptoRow : OpenClaim := { program := "ytoifkfhbinfplaa", sum := "a149a0136cd4b1571faccbcaaba1d78301aa8be383a5e0708df59ab7712ef26b", func := "timeball/timeballlaw07.HeadCuts", spec := "headCuts", inPlace := ["internal/abi.NoEscape", "internal/bytealg.MakeNoZero"], apart := false, narrowed := true }
def HeadCutsUptoSaid : Prop := headCutsUptoRow.holds Try.pinned (OpenSpec.upto headCutsSpec)

/-- 'timeballlaw07.HeadFinds', WHERE WHAT IT READS IS OF BULK AT MOST 1048576: true; the input reads as it did. -/
def headFindsUptoRow : OpenClaim := { program := "ytoifkfhbinfplaa", sum := "a149a0136cd4b1571faccbcaaba1d78301aa8be383a5e0708df59ab7712ef26b", func := "timeball/timeballlaw07.HeadFinds", spec := "headFinds", inPlace := ["internal/abi.NoEscape", "internal/bytealg.MakeNoZero"], apart := false, narrowed := true }
def HeadFindsUptoSaid : Prop := headFindsUptoRow.holds Try.pinned (OpenSpec.upto headFindsSpec)

/-- 'timeballlaw07.HeadJoins', WHERE WHAT IT READS IS OF BULK AT MOST 1048576: true; the input reads as it did. -/
def headJoinsUptoRow : OpenClaim := { program := "ytoifkfhbinfplaa", sum := "a149a0136cd4b1571faccbcaaba1d78301aa8be383a5e0708df59ab7712ef26b", func := "timeball/timeballlaw07.HeadJoins", spec := "headJoins", inPlace := ["internal/abi.NoEscape", "internal/bytealg.MakeNoZero"], apart := false, narrowed := true }
def HeadJoinsUptoSaid : Prop := headJoinsUptoRow.holds Try.pinned (OpenSpec.upto headJoinsSpec)

/-- 'timeballlaw07.HeadStamps', WHERE WHAT IT READS IS OF BULK AT MOST 1048576: true; the input reads as it did. -/
def headStampsUptoRow : OpenClaim := { program := "ytoifkfhbinfplaa", sum := "a149a0136cd4b1571faccbcaaba1d78301aa8be383a5e0708df59ab7712ef26b", func := "timeball/timeballlaw07.HeadStamps", spec := "headStamps", inPlace := ["internal/abi.NoEscape", "internal/bytealg.MakeNoZero"], apart := false, narrowed := true }
def HeadStampsUptoSaid : Prop := headStampsUptoRow.holds Try.pinned (OpenSpec.upto headStampsSpec)

end Rows
end Go.Proofs.Ytoifkfhbinfplaa
