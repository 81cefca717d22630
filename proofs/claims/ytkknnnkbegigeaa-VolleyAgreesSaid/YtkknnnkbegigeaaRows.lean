/-
  No cell of these rows narrows 'for every input' (looked for: loops, veiled, ifaces, maps, wideKeys, modest, calm, conditions, laid).
  DERIVED. THE GIVEN ROWS OF THIS SEAT. 8 by the template 'for every input the law returns true; each argument reads behind the call as it read before'; 0 by the template 'total and deterministic' (their statements: YtkknnnkbegigeaaTotals.lean).
  GIVEN WITH THE SEED: the statements are not yours to turn. If you find one false, say at which input.
  Laid BY PROGRAM, IN A SANDBOX (cutbox-rows.mjs): the forced cells as the released guide's own fill.sh prints them over the translation 173d2d314574eac9… (all of the seat's roots in one cut). By AI agents, Wed Nov 11 2026. No macro, syntax, notation, axiom, sorry.
-/
import Derived.Test.YtkknnnkbegigeaaChecked
import GoSem.Claim
import GoSem.ClaimJoined
import GoSem.ClaimMapViews
import Derived.JoinedTies
import Derived.KernelRfl
namespace Go.Proofs.Ytkknnnkbegigeaa
/- THE CELL 'sum', in the pinned program and in every row, IS THE sha256 OF THE DUMP (.gsa) THAT YtkknnnkbegigeaaProg.lean LOADS. Nothing in Lean hashes anything: it is a label: what it is worth is what the hold of that sum in a sandbox is worth. -/
noncomputable def Try.pinned : Pinned := { name := "ytkknnnkbegigeaa", sum := "173d2d314574eac9d2bbdf9691d111b73fde1896f0a965964c269e06547d5b81", checked := Try.checked }
namespace Rows
def none {H : Type} : Left H := { results := [], args := [] }

/-- 'timeballlaw14.VolleyRounds': WHATEVER THE INPUT: true; the input reads as it did. -/
def volleyRoundsSpec : ChangeSpec := { name := "volleyRounds", fn := fun _ => fun
  | [d1, d2, d3, d4, d5, d6, d7] => { results := [.lit (.bool true)], args := [d1, d2, d3, d4, d5, d6, d7] }
  | _ => none }
def volleyRoundsRow : OpenClaim := { program := "ytkknnnkbegigeaa", sum := "173d2d314574eac9d2bbdf9691d111b73fde1896f0a965964c269e06547d5b81", func := "timeball/timeballlaw14.VolleyRounds", spec := "volleyRounds", inPlace := ["internal/abi.NoEscape", "internal/bytealg.MakeNoZero"], unfollowed := true, recurses := true, apart := false }
def VolleyRoundsSaid : Prop := volleyRoundsRow.holds Try.pinned (OpenSpec.ofChange volleyRoundsSpec)

/-- ITS FALSE NEIGHBOUR: 'it returns false'. Refute it at one input. -/
def volleyRoundsWrong : ChangeSpec := { name := "volleyRounds", fn := fun _ => fun
  | [d1, d2, d3, d4, d5, d6, d7] => { results := [.lit (.bool false)], args := [d1, d2, d3, d4, d5, d6, d7] }
  | _ => none }
def VolleyRoundsWrongFalsely : Prop := volleyRoundsRow.holds Try.pinned (OpenSpec.ofChange volleyRoundsWrong)

/-- 'timeballlaw14.VolleyDoes': WHATEVER THE INPUT: true; the input reads as it did. -/
def volleyDoesSpec : ChangeSpec := { name := "volleyDoes", fn := fun _ => fun
  | [d1, d2, d3] => { results := [.lit (.bool true)], args := [d1, d2, d3] }
  | _ => none }
def volleyDoesRow : OpenClaim := { program := "ytkknnnkbegigeaa", sum := "173d2d314574eac9d2bbdf9691d111b73fde1896f0a965964c269e06547d5b81", func := "timeball/timeballlaw14.VolleyDoes", spec := "volleyDoes", inPlace := ["internal/abi.NoEscape", "internal/bytealg.MakeNoZero"], unfollowed := true, recurses := true, apart := false }
def VolleyDoesSaid : Prop := volleyDoesRow.holds Try.pinned (OpenSpec.ofChange volleyDoesSpec)

/-- ITS FALSE NEIGHBOUR: 'it returns false'. Refute it at one input. -/
def volleyDoesWrong : ChangeSpec := { name := "volleyDoes", fn := fun _ => fun
  | [d1, d2, d3] => { results := [.lit (.bool false)], args := [d1, d2, d3] }
  | _ => none }
def VolleyDoesWrongFalsely : Prop := volleyDoesRow.holds Try.pinned (OpenSpec.ofChange volleyDoesWrong)

/-- 'timeballlaw14.VolleyOnce': WHATEVER THE INPUT: true; the input reads as it did. -/
def volleyOnceSpec : ChangeSpec := { name := "volleyOnce", fn := fun _ => fun
  | [d1, d2, d3, d4, d5, d6] => { results := [.lit (.bool true)], args := [d1, d2, d3, d4, d5, d6] }
  | _ => none }
def volleyOnceRow : OpenClaim := { program := "ytkknnnkbegigeaa", sum := "173d2d314574eac9d2bbdf9691d111b73fde1896f0a965964c269e06547d5b81", func := "timeball/timeballlaw14.VolleyOnce", spec := "volleyOnce", inPlace := ["internal/abi.NoEscape", "internal/bytealg.MakeNoZero"], unfollowed := true, recurses := true, apart := false }
def VolleyOnceSaid : Prop := volleyOnceRow.holds Try.pinned (OpenSpec.ofChange volleyOnceSpec)

/-- ITS FALSE NEIGHBOUR: 'it returns false'. Refute it at one input. -/
def volleyOnceWrong : ChangeSpec := { name := "volleyOnce", fn := fun _ => fun
  | [d1, d2, d3, d4, d5, d6] => { results := [.lit (.bool false)], args := [d1, d2, d3, d4, d5, d6] }
  | _ => none }
def VolleyOnceWrongFalsely : Prop := volleyOnceRow.holds Try.pinned (OpenSpec.ofChange volleyOnceWrong)

/-- 'timeballlaw14.VolleySame': WHATEVER THE INPUT: true; the input reads as it did. -/
def volleySameSpec : ChangeSpec := { name := "volleySame", fn := fun _ => fun
  | [d1, d2, d3, d4, d5, d6] => { results := [.lit (.bool true)], args := [d1, d2, d3, d4, d5, d6] }
  | _ => none }
def volleySameRow : OpenClaim := { program := "ytkknnnkbegigeaa", sum := "173d2d314574eac9d2bbdf9691d111b73fde1896f0a965964c269e06547d5b81", func := "timeball/timeballlaw14.VolleySame", spec := "volleySame", inPlace := ["internal/abi.NoEscape", "internal/bytealg.MakeNoZero"], unfollowed := true, recurses := true, apart := false }
def VolleySameSaid : Prop := volleySameRow.holds Try.pinned (OpenSpec.ofChange volleySameSpec)

/-- ITS FALSE NEIGHBOUR: 'it returns false'. Refute it at one input. -/
def volleySameWrong : ChangeSpec := { name := "volleySame", fn := fun _ => fun
  | [d1, d2, d3, d4, d5, d6] => { results := [.lit (.bool false)], args := [d1, d2, d3, d4, d5, d6] }
  | _ => none }
def VolleySameWrongFalsely : Prop := volleySameRow.holds Try.pinned (OpenSpec.ofChange volleySameWrong)

/-- 'timeballlaw14.VolleyBytes': WHATEVER THE INPUT: true; the input reads as it did. -/
def volleyBytesSpec : ChangeSpec := { name := "volleyBytes", fn := fun _ => fun
  | [d1, d2, d3, d4] => { results := [.lit (.bool true)], args := [d1, d2, d3, d4] }
  | _ => none }
def volleyBytesRow : OpenClaim := { program := "ytkknnnkbegigeaa", sum := "173d2d314574eac9d2bbdf9691d111b73fde1896f0a965964c269e06547d5b81", func := "timeball/timeballlaw14.VolleyBytes", spec := "volleyBytes", inPlace := ["internal/abi.NoEscape", "internal/bytealg.MakeNoZero"], unfollowed := true, recurses := true, apart := false }
def VolleyBytesSaid : Prop := volleyBytesRow.holds Try.pinned (OpenSpec.ofChange volleyBytesSpec)

/-- ITS FALSE NEIGHBOUR: 'it returns false'. Refute it at one input. -/
def volleyBytesWrong : ChangeSpec := { name := "volleyBytes", fn := fun _ => fun
  | [d1, d2, d3, d4] => { results := [.lit (.bool false)], args := [d1, d2, d3, d4] }
  | _ => none }
def VolleyBytesWrongFalsely : Prop := volleyBytesRow.holds Try.pinned (OpenSpec.ofChange volleyBytesWrong)

/-- 'timeballlaw14.VolleyWide': WHATEVER THE INPUT: true; the input reads as it did. -/
def volleyWideSpec : ChangeSpec := { name := "volleyWide", fn := fun _ => fun
  | [d1, d2, d3, d4] => { results := [.lit (.bool true)], args := [d1, d2, d3, d4] }
  | _ => none }
def volleyWideRow : OpenClaim := { program := "ytkknnnkbegigeaa", sum := "173d2d314574eac9d2bbdf9691d111b73fde1896f0a965964c269e06547d5b81", func := "timeball/timeballlaw14.VolleyWide", spec := "volleyWide", inPlace := ["internal/abi.NoEscape", "internal/bytealg.MakeNoZero"], unfollowed := true, recurses := true, apart := false }
def VolleyWideSaid : Prop := volleyWideRow.holds Try.pinned (OpenSpec.ofChange volleyWideSpec)

/-- ITS FALSE NEIGHBOUR: 'it returns false'. Refute it at one input. -/
def volleyWideWrong : ChangeSpec := { name := "volleyWide", fn := fun _ => fun
  | [d1, d2, d3, d4] => { results := [.lit (.bool false)], args := [d1, d2, d3, d4] }
  | _ => none }
def VolleyWideWrongFalsely : Prop := volleyWideRow.holds Try.pinned (OpenSpec.ofChange volleyWideWrong)

/-- 'timeballlaw14.VolleyAgrees': WHATEVER THE INPUT: true; the input reads as it did. -/
def volleyAgreesSpec : ChangeSpec := { name := "volleyAgrees", fn := fun _ => fun
  | [d1, d2, d3] => { results := [.lit (.bool true)], args := [d1, d2, d3] }
  | _ => none }
def volleyAgreesRow : OpenClaim := { program := "ytkknnnkbegigeaa", sum := "173d2d314574eac9d2bbdf9691d111b73fde1896f0a965964c269e06547d5b81", func := "timeball/timeballlaw14.VolleyAgrees", spec := "volleyAgrees", inPlace := ["internal/abi.NoEscape", "internal/bytealg.MakeNoZero"], unfollowed := true, recurses := true, apart := false }
def VolleyAgreesSaid : Prop := volleyAgreesRow.holds Try.pinned (OpenSpec.ofChange volleyAgreesSpec)

/-- ITS FALSE NEIGHBOUR: 'it returns false'. Refute it at one input. -/
def volleyAgreesWrong : ChangeSpec := { name := "volleyAgrees", fn := fun _ => fun
  | [d1, d2, d3] => { results := [.lit (.bool false)], args := [d1, d2, d3] }
  | _ => none }
def VolleyAgreesWrongFalsely : Prop := volleyAgreesRow.holds Try.pinned (OpenSpec.ofChange volleyAgreesWrong)

/-- 'timeballlaw14.VolleyBound': WHATEVER THE INPUT: true; the input reads as it did. -/
def volleyBoundSpec : ChangeSpec := { name := "volleyBound", fn := fun _ => fun
  | [d1, d2, d3, d4, d5, d6, d7] => { results := [.lit (.bool true)], args := [d1, d2, d3, d4, d5, d6, d7] }
  | _ => none }
def volleyBoundRow : OpenClaim := { program := "ytkknnnkbegigeaa", sum := "173d2d314574eac9d2bbdf9691d111b73fde1896f0a965964c269e06547d5b81", func := "timeball/timeballlaw14.VolleyBound", spec := "volleyBound", inPlace := ["internal/abi.NoEscape", "internal/bytealg.MakeNoZero"], unfollowed := true, recurses := true, apart := false }
def VolleyBoundSaid : Prop := volleyBoundRow.holds Try.pinned (OpenSpec.ofChange volleyBoundSpec)

/-- ITS FALSE NEIGHBOUR: 'it returns false'. Refute it at one input. -/
def volleyBoundWrong : ChangeSpec := { name := "volleyBound", fn := fun _ => fun
  | [d1, d2, d3, d4, d5, d6, d7] => { results := [.lit (.bool false)], args := [d1, d2, d3, d4, d5, d6, d7] }
  | _ => none }
def VolleyBoundWrongFalsely : Prop := volleyBoundRow.holds Try.pinned (OpenSpec.ofChange volleyBoundWrong)

/- THE SECOND FORM. 'bulk': how many values and letters a reading holds, each counted each time it is reached (what is shared counts as often as it is met; a slice's spare places count too). A statement '..UptoSaid' is the law's where the arguments, and the package variables that the reading takes, are together of bulk at most 1048576: NARROWER than '..Said'. Prove '..Said' where nothing that the law and all that it calls make is longer than what came in: it says more and counts as full. Else prove '..UptoSaid'. A law counts once. -/
mutual
def uptoBulk {H : Type} : DataW H → Nat
  | .lit (.string bytes) => bytes.length + 1
  | .lit _ => 1
  | .nil => 1
  | .ptr d => uptoBulk d + 1
  | .slice elems spare => uptoBulkAll elems + uptoBulkAll spare + 1
  | .agg parts => uptoBulkAll parts + 1
  | .iface _ d => uptoBulk d + 1
  | .map entries => uptoBulkEntries entries + 1
  | .held _ => 1
def uptoBulkAll {H : Type} : List (DataW H) → Nat
  | [] => 0
  | d :: r => uptoBulk d + uptoBulkAll r
def uptoBulkEntries {H : Type} : List (Lit × DataW H) → Nat
  | [] => 0
  | x :: r => uptoBulkEntry x + uptoBulkEntries r
def uptoBulkEntry {H : Type} : Lit × DataW H → Nat
  | (.string bytes, d) => bytes.length + uptoBulk d + 1
  | (_, d) => uptoBulk d + 1
 end
def uptoSmall : (H : Type) → List (DataW H) → Bool := fun _ ds => decide (uptoBulkAll ds ≤ 1048576)
def OpenSpec.upto (s : _root_.Go.ChangeSpec) : _root_.Go.OpenSpec := { _root_.Go.OpenSpec.ofChange s with cond := some uptoSmall }

/-- 'timeballlaw14.VolleyRounds', WHERE WHAT IT READS IS OF BULK AT MOST 1048576: true; the input reads as it did. -/
def volleyRoundsUptoRow : OpenClaim := { program := "ytkknnnkbegigeaa", sum := "173d2d314574eac9d2bbdf9691d111b73fde1896f0a965964c269e06547d5b81", func := "timeball/timeballlaw14.VolleyRounds", spec := "volleyRounds", inPlace := ["internal/abi.NoEscape", "internal/bytealg.MakeNoZero"], unfollowed := true, recurses := true, apart := false, narrowed := true }
def VolleyRoundsUptoSaid : Prop := volleyRoundsUptoRow.holds Try.pinned (OpenSpec.upto volleyRoundsSpec)

/-- 'timeballlaw14.VolleyDoes', WHERE WHAT IT READS IS OF BULK AT MOST 1048576: true; the input reads as it did. -/
def volleyDoesUptoRow : OpenClaim := { program := "ytkknnnkbegigeaa", sum := "173d2d314574eac9d2bbdf9691d111b73fde1896f0a965964c269e06547d5b81", func := "timeball/timeballlaw14.VolleyDoes", spec := "volleyDoes", inPlace := ["internal/abi.NoEscape", "internal/bytealg.MakeNoZero"], unfollowed := true, recurses := true, apart := false, narrowed := true }
def VolleyDoesUptoSaid : Prop := volleyDoesUptoRow.holds Try.pinned (OpenSpec.upto volleyDoesSpec)

/-- 'timeballlaw14.VolleyOnce', WHERE WHAT IT READS IS OF BULK AT MOST 1048576: true; the input reads as it did. -/
def volleyOnceUptoRow : OpenClaim := { program := "ytkknnnkbegigeaa", sum := "173d2d314574eac9d2bbdf9691d111b73fde1896f0a965964c269e06547d5b81", func := "timeball/timeballlaw14.VolleyOnce", spec := "volleyOnce", inPlace := ["internal/abi.NoEscape", "internal/bytealg.MakeNoZero"], unfollowed := true, recurses := true, apart := false, narrowed := true }
def VolleyOnceUptoSaid : Prop := volleyOnceUptoRow.holds Try.pinned (OpenSpec.upto volleyOnceSpec)

/-- 'timeballlaw14.VolleySame', WHERE WHAT IT READS IS OF BULK AT MOST 1048576: true; the input reads as it did. -/
def volleySameUptoRow : OpenClaim := { program := "ytkknnnkbegigeaa", sum := "173d2d314574eac9d2bbdf9691d111b73fde1896f0a965964c269e06547d5b81", func := "timeball/timeballlaw14.VolleySame", spec := "volleySame", inPlace := ["internal/abi.NoEscape", "internal/bytealg.MakeNoZero"], unfollowed := true, recurses := true, apart := false, narrowed := true }
def VolleySameUptoSaid : Prop := volleySameUptoRow.holds Try.pinned (OpenSpec.upto volleySameSpec)

/-- 'timeballlaw14.VolleyBytes', WHERE WHAT IT READS IS OF BULK AT MOST 1048576: true; the input reads as it did. -/
def volleyBytesUptoRow : OpenClaim := { program := "ytkknnnkbegigeaa", sum := "173d2d314574eac9d2bbdf9691d111b73fde1896f0a965964c269e06547d5b81", func := "timeball/timeballlaw14.VolleyBytes", spec := "volleyBytes", inPlace := ["internal/abi.NoEscape", "internal/bytealg.MakeNoZero"], unfollowed := true, recurses := true, apart := false, narrowed := true }
def VolleyBytesUptoSaid : Prop := volleyBytesUptoRow.holds Try.pinned (OpenSpec.upto volleyBytesSpec)

/-- 'timeballlaw14.VolleyWide', WHERE WHAT IT READS IS OF BULK AT MOST 1048576: true; the input reads as it did. -/
def volleyWideUptoRow : OpenClaim := { program := "ytkknnnkbegigeaa", sum := "173d2d314574eac9d2bbdf9691d111b73fde1896f0a965964c269e06547d5b81", func := "timeball/timeballlaw14.VolleyWide", spec := "volleyWide", inPlace := ["internal/abi.NoEscape", "internal/bytealg.MakeNoZero"], unfollowed := true, recurses := true, apart := false, narrowed := true }
def VolleyWideUptoSaid : Prop := volleyWideUptoRow.holds Try.pinned (OpenSpec.upto volleyWideSpec)

/-- 'timeballlaw14.VolleyAgrees', WHERE WHAT IT READS IS OF BULK AT MOST 1048576: true; the input reads as it did. -/
def volleyAgreesUptoRow : OpenClaim := { program := "ytkknnnkbegigeaa", sum := "173d2d314574eac9d2bbdf9691d111b73fde1896f0a965964c269e06547d5b81", func := "timeball/timeballlaw14.VolleyAgrees", spec := "volleyAgrees", inPlace := ["internal/abi.NoEscape", "internal/bytealg.MakeNoZero"], unfollowed := true, recurses := true, apart := false, narrowed := true }
def VolleyAgreesUptoSaid : Prop := volleyAgreesUptoRow.holds Try.pinned (OpenSpec.upto volleyAgreesSpec)

/-- 'timeballlaw14.VolleyBound', WHERE WHAT IT READS IS OF BULK AT MOST 1048576: true; the input reads as it did. -/
def volleyBoundUptoRow : OpenClaim := { program := "ytkknnnkbegigeaa", sum := "173d2d314574eac9d2bbdf9691d111b73fde1896f0a965964c269e06547d5b81", func := "timeball/timeballlaw14.VolleyBound", spec := "volleyBound", inPlace := ["internal/abi.NoEscape", "internal/bytealg.MakeNoZero"], unfollowed := true, recurses := true, apart := false, narrowed := true }
def VolleyBoundUptoSaid : Prop := volleyBoundUptoRow.holds Try.pinned (OpenSpec.upto volleyBoundSpec)

end Rows
end Go.Proofs.Ytkknnnkbegigeaa
