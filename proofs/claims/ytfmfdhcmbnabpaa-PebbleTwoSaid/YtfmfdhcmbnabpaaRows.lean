/-
  No cell of these rows narrows 'for every input' (looked for: loops, veiled, ifaces, maps, wideKeys, modest, calm, conditions, laid).
  DERIVED. THE GIVEN ROWS OF THIS SEAT. 12 by the template 'for every input the law returns true; each argument reads behind the call as it read before'; 0 by the template 'total and deterministic' (their statements: YtfmfdhcmbnabpaaTotals.lean).
  GIVEN WITH THE SEED: the statements are not yours to turn. If you find one false, say at which input.
  Laid BY PROGRAM, IN A SANDBOX (cutbox-rows.mjs): the forced cells as the released guide's own fill.sh prints them over the translation 0242f82d2fc71492… (all of the seat's roots in one cut). By AI agents, Wed Nov 11 2026. No macro, syntax, notation, axiom, sorry.
-/
import Derived.Test.YtfmfdhcmbnabpaaChecked
import GoSem.Claim
import GoSem.ClaimJoined
import GoSem.ClaimMapViews
import Derived.JoinedTies
import Derived.KernelRfl
namespace Go.Proofs.Ytfmfdhcmbnabpaa
/- THE CELL 'sum', in the pinned program and in every row, IS THE sha256 OF THE DUMP (.gsa) THAT YtfmfdhcmbnabpaaProg.lean LOADS. Nothing in Lean hashes anything: it is a label: what it is worth is what the hold of that sum in a sandbox is worth. -/
noncomputable def Try.pinned : Pinned := { name := "ytfmfdhcmbnabpaa", sum := "0242f82d2fc71492e60f61a682e02d11b6a0eaacf17eb8ef2dbea98c623bc9d9", checked := Try.checked }
namespace Rows
def none {H : Type} : Left H := { results := [], args := [] }

/-- 'timeballlaw08.ChainTells': WHATEVER THE INPUT: true; the input reads as it did. -/
def chainTellsSpec : ChangeSpec := { name := "chainTells", fn := fun _ => fun
  | [d1, d2, d3] => { results := [.lit (.bool true)], args := [d1, d2, d3] }
  | _ => none }
def chainTellsRow : OpenClaim := { program := "ytfmfdhcmbnabpaa", sum := "0242f82d2fc71492e60f61a682e02d11b6a0eaacf17eb8ef2dbea98c623bc9d9", func := "timeball/timeballlaw08.ChainTells", spec := "chainTells", inPlace := ["internal/abi.NoEscape", "internal/bytealg.MakeNoZero"], unfollowed := true, recurses := true, apart := false }
def ChainTellsSaid : Prop := chainTellsRow.holds Try.pinned (OpenSpec.ofChange chainTellsSpec)

/-- ITS FALSE NEIGHBOUR: 'it returns false'. Refute it at one input. -/
def chainTellsWrong : ChangeSpec := { name := "chainTells", fn := fun _ => fun
  | [d1, d2, d3] => { results := [.lit (.bool false)], args := [d1, d2, d3] }
  | _ => none }
def ChainTellsWrongFalsely : Prop := chainTellsRow.holds Try.pinned (OpenSpec.ofChange chainTellsWrong)

/-- 'timeballlaw08.ChainChecks': WHATEVER THE INPUT: true; the input reads as it did. -/
def chainChecksSpec : ChangeSpec := { name := "chainChecks", fn := fun _ => fun
  | [d1, d2, d3, d4, d5, d6] => { results := [.lit (.bool true)], args := [d1, d2, d3, d4, d5, d6] }
  | _ => none }
def chainChecksRow : OpenClaim := { program := "ytfmfdhcmbnabpaa", sum := "0242f82d2fc71492e60f61a682e02d11b6a0eaacf17eb8ef2dbea98c623bc9d9", func := "timeball/timeballlaw08.ChainChecks", spec := "chainChecks", inPlace := ["internal/abi.NoEscape", "internal/bytealg.MakeNoZero"], unfollowed := true, recurses := true, apart := false }
def ChainChecksSaid : Prop := chainChecksRow.holds Try.pinned (OpenSpec.ofChange chainChecksSpec)

/-- ITS FALSE NEIGHBOUR: 'it returns false'. Refute it at one input. -/
def chainChecksWrong : ChangeSpec := { name := "chainChecks", fn := fun _ => fun
  | [d1, d2, d3, d4, d5, d6] => { results := [.lit (.bool false)], args := [d1, d2, d3, d4, d5, d6] }
  | _ => none }
def ChainChecksWrongFalsely : Prop := chainChecksRow.holds Try.pinned (OpenSpec.ofChange chainChecksWrong)

/-- 'timeballlaw08.ChainLearns': WHATEVER THE INPUT: true; the input reads as it did. -/
def chainLearnsSpec : ChangeSpec := { name := "chainLearns", fn := fun _ => fun
  | [d1, d2, d3] => { results := [.lit (.bool true)], args := [d1, d2, d3] }
  | _ => none }
def chainLearnsRow : OpenClaim := { program := "ytfmfdhcmbnabpaa", sum := "0242f82d2fc71492e60f61a682e02d11b6a0eaacf17eb8ef2dbea98c623bc9d9", func := "timeball/timeballlaw08.ChainLearns", spec := "chainLearns", inPlace := ["internal/abi.NoEscape", "internal/bytealg.MakeNoZero"], unfollowed := true, recurses := true, apart := false }
def ChainLearnsSaid : Prop := chainLearnsRow.holds Try.pinned (OpenSpec.ofChange chainLearnsSpec)

/-- ITS FALSE NEIGHBOUR: 'it returns false'. Refute it at one input. -/
def chainLearnsWrong : ChangeSpec := { name := "chainLearns", fn := fun _ => fun
  | [d1, d2, d3] => { results := [.lit (.bool false)], args := [d1, d2, d3] }
  | _ => none }
def ChainLearnsWrongFalsely : Prop := chainLearnsRow.holds Try.pinned (OpenSpec.ofChange chainLearnsWrong)

/-- 'timeballlaw08.ChainFar': WHATEVER THE INPUT: true; the input reads as it did. -/
def chainFarSpec : ChangeSpec := { name := "chainFar", fn := fun _ => fun
  | [d1, d2, d3, d4, d5] => { results := [.lit (.bool true)], args := [d1, d2, d3, d4, d5] }
  | _ => none }
def chainFarRow : OpenClaim := { program := "ytfmfdhcmbnabpaa", sum := "0242f82d2fc71492e60f61a682e02d11b6a0eaacf17eb8ef2dbea98c623bc9d9", func := "timeball/timeballlaw08.ChainFar", spec := "chainFar", inPlace := ["internal/abi.NoEscape", "internal/bytealg.MakeNoZero"], unfollowed := true, recurses := true, apart := false }
def ChainFarSaid : Prop := chainFarRow.holds Try.pinned (OpenSpec.ofChange chainFarSpec)

/-- ITS FALSE NEIGHBOUR: 'it returns false'. Refute it at one input. -/
def chainFarWrong : ChangeSpec := { name := "chainFar", fn := fun _ => fun
  | [d1, d2, d3, d4, d5] => { results := [.lit (.bool false)], args := [d1, d2, d3, d4, d5] }
  | _ => none }
def ChainFarWrongFalsely : Prop := chainFarRow.holds Try.pinned (OpenSpec.ofChange chainFarWrong)

/-- 'timeballlaw08.ChainJoins': WHATEVER THE INPUT: true; the input reads as it did. -/
def chainJoinsSpec : ChangeSpec := { name := "chainJoins", fn := fun _ => fun
  | [d1, d2, d3] => { results := [.lit (.bool true)], args := [d1, d2, d3] }
  | _ => none }
def chainJoinsRow : OpenClaim := { program := "ytfmfdhcmbnabpaa", sum := "0242f82d2fc71492e60f61a682e02d11b6a0eaacf17eb8ef2dbea98c623bc9d9", func := "timeball/timeballlaw08.ChainJoins", spec := "chainJoins", inPlace := ["internal/abi.NoEscape", "internal/bytealg.MakeNoZero"], unfollowed := true, recurses := true, apart := false }
def ChainJoinsSaid : Prop := chainJoinsRow.holds Try.pinned (OpenSpec.ofChange chainJoinsSpec)

/-- ITS FALSE NEIGHBOUR: 'it returns false'. Refute it at one input. -/
def chainJoinsWrong : ChangeSpec := { name := "chainJoins", fn := fun _ => fun
  | [d1, d2, d3] => { results := [.lit (.bool false)], args := [d1, d2, d3] }
  | _ => none }
def ChainJoinsWrongFalsely : Prop := chainJoinsRow.holds Try.pinned (OpenSpec.ofChange chainJoinsWrong)

/-- 'timeballlaw08.ChainSteps': WHATEVER THE INPUT: true; the input reads as it did. -/
def chainStepsSpec : ChangeSpec := { name := "chainSteps", fn := fun _ => fun
  | [d1, d2, d3] => { results := [.lit (.bool true)], args := [d1, d2, d3] }
  | _ => none }
def chainStepsRow : OpenClaim := { program := "ytfmfdhcmbnabpaa", sum := "0242f82d2fc71492e60f61a682e02d11b6a0eaacf17eb8ef2dbea98c623bc9d9", func := "timeball/timeballlaw08.ChainSteps", spec := "chainSteps", inPlace := ["internal/abi.NoEscape", "internal/bytealg.MakeNoZero"], unfollowed := true, recurses := true, apart := false }
def ChainStepsSaid : Prop := chainStepsRow.holds Try.pinned (OpenSpec.ofChange chainStepsSpec)

/-- ITS FALSE NEIGHBOUR: 'it returns false'. Refute it at one input. -/
def chainStepsWrong : ChangeSpec := { name := "chainSteps", fn := fun _ => fun
  | [d1, d2, d3] => { results := [.lit (.bool false)], args := [d1, d2, d3] }
  | _ => none }
def ChainStepsWrongFalsely : Prop := chainStepsRow.holds Try.pinned (OpenSpec.ofChange chainStepsWrong)

/-- 'timeballlaw09.PebbleDoes': WHATEVER THE INPUT: true; the input reads as it did. -/
def pebbleDoesSpec : ChangeSpec := { name := "pebbleDoes", fn := fun _ => fun
  | [d1, d2, d3] => { results := [.lit (.bool true)], args := [d1, d2, d3] }
  | _ => none }
def pebbleDoesRow : OpenClaim := { program := "ytfmfdhcmbnabpaa", sum := "0242f82d2fc71492e60f61a682e02d11b6a0eaacf17eb8ef2dbea98c623bc9d9", func := "timeball/timeballlaw09.PebbleDoes", spec := "pebbleDoes", inPlace := ["internal/abi.NoEscape", "internal/bytealg.MakeNoZero"], unfollowed := true, recurses := true, apart := false }
def PebbleDoesSaid : Prop := pebbleDoesRow.holds Try.pinned (OpenSpec.ofChange pebbleDoesSpec)

/-- ITS FALSE NEIGHBOUR: 'it returns false'. Refute it at one input. -/
def pebbleDoesWrong : ChangeSpec := { name := "pebbleDoes", fn := fun _ => fun
  | [d1, d2, d3] => { results := [.lit (.bool false)], args := [d1, d2, d3] }
  | _ => none }
def PebbleDoesWrongFalsely : Prop := pebbleDoesRow.holds Try.pinned (OpenSpec.ofChange pebbleDoesWrong)

/-- 'timeballlaw09.PebbleAll': WHATEVER THE INPUT: true; the input reads as it did. -/
def pebbleAllSpec : ChangeSpec := { name := "pebbleAll", fn := fun _ => fun
  | [d1, d2] => { results := [.lit (.bool true)], args := [d1, d2] }
  | _ => none }
def pebbleAllRow : OpenClaim := { program := "ytfmfdhcmbnabpaa", sum := "0242f82d2fc71492e60f61a682e02d11b6a0eaacf17eb8ef2dbea98c623bc9d9", func := "timeball/timeballlaw09.PebbleAll", spec := "pebbleAll", inPlace := ["internal/abi.NoEscape", "internal/bytealg.MakeNoZero"], unfollowed := true, recurses := true, apart := false }
def PebbleAllSaid : Prop := pebbleAllRow.holds Try.pinned (OpenSpec.ofChange pebbleAllSpec)

/-- ITS FALSE NEIGHBOUR: 'it returns false'. Refute it at one input. -/
def pebbleAllWrong : ChangeSpec := { name := "pebbleAll", fn := fun _ => fun
  | [d1, d2] => { results := [.lit (.bool false)], args := [d1, d2] }
  | _ => none }
def PebbleAllWrongFalsely : Prop := pebbleAllRow.holds Try.pinned (OpenSpec.ofChange pebbleAllWrong)

/-- 'timeballlaw09.PebbleFew': WHATEVER THE INPUT: true; the input reads as it did. -/
def pebbleFewSpec : ChangeSpec := { name := "pebbleFew", fn := fun _ => fun
  | [d1, d2, d3] => { results := [.lit (.bool true)], args := [d1, d2, d3] }
  | _ => none }
def pebbleFewRow : OpenClaim := { program := "ytfmfdhcmbnabpaa", sum := "0242f82d2fc71492e60f61a682e02d11b6a0eaacf17eb8ef2dbea98c623bc9d9", func := "timeball/timeballlaw09.PebbleFew", spec := "pebbleFew", inPlace := ["internal/abi.NoEscape", "internal/bytealg.MakeNoZero"], unfollowed := true, recurses := true, apart := false }
def PebbleFewSaid : Prop := pebbleFewRow.holds Try.pinned (OpenSpec.ofChange pebbleFewSpec)

/-- ITS FALSE NEIGHBOUR: 'it returns false'. Refute it at one input. -/
def pebbleFewWrong : ChangeSpec := { name := "pebbleFew", fn := fun _ => fun
  | [d1, d2, d3] => { results := [.lit (.bool false)], args := [d1, d2, d3] }
  | _ => none }
def PebbleFewWrongFalsely : Prop := pebbleFewRow.holds Try.pinned (OpenSpec.ofChange pebbleFewWrong)

/-- 'timeballlaw09.PebbleSkips': WHATEVER THE INPUT: true; the input reads as it did. -/
def pebbleSkipsSpec : ChangeSpec := { name := "pebbleSkips", fn := fun _ => fun
  | [d1, d2, d3, d4] => { results := [.lit (.bool true)], args := [d1, d2, d3, d4] }
  | _ => none }
def pebbleSkipsRow : OpenClaim := { program := "ytfmfdhcmbnabpaa", sum := "0242f82d2fc71492e60f61a682e02d11b6a0eaacf17eb8ef2dbea98c623bc9d9", func := "timeball/timeballlaw09.PebbleSkips", spec := "pebbleSkips", inPlace := ["internal/abi.NoEscape", "internal/bytealg.MakeNoZero"], unfollowed := true, recurses := true, apart := false }
def PebbleSkipsSaid : Prop := pebbleSkipsRow.holds Try.pinned (OpenSpec.ofChange pebbleSkipsSpec)

/-- ITS FALSE NEIGHBOUR: 'it returns false'. Refute it at one input. -/
def pebbleSkipsWrong : ChangeSpec := { name := "pebbleSkips", fn := fun _ => fun
  | [d1, d2, d3, d4] => { results := [.lit (.bool false)], args := [d1, d2, d3, d4] }
  | _ => none }
def PebbleSkipsWrongFalsely : Prop := pebbleSkipsRow.holds Try.pinned (OpenSpec.ofChange pebbleSkipsWrong)

/-- 'timeballlaw09.PebbleTwo': WHATEVER THE INPUT: true; the input reads as it did. -/
def pebbleTwoSpec : ChangeSpec := { name := "pebbleTwo", fn := fun _ => fun
  | [d1, d2, d3] => { results := [.lit (.bool true)], args := [d1, d2, d3] }
  | _ => none }
def pebbleTwoRow : OpenClaim := { program := "ytfmfdhcmbnabpaa", sum := "0242f82d2fc71492e60f61a682e02d11b6a0eaacf17eb8ef2dbea98c623bc9d9", func := "timeball/timeballlaw09.PebbleTwo", spec := "pebbleTwo", inPlace := ["internal/abi.NoEscape", "internal/bytealg.MakeNoZero"], unfollowed := true, recurses := true, apart := false }
def PebbleTwoSaid : Prop := pebbleTwoRow.holds Try.pinned (OpenSpec.ofChange pebbleTwoSpec)

/-- ITS FALSE NEIGHBOUR: 'it returns false'. Refute it at one input. -/
def pebbleTwoWrong : ChangeSpec := { name := "pebbleTwo", fn := fun _ => fun
  | [d1, d2, d3] => { results := [.lit (.bool false)], args := [d1, d2, d3] }
  | _ => none }
def PebbleTwoWrongFalsely : Prop := pebbleTwoRow.holds Try.pinned (OpenSpec.ofChange pebbleTwoWrong)

/-- 'timeballlaw09.PebbleEnds': WHATEVER THE INPUT: true; the input reads as it did. -/
def pebbleEndsSpec : ChangeSpec := { name := "pebbleEnds", fn := fun _ => fun
  | [d1, d2] => { results := [.lit (.bool true)], args := [d1, d2] }
  | _ => none }
def pebbleEndsRow : OpenClaim := { program := "ytfmfdhcmbnabpaa", sum := "0242f82d2fc71492e60f61a682e02d11b6a0eaacf17eb8ef2dbea98c623bc9d9", func := "timeball/timeballlaw09.PebbleEnds", spec := "pebbleEnds", inPlace := ["internal/abi.NoEscape", "internal/bytealg.MakeNoZero"], unfollowed := true, recurses := true, apart := false }
def PebbleEndsSaid : Prop := pebbleEndsRow.holds Try.pinned (OpenSpec.ofChange pebbleEndsSpec)

/-- ITS FALSE NEIGHBOUR: 'it returns false'. Refute it at one input. -/
def pebbleEndsWrong : ChangeSpec := { name := "pebbleEnds", fn := fun _ => fun
  | [d1, d2] => { results := [.lit (.bool false)], args := [d1, d2] }
  | _ => none }
def PebbleEndsWrongFalsely : Prop := pebbleEndsRow.holds Try.pinned (OpenSpec.ofChange pebbleEndsWrong)

/- THE SECOND FORM. 'bulk': how many values and letters a reading holds, each counted each time it is reached (what is shared counts as often as it is met; a slice's spare places count too). A statement '..UptoSaid' is the law's where the arguments, and the package variables that the reading takes, are together of bulk at most 1048576: NARROWER than '..Said'. Prove '..Said' where nothing that the law and all that it calls make is longer than what came in: it says more and counts as full. Else prove '..UptoSaid'. A law counts once. -/
mutual
def uptoBulk {H : Type} : DataW H → Nat
  | .lit (.string bytes) => bytes.length + 1
  | .lit _ => 1
  | .nil => 1
  | .ptr d => uptoBulk d + 1
  | .slice elems spare => uptoBulkAll elems + uptoBulkAll spare + 1
  | .agg parts => uptoBulkAll parts + 1
  | .iface _ d => uptoBulk d + 1
  | .map entries => uptoBulkEntries entries + 1
  | .held _ => 1
def uptoBulkAll {H : Type} : List (DataW H) → Nat
  | [] => 0
  | d :: r => uptoBulk d + uptoBulkAll r
def uptoBulkEntries {H : Type} : List (Lit × DataW H) → Nat
  | [] => 0
  | x :: r => uptoBulkEntry x + uptoBulkEntries r
def uptoBulkEntry {H : Type} : Lit × DataW H → Nat
  | (.string bytes, d) => bytes.length + uptoBulk d + 1
  | (_, d) => uptoBulk d + 1
 end
def uptoSmall : (H : Type) → List (DataW H) → Bool := fun _ ds => decide (uptoBulkAll ds ≤ 1048576)
def OpenSpec.upto (s : _root_.Go.ChangeSpec) : _root_.Go.OpenSpec := { _root_.Go.OpenSpec.ofChange s with cond := some uptoSmall }

/-- 'timeballlaw08.ChainTells', WHERE WHAT IT READS IS OF BULK AT MOST 1048576: true; the input reads as it did. -/
def chainTellsUptoRow : OpenClaim := { program := "ytfmfdhcmbnabpaa", sum := "0242f82d2fc71492e60f61a682e02d11b6a0eaacf17eb8ef2dbea98c623bc9d9", func := "timeball/timeballlaw08.ChainTells", spec := "chainTells", inPlace := ["internal/abi.NoEscape", "internal/bytealg.MakeNoZero"], unfollowed := true, recurses := true, apart := false, narrowed := true }
def ChainTellsUptoSaid : Prop := chainTellsUptoRow.holds Try.pinned (OpenSpec.upto chainTellsSpec)

/-- 'timeballlaw08.ChainChecks', WHERE WHAT IT READS IS OF BULK AT MOST 1048576: true; the input reads as it did. -/
def chainChecksUptoRow : OpenClaim := { program := "ytfmfdhcmbnabpaa", sum := "0242f82d2fc71492e60f61a682e02d11b6a0eaacf17eb8ef2dbea98c623bc9d9", func := "timeball/timeballlaw08.ChainChecks", spec := "chainChecks", inPlace := ["internal/abi.NoEscape", "internal/bytealg.MakeNoZero"], unfollowed := true, recurses := true, apart := false, narrowed := true }
def ChainChecksUptoSaid : Prop := chainChecksUptoRow.holds Try.pinned (OpenSpec.upto chainChecksSpec)

/-- 'timeballlaw08.ChainLearns', WHERE WHAT IT READS IS OF BULK AT MOST 1048576: true; the input reads as it did. -/
def chainLearnsUptoRow : OpenClaim := { program := "ytfmfdhcmbnabpaa", sum := "0242f82d2fc71492e60f61a682e02d11b6a0eaacf17eb8ef2dbea98c623bc9d9", func := "timeball/timeballlaw08.ChainLearns", spec := "chainLearns", inPlace := ["internal/abi.NoEscape", "internal/bytealg.MakeNoZero"], unfollowed := true, recurses := true, apart := false, narrowed := true }
def ChainLearnsUptoSaid : Prop := chainLearnsUptoRow.holds Try.pinned (OpenSpec.upto chainLearnsSpec)

/-- 'timeballlaw08.ChainFar', WHERE WHAT IT READS IS OF BULK AT MOST 1048576: true; the input reads as it did. -/
def chainFarUptoRow : OpenClaim := { program := "ytfmfdhcmbnabpaa", sum := "0242f82d2fc71492e60f61a682e02d11b6a0eaacf17eb8ef2dbea98c623bc9d9", func := "timeball/timeballlaw08.ChainFar", spec := "chainFar", inPlace := ["internal/abi.NoEscape", "internal/bytealg.MakeNoZero"], unfollowed := true, recurses := true, apart := false, narrowed := true }
def ChainFarUptoSaid : Prop := chainFarUptoRow.holds Try.pinned (OpenSpec.upto chainFarSpec)

/-- 'timeballlaw08.ChainJoins', WHERE WHAT IT READS IS OF BULK AT MOST 1048576: true; the input reads as it did. -/
def chainJoinsUptoRow : OpenClaim := { program := "ytfmfdhcmbnabpaa", sum := "0242f82d2fc71492e60f61a682e02d11b6a0eaacf17eb8ef2dbea98c623bc9d9", func := "timeball/timeballlaw08.ChainJoins", spec := "chainJoins", inPlace := ["internal/abi.NoEscape", "internal/bytealg.MakeNoZero"], unfollowed := true, recurses := true, apart := false, narrowed := true }
def ChainJoinsUptoSaid : Prop := chainJoinsUptoRow.holds Try.pinned (OpenSpec.upto chainJoinsSpec)

/-- 'timeballlaw08.ChainSteps', WHERE WHAT IT READS IS OF BULK AT MOST 1048576: true; the input reads as it did. -/
def chainStepsUptoRow : OpenClaim := { program := "ytfmfdhcmbnabpaa", sum := "0242f82d2fc71492e60f61a682e02d11b6a0eaacf17eb8ef2dbea98c623bc9d9", func := "timeball/timeballlaw08.ChainSteps", spec := "chainSteps", inPlace := ["internal/abi.NoEscape", "internal/bytealg.MakeNoZero"], unfollowed := true, recurses := true, apart := false, narrowed := true }
def ChainStepsUptoSaid : Prop := chainStepsUptoRow.holds Try.pinned (OpenSpec.upto chainStepsSpec)

/-- 'timeballlaw09.PebbleDoes', WHERE WHAT IT READS IS OF BULK AT MOST 1048576: true; the input reads as it did. -/
def pebbleDoesUptoRow : OpenClaim := { program := "ytfmfdhcmbnabpaa", sum := "0242f82d2fc71492e60f61a682e02d11b6a0eaacf17eb8ef2dbea98c623bc9d9", func := "timeball/timeballlaw09.PebbleDoes", spec := "pebbleDoes", inPlace := ["internal/abi.NoEscape", "internal/bytealg.MakeNoZero"], unfollowed := true, recurses := true, apart := false, narrowed := true }
def PebbleDoesUptoSaid : Prop := pebbleDoesUptoRow.holds Try.pinned (OpenSpec.upto pebbleDoesSpec)

/-- 'timeballlaw09.PebbleAll', WHERE WHAT IT READS IS OF BULK AT MOST 1048576: true; the input reads as it did. -/
def pebbleAllUptoRow : OpenClaim := { program := "ytfmfdhcmbnabpaa", sum := "0242f82d2fc71492e60f61a682e02d11b6a0eaacf17eb8ef2dbea98c623bc9d9", func := "timeball/timeballlaw09.PebbleAll", spec := "pebbleAll", inPlace := ["internal/abi.NoEscape", "internal/bytealg.MakeNoZero"], unfollowed := true, recurses := true, apart := false, narrowed := true }
def PebbleAllUptoSaid : Prop := pebbleAllUptoRow.holds Try.pinned (OpenSpec.upto pebbleAllSpec)

/-- 'timeballlaw09.PebbleFew', WHERE WHAT IT READS IS OF BULK AT MOST 1048576: true; the input reads as it did. -/
def pebbleFewUptoRow : OpenClaim := { program := "ytfmfdhcmbnabpaa", sum := "0242f82d2fc71492e60f61a682e02d11b6a0eaacf17eb8ef2dbea98c623bc9d9", func := "timeball/timeballlaw09.PebbleFew", spec := "pebbleFew", inPlace := ["internal/abi.NoEscape", "internal/bytealg.MakeNoZero"], unfollowed := true, recurses := true, apart := false, narrowed := true }
def PebbleFewUptoSaid : Prop := pebbleFewUptoRow.holds Try.pinned (OpenSpec.upto pebbleFewSpec)

/-- 'timeballlaw09.PebbleSkips', WHERE WHAT IT READS IS OF BULK AT MOST 1048576: true; the input reads as it did. -/
def pebbleSkipsUptoRow : OpenClaim := { program := "ytfmfdhcmbnabpaa", sum := "0242f82d2fc71492e60f61a682e02d11b6a0eaacf17eb8ef2dbea98c623bc9d9", func := "timeball/timeballlaw09.PebbleSkips", spec := "pebbleSkips", inPlace := ["internal/abi.NoEscape", "internal/bytealg.MakeNoZero"], unfollowed := true, recurses := true, apart := false, narrowed := true }
def PebbleSkipsUptoSaid : Prop := pebbleSkipsUptoRow.holds Try.pinned (OpenSpec.upto pebbleSkipsSpec)

/-- 'timeballlaw09.PebbleTwo', WHERE WHAT IT READS IS OF BULK AT MOST 1048576: true; the input reads as it did. -/
def pebbleTwoUptoRow : OpenClaim := { program := "ytfmfdhcmbnabpaa", sum := "0242f82d2fc71492e60f61a682e02d11b6a0eaacf17eb8ef2dbea98c623bc9d9", func := "timeball/timeballlaw09.PebbleTwo", spec := "pebbleTwo", inPlace := ["internal/abi.NoEscape", "internal/bytealg.MakeNoZero"], unfollowed := true, recurses := true, apart := false, narrowed := true }
def PebbleTwoUptoSaid : Prop := pebbleTwoUptoRow.holds Try.pinned (OpenSpec.upto pebbleTwoSpec)

/-- 'timeballlaw09.PebbleEnds', WHERE WHAT IT READS IS OF BULK AT MOST 1048576: true; the input reads as it did. -/
def pebbleEndsUptoRow : OpenClaim := { program := "ytfmfdhcmbnabpaa", sum := "0242f82d2fc71492e60f61a682e02d11b6a0eaacf17eb8ef2dbea98c623bc9d9", func := "timeball/timeballlaw09.PebbleEnds", spec := "pebbleEnds", inPlace := ["internal/abi.NoEscape", "internal/bytealg.MakeNoZero"], unfollowed := true, recurses := true, apart := false, narrowed := true }
def PebbleEndsUptoSaid : Prop := pebbleEndsUptoRow.holds Try.pinned (OpenSpec.upto pebbleEndsSpec)

end Rows
end Go.Proofs.Ytfmfdhcmbnabpaa
