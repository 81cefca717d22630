/-
  No cell of these rows narrows 'for every input' (looked for: loops, veiled, ifaces, maps, wideKeys, modest, calm, conditions, laid).
  DERIVED. THE GIVEN ROWS OF THIS SEAT. 13 by the template 'for every input the law returns true; each argument reads behind the call as it read before'; 0 by the template 'total and deterministic' (their statements: YtachnjdmjifefaaTotals.lean).
  GIVEN WITH THE SEED: the statements are not yours to turn. If you find one false, say at which input.
  Laid BY PROGRAM, IN A SANDBOX (cutbox-rows.mjs): the forced cells as the released guide's own fill.sh prints them over the translation c35ba0baf9df8db7… (all of the seat's roots in one cut). By AI agents, Wed Nov 11 2026. No macro, syntax, notation, axiom, sorry.
-/
import Derived.Test.YtachnjdmjifefaaChecked
import GoSem.Claim
import GoSem.ClaimJoined
import GoSem.ClaimMapViews
import Derived.JoinedTies
import Derived.KernelRfl
namespace Go.Proofs.Ytachnjdmjifefaa
/- THE CELL 'sum', in the pinned program and in every row, IS THE sha256 OF THE DUMP (.gsa) THAT YtachnjdmjifefaaProg.lean LOADS. Nothing in Lean hashes anything: it is a label: what it is worth is what the hold of that sum in a sandbox is worth. -/
noncomputable def Try.pinned : Pinned := { name := "ytachnjdmjifefaa", sum := "c35ba0baf9df8db793857882e855d11058086482ec92fa057992767b66ece015", checked := Try.checked }
namespace Rows
def none {H : Type} : Left H := { results := [], args := [] }

/-- 'timeballlaw02.ShaTells': WHATEVER THE INPUT: true; the input reads as it did. -/
def shaTellsSpec : ChangeSpec := { name := "shaTells", fn := fun _ => fun
  | [d] => { results := [.lit (.bool true)], args := [d] }
  | _ => none }
def shaTellsRow : OpenClaim := { program := "ytachnjdmjifefaa", sum := "c35ba0baf9df8db793857882e855d11058086482ec92fa057992767b66ece015", func := "timeball/timeballlaw02.ShaTells", spec := "shaTells", inPlace := ["internal/abi.NoEscape", "internal/bytealg.MakeNoZero"], apart := false }
def ShaTellsSaid : Prop := shaTellsRow.holds Try.pinned (OpenSpec.ofChange shaTellsSpec)

/-- ITS FALSE NEIGHBOUR: 'it returns false'. Refute it at one input. -/
def shaTellsWrong : ChangeSpec := { name := "shaTells", fn := fun _ => fun
  | [d] => { results := [.lit (.bool false)], args := [d] }
  | _ => none }
def ShaTellsWrongFalsely : Prop := shaTellsRow.holds Try.pinned (OpenSpec.ofChange shaTellsWrong)

/-- 'timeballlaw02.ShaWalks': WHATEVER THE INPUT: true; the input reads as it did. -/
def shaWalksSpec : ChangeSpec := { name := "shaWalks", fn := fun _ => fun
  | [d1, d2] => { results := [.lit (.bool true)], args := [d1, d2] }
  | _ => none }
def shaWalksRow : OpenClaim := { program := "ytachnjdmjifefaa", sum := "c35ba0baf9df8db793857882e855d11058086482ec92fa057992767b66ece015", func := "timeball/timeballlaw02.ShaWalks", spec := "shaWalks", inPlace := ["internal/abi.NoEscape", "internal/bytealg.MakeNoZero"], apart := false }
def ShaWalksSaid : Prop := shaWalksRow.holds Try.pinned (OpenSpec.ofChange shaWalksSpec)

/-- ITS FALSE NEIGHBOUR: 'it returns false'. Refute it at one input. -/
def shaWalksWrong : ChangeSpec := { name := "shaWalks", fn := fun _ => fun
  | [d1, d2] => { results := [.lit (.bool false)], args := [d1, d2] }
  | _ => none }
def ShaWalksWrongFalsely : Prop := shaWalksRow.holds Try.pinned (OpenSpec.ofChange shaWalksWrong)

/-- 'timeballlaw02.ShaPieces': WHATEVER THE INPUT: true; the input reads as it did. -/
def shaPiecesSpec : ChangeSpec := { name := "shaPieces", fn := fun _ => fun
  | [d] => { results := [.lit (.bool true)], args := [d] }
  | _ => none }
def shaPiecesRow : OpenClaim := { program := "ytachnjdmjifefaa", sum := "c35ba0baf9df8db793857882e855d11058086482ec92fa057992767b66ece015", func := "timeball/timeballlaw02.ShaPieces", spec := "shaPieces", inPlace := ["internal/abi.NoEscape", "internal/bytealg.MakeNoZero"], apart := false }
def ShaPiecesSaid : Prop := shaPiecesRow.holds Try.pinned (OpenSpec.ofChange shaPiecesSpec)

/-- ITS FALSE NEIGHBOUR: 'it returns false'. Refute it at one input. -/
def shaPiecesWrong : ChangeSpec := { name := "shaPieces", fn := fun _ => fun
  | [d] => { results := [.lit (.bool false)], args := [d] }
  | _ => none }
def ShaPiecesWrongFalsely : Prop := shaPiecesRow.holds Try.pinned (OpenSpec.ofChange shaPiecesWrong)

/-- 'timeballlaw02.ShaBranches': WHATEVER THE INPUT: true; the input reads as it did. -/
def shaBranchesSpec : ChangeSpec := { name := "shaBranches", fn := fun _ => fun
  | [d1, d2, d3] => { results := [.lit (.bool true)], args := [d1, d2, d3] }
  | _ => none }
def shaBranchesRow : OpenClaim := { program := "ytachnjdmjifefaa", sum := "c35ba0baf9df8db793857882e855d11058086482ec92fa057992767b66ece015", func := "timeball/timeballlaw02.ShaBranches", spec := "shaBranches", inPlace := ["internal/abi.NoEscape", "internal/bytealg.MakeNoZero"], apart := false }
def ShaBranchesSaid : Prop := shaBranchesRow.holds Try.pinned (OpenSpec.ofChange shaBranchesSpec)

/-- ITS FALSE NEIGHBOUR: 'it returns false'. Refute it at one input. -/
def shaBranchesWrong : ChangeSpec := { name := "shaBranches", fn := fun _ => fun
  | [d1, d2, d3] => { results := [.lit (.bool false)], args := [d1, d2, d3] }
  | _ => none }
def ShaBranchesWrongFalsely : Prop := shaBranchesRow.holds Try.pinned (OpenSpec.ofChange shaBranchesWrong)

/-- 'timeballlaw02.ShaAdds': WHATEVER THE INPUT: true; the input reads as it did. -/
def shaAddsSpec : ChangeSpec := { name := "shaAdds", fn := fun _ => fun
  | [d1, d2, d3] => { results := [.lit (.bool true)], args := [d1, d2, d3] }
  | _ => none }
def shaAddsRow : OpenClaim := { program := "ytachnjdmjifefaa", sum := "c35ba0baf9df8db793857882e855d11058086482ec92fa057992767b66ece015", func := "timeball/timeballlaw02.ShaAdds", spec := "shaAdds", inPlace := ["internal/abi.NoEscape", "internal/bytealg.MakeNoZero"], apart := false }
def ShaAddsSaid : Prop := shaAddsRow.holds Try.pinned (OpenSpec.ofChange shaAddsSpec)

/-- ITS FALSE NEIGHBOUR: 'it returns false'. Refute it at one input. -/
def shaAddsWrong : ChangeSpec := { name := "shaAdds", fn := fun _ => fun
  | [d1, d2, d3] => { results := [.lit (.bool false)], args := [d1, d2, d3] }
  | _ => none }
def ShaAddsWrongFalsely : Prop := shaAddsRow.holds Try.pinned (OpenSpec.ofChange shaAddsWrong)

/-- 'timeballlaw02.ShaHex': WHATEVER THE INPUT: true; the input reads as it did. -/
def shaHexSpec : ChangeSpec := { name := "shaHex", fn := fun _ => fun
  | [d] => { results := [.lit (.bool true)], args := [d] }
  | _ => none }
def shaHexRow : OpenClaim := { program := "ytachnjdmjifefaa", sum := "c35ba0baf9df8db793857882e855d11058086482ec92fa057992767b66ece015", func := "timeball/timeballlaw02.ShaHex", spec := "shaHex", inPlace := ["internal/abi.NoEscape", "internal/bytealg.MakeNoZero"], apart := false }
def ShaHexSaid : Prop := shaHexRow.holds Try.pinned (OpenSpec.ofChange shaHexSpec)

/-- ITS FALSE NEIGHBOUR: 'it returns false'. Refute it at one input. -/
def shaHexWrong : ChangeSpec := { name := "shaHex", fn := fun _ => fun
  | [d] => { results := [.lit (.bool false)], args := [d] }
  | _ => none }
def ShaHexWrongFalsely : Prop := shaHexRow.holds Try.pinned (OpenSpec.ofChange shaHexWrong)

/-- 'timeballlaw02.ShaZero': WHATEVER THE INPUT: true; the input reads as it did. -/
def shaZeroSpec : ChangeSpec := { name := "shaZero", fn := fun _ => fun
  | [d] => { results := [.lit (.bool true)], args := [d] }
  | _ => none }
def shaZeroRow : OpenClaim := { program := "ytachnjdmjifefaa", sum := "c35ba0baf9df8db793857882e855d11058086482ec92fa057992767b66ece015", func := "timeball/timeballlaw02.ShaZero", spec := "shaZero", inPlace := ["internal/abi.NoEscape", "internal/bytealg.MakeNoZero"], apart := false }
def ShaZeroSaid : Prop := shaZeroRow.holds Try.pinned (OpenSpec.ofChange shaZeroSpec)

/-- ITS FALSE NEIGHBOUR: 'it returns false'. Refute it at one input. -/
def shaZeroWrong : ChangeSpec := { name := "shaZero", fn := fun _ => fun
  | [d] => { results := [.lit (.bool false)], args := [d] }
  | _ => none }
def ShaZeroWrongFalsely : Prop := shaZeroRow.holds Try.pinned (OpenSpec.ofChange shaZeroWrong)

/-- 'timeballlaw03.MacTells': WHATEVER THE INPUT: true; the input reads as it did. -/
def macTellsSpec : ChangeSpec := { name := "macTells", fn := fun _ => fun
  | [d1, d2, d3, d4, d5] => { results := [.lit (.bool true)], args := [d1, d2, d3, d4, d5] }
  | _ => none }
def macTellsRow : OpenClaim := { program := "ytachnjdmjifefaa", sum := "c35ba0baf9df8db793857882e855d11058086482ec92fa057992767b66ece015", func := "timeball/timeballlaw03.MacTells", spec := "macTells", inPlace := ["internal/abi.NoEscape", "internal/bytealg.MakeNoZero"], unfollowed := true, recurses := true, apart := false }
def MacTellsSaid : Prop := macTellsRow.holds Try.pinned (OpenSpec.ofChange macTellsSpec)

/-- ITS FALSE NEIGHBOUR: 'it returns false'. Refute it at one input. -/
def macTellsWrong : ChangeSpec := { name := "macTells", fn := fun _ => fun
  | [d1, d2, d3, d4, d5] => { results := [.lit (.bool false)], args := [d1, d2, d3, d4, d5] }
  | _ => none }
def MacTellsWrongFalsely : Prop := macTellsRow.holds Try.pinned (OpenSpec.ofChange macTellsWrong)

/-- 'timeballlaw03.MacWith': WHATEVER THE INPUT: true; the input reads as it did. -/
def macWithSpec : ChangeSpec := { name := "macWith", fn := fun _ => fun
  | [d1, d2] => { results := [.lit (.bool true)], args := [d1, d2] }
  | _ => none }
def macWithRow : OpenClaim := { program := "ytachnjdmjifefaa", sum := "c35ba0baf9df8db793857882e855d11058086482ec92fa057992767b66ece015", func := "timeball/timeballlaw03.MacWith", spec := "macWith", inPlace := ["internal/abi.NoEscape", "internal/bytealg.MakeNoZero"], unfollowed := true, recurses := true, apart := false }
def MacWithSaid : Prop := macWithRow.holds Try.pinned (OpenSpec.ofChange macWithSpec)

/-- ITS FALSE NEIGHBOUR: 'it returns false'. Refute it at one input. -/
def macWithWrong : ChangeSpec := { name := "macWith", fn := fun _ => fun
  | [d1, d2] => { results := [.lit (.bool false)], args := [d1, d2] }
  | _ => none }
def MacWithWrongFalsely : Prop := macWithRow.holds Try.pinned (OpenSpec.ofChange macWithWrong)

/-- 'timeballlaw03.MacShort': WHATEVER THE INPUT: true; the input reads as it did. -/
def macShortSpec : ChangeSpec := { name := "macShort", fn := fun _ => fun
  | [d1, d2, d3, d4, d5] => { results := [.lit (.bool true)], args := [d1, d2, d3, d4, d5] }
  | _ => none }
def macShortRow : OpenClaim := { program := "ytachnjdmjifefaa", sum := "c35ba0baf9df8db793857882e855d11058086482ec92fa057992767b66ece015", func := "timeball/timeballlaw03.MacShort", spec := "macShort", inPlace := ["internal/abi.NoEscape", "internal/bytealg.MakeNoZero"], unfollowed := true, recurses := true, apart := false }
def MacShortSaid : Prop := macShortRow.holds Try.pinned (OpenSpec.ofChange macShortSpec)

/-- ITS FALSE NEIGHBOUR: 'it returns false'. Refute it at one input. -/
def macShortWrong : ChangeSpec := { name := "macShort", fn := fun _ => fun
  | [d1, d2, d3, d4, d5] => { results := [.lit (.bool false)], args := [d1, d2, d3, d4, d5] }
  | _ => none }
def MacShortWrongFalsely : Prop := macShortRow.holds Try.pinned (OpenSpec.ofChange macShortWrong)

/-- 'timeballlaw03.MacPads': WHATEVER THE INPUT: true; the input reads as it did. -/
def macPadsSpec : ChangeSpec := { name := "macPads", fn := fun _ => fun
  | [d1, d2] => { results := [.lit (.bool true)], args := [d1, d2] }
  | _ => none }
def macPadsRow : OpenClaim := { program := "ytachnjdmjifefaa", sum := "c35ba0baf9df8db793857882e855d11058086482ec92fa057992767b66ece015", func := "timeball/timeballlaw03.MacPads", spec := "macPads", inPlace := ["internal/abi.NoEscape", "internal/bytealg.MakeNoZero"], unfollowed := true, recurses := true, apart := false }
def MacPadsSaid : Prop := macPadsRow.holds Try.pinned (OpenSpec.ofChange macPadsSpec)

/-- ITS FALSE NEIGHBOUR: 'it returns false'. Refute it at one input. -/
def macPadsWrong : ChangeSpec := { name := "macPads", fn := fun _ => fun
  | [d1, d2] => { results := [.lit (.bool false)], args := [d1, d2] }
  | _ => none }
def MacPadsWrongFalsely : Prop := macPadsRow.holds Try.pinned (OpenSpec.ofChange macPadsWrong)

/-- 'timeballlaw03.MacNames': WHATEVER THE INPUT: true; the input reads as it did. -/
def macNamesSpec : ChangeSpec := { name := "macNames", fn := fun _ => fun
  | [d1, d2, d3] => { results := [.lit (.bool true)], args := [d1, d2, d3] }
  | _ => none }
def macNamesRow : OpenClaim := { program := "ytachnjdmjifefaa", sum := "c35ba0baf9df8db793857882e855d11058086482ec92fa057992767b66ece015", func := "timeball/timeballlaw03.MacNames", spec := "macNames", inPlace := ["internal/abi.NoEscape", "internal/bytealg.MakeNoZero"], unfollowed := true, recurses := true, apart := false }
def MacNamesSaid : Prop := macNamesRow.holds Try.pinned (OpenSpec.ofChange macNamesSpec)

/-- ITS FALSE NEIGHBOUR: 'it returns false'. Refute it at one input. -/
def macNamesWrong : ChangeSpec := { name := "macNames", fn := fun _ => fun
  | [d1, d2, d3] => { results := [.lit (.bool false)], args := [d1, d2, d3] }
  | _ => none }
def MacNamesWrongFalsely : Prop := macNamesRow.holds Try.pinned (OpenSpec.ofChange macNamesWrong)

/-- 'timeballlaw03.MacBegins': WHATEVER THE INPUT: true; the input reads as it did. -/
def macBeginsSpec : ChangeSpec := { name := "macBegins", fn := fun _ => fun
  | [d1, d2, d3, d4] => { results := [.lit (.bool true)], args := [d1, d2, d3, d4] }
  | _ => none }
def macBeginsRow : OpenClaim := { program := "ytachnjdmjifefaa", sum := "c35ba0baf9df8db793857882e855d11058086482ec92fa057992767b66ece015", func := "timeball/timeballlaw03.MacBegins", spec := "macBegins", inPlace := ["internal/abi.NoEscape", "internal/bytealg.MakeNoZero"], unfollowed := true, recurses := true, apart := false }
def MacBeginsSaid : Prop := macBeginsRow.holds Try.pinned (OpenSpec.ofChange macBeginsSpec)

/-- ITS FALSE NEIGHBOUR: 'it returns false'. Refute it at one input. -/
def macBeginsWrong : ChangeSpec := { name := "macBegins", fn := fun _ => fun
  | [d1, d2, d3, d4] => { results := [.lit (.bool false)], args := [d1, d2, d3, d4] }
  | _ => none }
def MacBeginsWrongFalsely : Prop := macBeginsRow.holds Try.pinned (OpenSpec.ofChange macBeginsWrong)

/- THE SECOND FORM. 'bulk': how many values and letters a reading holds, each counted each time it is reached (what is shared counts as often as it is met; a slice's spare places count too). A statement '..UptoSaid' is the law's where the arguments, and the package variables that the reading takes, are together of bulk at most 1048576: NARROWER than '..Said'. Prove '..Said' where nothing that the law and all that it calls make is longer than what came in: it says more and counts as full. Else prove '..UptoSaid'. A law counts once. -/
mutual
def uptoBulk {H : Type} : DataW H → Nat
  | .lit (.string bytes) => bytes.length + 1
  | .lit _ => 1
  | .nil => 1
  | .ptr d => uptoBulk d + 1
  | .slice elems spare => uptoBulkAll elems + uptoBulkAll spare + 1
  | .agg parts => uptoBulkAll parts + 1
  | .iface _ d => uptoBulk d + 1
  | .map entries => uptoBulkEntries entries + 1
  | .held _ => 1
def uptoBulkAll {H : Type} : List (DataW H) → Nat
  | [] => 0
  | d :: r => uptoBulk d + uptoBulkAll r
def uptoBulkEntries {H : Type} : List (Lit × DataW H) → Nat
  | [] => 0
  | x :: r => uptoBulkEntry x + uptoBulkEntries r
def uptoBulkEntry {H : Type} : Lit × DataW H → Nat
  | (.string bytes, d) => bytes.length + uptoBulk d + 1
  | (_, d) => uptoBulk d + 1
 end
def uptoSmall : (H : Type) → List (DataW H) → Bool := fun _ ds => decide (uptoBulkAll ds ≤ 1048576)
def OpenSpec.upto (s : _root_.Go.ChangeSpec) : _root_.Go.OpenSpec := { _root_.Go.OpenSpec.ofChange s with cond := some uptoSmall }

/-- 'timeballlaw02.ShaTells', WHERE WHAT IT READS IS OF BULK AT MOST 1048576: true; the input reads as it did. -/
def shaTellsUptoRow : OpenClaim := { program := "ytachnjdmjifefaa", sum := "c35ba0baf9df8db793857882e855d11058086482ec92fa057992767b66ece015", func := "timeball/timeballlaw02.ShaTells", spec := "shaTells", inPlace := ["internal/abi.NoEscape", "internal/bytealg.MakeNoZero"], apart := false, narrowed := true }
def ShaTellsUptoSaid : Prop := shaTellsUptoRow.holds Try.pinned (OpenSpec.upto shaTellsSpec)

/-- 'timeballlaw02.ShaWalks', WHERE WHAT IT READS IS OF BULK AT MOST 1048576: true; the input reads as it did. -/
def shaWalksUptoRow : OpenClaim := { program := "ytachnjdmjifefaa", sum := "c35ba0baf9df8db793857882e855d11058086482ec92fa057992767b66ece015", func := "timeball/timeballlaw02.ShaWalks", spec := "shaWalks", inPlace := ["internal/abi.NoEscape", "internal/bytealg.MakeNoZero"], apart := false, narrowed := true }
def ShaWalksUptoSaid : Prop := shaWalksUptoRow.holds Try.pinned (OpenSpec.upto shaWalksSpec)

/-- 'timeballlaw02.ShaPieces', WHERE WHAT IT READS IS OF BULK AT MOST 1048576: true; the input reads as it did. -/
def shaPiecesUptoRow : OpenClaim := { program := "ytachnjdmjifefaa", sum := "c35ba0baf9df8db793857882e855d11058086482ec92fa057992767b66ece015", func := "timeball/timeballlaw02.ShaPieces", spec := "shaPieces", inPlace := ["internal/abi.NoEscape", "internal/bytealg.MakeNoZero"], apart := false, narrowed := true }
def ShaPiecesUptoSaid : Prop := shaPiecesUptoRow.holds Try.pinned (OpenSpec.upto shaPiecesSpec)

/-- 'timeballlaw02.ShaBranches', WHERE WHAT IT READS IS OF BULK AT MOST 1048576: true; the input reads as it did. -/
def shaBranchesUptoRow : OpenClaim := { program := "ytachnjdmjifefaa", sum := "c35ba0baf9df8db793857882e855d11058086482ec92fa057992767b66ece015", func := "timeball/timeballlaw02.ShaBranches", spec := "shaBranches", inPlace := ["internal/abi.NoEscape", "internal/bytealg.MakeNoZero"], apart := false, narrowed := true }
def ShaBranchesUptoSaid : Prop := shaBranchesUptoRow.holds Try.pinned (OpenSpec.upto shaBranchesSpec)

/-- 'timeballlaw02.ShaAdds', WHERE WHAT IT READS IS OF BULK AT MOST 1048576: true; the input reads as it did. -/
def shaAddsUptoRow : OpenClaim := { program := "ytachnjdmjifefaa", sum := "c35ba0baf9df8db793857882e855d11058086482ec92fa057992767b66ece015", func := "timeball/timeballlaw02.ShaAdds", spec := "shaAdds", inPlace := ["internal/abi.NoEscape", "internal/bytealg.MakeNoZero"], apart := false, narrowed := true }
def ShaAddsUptoSaid : Prop := shaAddsUptoRow.holds Try.pinned (OpenSpec.upto shaAddsSpec)

/-- 'timeballlaw02.ShaHex', WHERE WHAT IT READS IS OF BULK AT MOST 1048576: true; the input reads as it did. -/
def shaHexUptoRow : OpenClaim := { program := "ytachnjdmjifefaa", sum := "c35ba0baf9df8db793857882e855d11058086482ec92fa057992767b66ece015", func := "timeball/timeballlaw02.ShaHex", spec := "shaHex", inPlace := ["internal/abi.NoEscape", "internal/bytealg.MakeNoZero"], apart := false, narrowed := true }
def ShaHexUptoSaid : Prop := shaHexUptoRow.holds Try.pinned (OpenSpec.upto shaHexSpec)

/-- 'timeballlaw02.ShaZero', WHERE WHAT IT READS IS OF BULK AT MOST 1048576: true; the input reads as it did. -/
def shaZeroUptoRow : OpenClaim := { program := "ytachnjdmjifefaa", sum := "c35ba0baf9df8db793857882e855d11058086482ec92fa057992767b66ece015", func := "timeball/timeballlaw02.ShaZero", spec := "shaZero", inPlace := ["internal/abi.NoEscape", "internal/bytealg.MakeNoZero"], apart := false, narrowed := true }
def ShaZeroUptoSaid : Prop := shaZeroUptoRow.holds Try.pinned (OpenSpec.upto shaZeroSpec)

/-- 'timeballlaw03.MacTells', WHERE WHAT IT READS IS OF BULK AT MOST 1048576: true; the input reads as it did. -/
def macTellsUptoRow : OpenClaim := { program := "ytachnjdmjifefaa", sum := "c35ba0baf9df8db793857882e855d11058086482ec92fa057992767b66ece015", func := "timeball/timeballlaw03.MacTells", spec := "macTells", inPlace := ["internal/abi.NoEscape", "internal/bytealg.MakeNoZero"], unfollowed := true, recurses := true, apart := false, narrowed := true }
def MacTellsUptoSaid : Prop := macTellsUptoRow.holds Try.pinned (OpenSpec.upto macTellsSpec)

/-- 'timeballlaw03.MacWith', WHERE WHAT IT READS IS OF BULK AT MOST 1048576: true; the input reads as it did. -/
def macWithUptoRow : OpenClaim := { program := "ytachnjdmjifefaa", sum := "c35ba0baf9df8db793857882e855d11058086482ec92fa057992767b66ece015", func := "timeball/timeballlaw03.MacWith", spec := "macWith", inPlace := ["internal/abi.NoEscape", "internal/bytealg.MakeNoZero"], unfollowed := true, recurses := true, apart := false, narrowed := true }
def MacWithUptoSaid : Prop := macWithUptoRow.holds Try.pinned (OpenSpec.upto macWithSpec)

/-- 'timeballlaw03.MacShort', WHERE WHAT IT READS IS OF BULK AT MOST 1048576: true; the input reads as it did. -/
def macShortUptoRow : OpenClaim := { program := "ytachnjdmjifefaa", sum := "c35ba0baf9df8db793857882e855d11058086482ec92fa057992767b66ece015", func := "timeball/timeballlaw03.MacShort", spec := "macShort", inPlace := ["internal/abi.NoEscape", "internal/bytealg.MakeNoZero"], unfollowed := true, recurses := true, apart := false, narrowed := true }
def MacShortUptoSaid : Prop := macShortUptoRow.holds Try.pinned (OpenSpec.upto macShortSpec)

/-- 'timeballlaw03.MacPads', WHERE WHAT IT READS IS OF BULK AT MOST 1048576: true; the input reads as it did. -/
def macPadsUptoRow : OpenClaim := { program := "ytachnjdmjifefaa", sum := "c35ba0baf9df8db793857882e855d11058086482ec92fa057992767b66ece015", func := "timeball/timeballlaw03.MacPads", spec := "macPads", inPlace := ["internal/abi.NoEscape", "internal/bytealg.MakeNoZero"], unfollowed := true, recurses := true, apart := false, narrowed := true }
def MacPadsUptoSaid : Prop := macPadsUptoRow.holds Try.pinned (OpenSpec.upto macPadsSpec)

/-- 'timeballlaw03.MacNames', WHERE WHAT IT READS IS OF BULK AT MOST 1048576: true; the input reads as it did. -/
def macNamesUptoRow : OpenClaim := { program := "ytachnjdmjifefaa", sum := "c35ba0baf9df8db793857882e855d11058086482ec92fa057992767b66ece015", func := "timeball/timeballlaw03.MacNames", spec := "macNames", inPlace := ["internal/abi.NoEscape", "internal/bytealg.MakeNoZero"], unfollowed := true, recurses := true, apart := false, narrowed := true }
def MacNamesUptoSaid : Prop := macNamesUptoRow.holds Try.pinned (OpenSpec.upto macNamesSpec)

/-- 'timeballlaw03.MacBegins', WHERE WHAT IT READS IS OF BULK AT MOST 1048576: true; the input reads as it did. -/
def macBeginsUptoRow : OpenClaim := { program := "ytachnjdmjifefaa", sum := "c35ba0baf9df8db793857882e855d11058086482ec92fa057992767b66ece015", func := "timeball/timeballlaw03.MacBegins", spec := "macBegins", inPlace := ["internal/abi.NoEscape", "internal/bytealg.MakeNoZero"], unfollowed := true, recurses := true, apart := false, narrowed := true }
def MacBeginsUptoSaid : Prop := macBeginsUptoRow.holds Try.pinned (OpenSpec.upto macBeginsSpec)

end Rows
end Go.Proofs.Ytachnjdmjifefaa
