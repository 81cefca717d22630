/-
  No cell of these rows narrows 'for every input' (looked for: loops, veiled, ifaces, maps, wideKeys, modest, calm, conditions, laid).
  DERIVED. THE GIVEN ROWS OF THIS SEAT. 6 by the template 'for every input the law returns true; each argument reads behind the call as it read before'; 0 by the template 'total and deterministic' (their statements: YtmnbnjiipnocaaaTotals.lean).
  GIVEN WITH THE SEED: the statements are not yours to turn. If you find one false, say at which input.
  Laid BY PROGRAM, IN A SANDBOX (cutbox-rows.mjs): the forced cells as the released guide's own fill.sh prints them over the translation e7526edc44af5304… (all of the seat's roots in one cut). By AI agents, Wed Nov 11 2026. No macro, syntax, notation, axiom, sorry.
-/
import Derived.Test.YtmnbnjiipnocaaaChecked
import GoSem.Claim
import GoSem.ClaimJoined
import GoSem.ClaimMapViews
import Derived.JoinedTies
import Derived.KernelRfl
namespace Go.Proofs.Ytmnbnjiipnocaaa
/- THE CELL 'sum', in the pinned program and in every row, IS THE sha256 OF THE DUMP (.gsa) THAT YtmnbnjiipnocaaaProg.lean LOADS. Nothing in Lean hashes anything: it is a label: what it is worth is what the hold of that sum in a sandbox is worth. -/
noncomputable def Try.pinned : Pinned := { name := "ytmnbnjiipnocaaa", sum := "e7526edc44af5304459e965961985fcb17546f30388d3786558b79d90e7b2680", checked := Try.checked }
namespace Rows
def none {H : Type} : Left H := { results := [], args := [] }

/-- 'timeballlaw12.SenderSends': WHATEVER THE INPUT: true; the input reads as it did. -/
def senderSendsSpec : ChangeSpec := { name := "senderSends", fn := fun _ => fun
  | [d1, d2, d3, d4] => { results := [.lit (.bool true)], args := [d1, d2, d3, d4] }
  | _ => none }
def senderSendsRow : OpenClaim := { program := "ytmnbnjiipnocaaa", sum := "e7526edc44af5304459e965961985fcb17546f30388d3786558b79d90e7b2680", func := "timeball/timeballlaw12.SenderSends", spec := "senderSends", inPlace := ["internal/abi.NoEscape", "internal/bytealg.MakeNoZero"], unfollowed := true, recurses := true, apart := false }
def SenderSendsSaid : Prop := senderSendsRow.holds Try.pinned (OpenSpec.ofChange senderSendsSpec)

/-- ITS FALSE NEIGHBOUR: 'it returns false'. Refute it at one input. -/
def senderSendsWrong : ChangeSpec := { name := "senderSends", fn := fun _ => fun
  | [d1, d2, d3, d4] => { results := [.lit (.bool false)], args := [d1, d2, d3, d4] }
  | _ => none }
def SenderSendsWrongFalsely : Prop := senderSendsRow.holds Try.pinned (OpenSpec.ofChange senderSendsWrong)

/-- 'timeballlaw12.SenderTags': WHATEVER THE INPUT: true; the input reads as it did. -/
def senderTagsSpec : ChangeSpec := { name := "senderTags", fn := fun _ => fun
  | [d1, d2] => { results := [.lit (.bool true)], args := [d1, d2] }
  | _ => none }
def senderTagsRow : OpenClaim := { program := "ytmnbnjiipnocaaa", sum := "e7526edc44af5304459e965961985fcb17546f30388d3786558b79d90e7b2680", func := "timeball/timeballlaw12.SenderTags", spec := "senderTags", inPlace := ["internal/abi.NoEscape", "internal/bytealg.MakeNoZero"], unfollowed := true, recurses := true, apart := false }
def SenderTagsSaid : Prop := senderTagsRow.holds Try.pinned (OpenSpec.ofChange senderTagsSpec)

/-- ITS FALSE NEIGHBOUR: 'it returns false'. Refute it at one input. -/
def senderTagsWrong : ChangeSpec := { name := "senderTags", fn := fun _ => fun
  | [d1, d2] => { results := [.lit (.bool false)], args := [d1, d2] }
  | _ => none }
def SenderTagsWrongFalsely : Prop := senderTagsRow.holds Try.pinned (OpenSpec.ofChange senderTagsWrong)

/-- 'timeballlaw12.SenderTells': WHATEVER THE INPUT: true; the input reads as it did. -/
def senderTellsSpec : ChangeSpec := { name := "senderTells", fn := fun _ => fun
  | [d1, d2, d3] => { results := [.lit (.bool true)], args := [d1, d2, d3] }
  | _ => none }
def senderTellsRow : OpenClaim := { program := "ytmnbnjiipnocaaa", sum := "e7526edc44af5304459e965961985fcb17546f30388d3786558b79d90e7b2680", func := "timeball/timeballlaw12.SenderTells", spec := "senderTells", inPlace := ["internal/abi.NoEscape", "internal/bytealg.MakeNoZero"], unfollowed := true, recurses := true, apart := false }
def SenderTellsSaid : Prop := senderTellsRow.holds Try.pinned (OpenSpec.ofChange senderTellsSpec)

/-- ITS FALSE NEIGHBOUR: 'it returns false'. Refute it at one input. -/
def senderTellsWrong : ChangeSpec := { name := "senderTells", fn := fun _ => fun
  | [d1, d2, d3] => { results := [.lit (.bool false)], args := [d1, d2, d3] }
  | _ => none }
def SenderTellsWrongFalsely : Prop := senderTellsRow.holds Try.pinned (OpenSpec.ofChange senderTellsWrong)

/-- 'timeballlaw12.SenderRises': WHATEVER THE INPUT: true; the input reads as it did. -/
def senderRisesSpec : ChangeSpec := { name := "senderRises", fn := fun _ => fun
  | [d1, d2, d3] => { results := [.lit (.bool true)], args := [d1, d2, d3] }
  | _ => none }
def senderRisesRow : OpenClaim := { program := "ytmnbnjiipnocaaa", sum := "e7526edc44af5304459e965961985fcb17546f30388d3786558b79d90e7b2680", func := "timeball/timeballlaw12.SenderRises", spec := "senderRises", inPlace := ["internal/abi.NoEscape", "internal/bytealg.MakeNoZero"], unfollowed := true, recurses := true, apart := false }
def SenderRisesSaid : Prop := senderRisesRow.holds Try.pinned (OpenSpec.ofChange senderRisesSpec)

/-- ITS FALSE NEIGHBOUR: 'it returns false'. Refute it at one input. -/
def senderRisesWrong : ChangeSpec := { name := "senderRises", fn := fun _ => fun
  | [d1, d2, d3] => { results := [.lit (.bool false)], args := [d1, d2, d3] }
  | _ => none }
def SenderRisesWrongFalsely : Prop := senderRisesRow.holds Try.pinned (OpenSpec.ofChange senderRisesWrong)

/-- 'timeballlaw12.SenderRenews': WHATEVER THE INPUT: true; the input reads as it did. -/
def senderRenewsSpec : ChangeSpec := { name := "senderRenews", fn := fun _ => fun
  | [d1, d2, d3] => { results := [.lit (.bool true)], args := [d1, d2, d3] }
  | _ => none }
def senderRenewsRow : OpenClaim := { program := "ytmnbnjiipnocaaa", sum := "e7526edc44af5304459e965961985fcb17546f30388d3786558b79d90e7b2680", func := "timeball/timeballlaw12.SenderRenews", spec := "senderRenews", inPlace := ["internal/abi.NoEscape", "internal/bytealg.MakeNoZero"], unfollowed := true, recurses := true, apart := false }
def SenderRenewsSaid : Prop := senderRenewsRow.holds Try.pinned (OpenSpec.ofChange senderRenewsSpec)

/-- ITS FALSE NEIGHBOUR: 'it returns false'. Refute it at one input. -/
def senderRenewsWrong : ChangeSpec := { name := "senderRenews", fn := fun _ => fun
  | [d1, d2, d3] => { results := [.lit (.bool false)], args := [d1, d2, d3] }
  | _ => none }
def SenderRenewsWrongFalsely : Prop := senderRenewsRow.holds Try.pinned (OpenSpec.ofChange senderRenewsWrong)

/-- 'timeballlaw12.SenderSame': WHATEVER THE INPUT: true; the input reads as it did. -/
def senderSameSpec : ChangeSpec := { name := "senderSame", fn := fun _ => fun
  | [d1, d2, d3, d4, d5] => { results := [.lit (.bool true)], args := [d1, d2, d3, d4, d5] }
  | _ => none }
def senderSameRow : OpenClaim := { program := "ytmnbnjiipnocaaa", sum := "e7526edc44af5304459e965961985fcb17546f30388d3786558b79d90e7b2680", func := "timeball/timeballlaw12.SenderSame", spec := "senderSame", inPlace := ["internal/abi.NoEscape", "internal/bytealg.MakeNoZero"], unfollowed := true, recurses := true, apart := false }
def SenderSameSaid : Prop := senderSameRow.holds Try.pinned (OpenSpec.ofChange senderSameSpec)

/-- ITS FALSE NEIGHBOUR: 'it returns false'. Refute it at one input. -/
def senderSameWrong : ChangeSpec := { name := "senderSame", fn := fun _ => fun
  | [d1, d2, d3, d4, d5] => { results := [.lit (.bool false)], args := [d1, d2, d3, d4, d5] }
  | _ => none }
def SenderSameWrongFalsely : Prop := senderSameRow.holds Try.pinned (OpenSpec.ofChange senderSameWrong)

/- THE SECOND FORM. 'bulk': how many values and letters a reading holds, each counted each time it is reached (what is shared counts as often as it is met; a slice's spare places count too). A statement '..UptoSaid' is the law's where the arguments, and the package variables that the reading takes, are together of bulk at most 1048576: NARROWER than '..Said'. Prove '..Said' where nothing that the law and all that it calls make is longer than what came in: it says more and counts as full. Else prove '..UptoSaid'. A law counts once. -/
mutual
def uptoBulk {H : Type} : DataW H → Nat
  | .lit (.string bytes) => bytes.length + 1
  | .lit _ => 1
  | .nil => 1
  | .ptr d => uptoBulk d + 1
  | .slice elems spare => uptoBulkAll elems + uptoBulkAll spare + 1
  | .agg parts => uptoBulkAll parts + 1
  | .iface _ d => uptoBulk d + 1
  | .map entries => uptoBulkEntries entries + 1
  | .held _ => 1
def uptoBulkAll {H : Type} : List (DataW H) → Nat
  | [] => 0
  | d :: r => uptoBulk d + uptoBulkAll r
def uptoBulkEntries {H : Type} : List (Lit × DataW H) → Nat
  | [] => 0
  | x :: r => uptoBulkEntry x + uptoBulkEntries r
def uptoBulkEntry {H : Type} : Lit × DataW H → Nat
  | (.string bytes, d) => bytes.length + uptoBulk d + 1
  | (_, d) => uptoBulk d + 1
 end
def uptoSmall : (H : Type) → List (DataW H) → Bool := fun _ ds => decide (uptoBulkAll ds ≤ 1048576)
def OpenSpec.upto (s : _root_.Go.ChangeSpec) : _root_.Go.OpenSpec := { _root_.Go.OpenSpec.ofChange s with cond := some uptoSmall }

/-- 'timeballlaw12.SenderSends', WHERE WHAT IT READS IS OF BULK AT MOST 1048576: true; the input reads as it did. -/
def senderSendsUptoRow : OpenClaim := { program := "ytmnbnjiipnocaaa", sum := "e7526edc44af5304459e965961985fcb17546f30388d3786558b79d90e7b2680", func := "timeball/timeballlaw12.SenderSends", spec := "senderSends", inPlace := ["internal/abi.NoEscape", "internal/bytealg.MakeNoZero"], unfollowed := true, recurses := true, apart := false, narrowed := true }
def SenderSendsUptoSaid : Prop := senderSendsUptoRow.holds Try.pinned (OpenSpec.upto senderSendsSpec)

/-- 'timeballlaw12.SenderTags', WHERE WHAT IT READS IS OF BULK AT MOST 1048576: true; the input reads as it did. -/
def senderTagsUptoRow : OpenClaim := { program := "ytmnbnjiipnocaaa", sum := "e7526edc44af5304459e965961985fcb17546f30388d3786558b79d90e7b2680", func := "timeball/timeballlaw12.SenderTags", spec := "senderTags", inPlace := ["internal/abi.NoEscape", "internal/bytealg.MakeNoZero"], unfollowed := true, recurses := true, apart := false, narrowed := true }
def SenderTagsUptoSaid : Prop := senderTagsUptoRow.holds Try.pinned (OpenSpec.upto senderTagsSpec)

/-- 'timeballlaw12.SenderTells', WHERE WHAT IT READS IS OF BULK AT MOST 1048576: true; the input reads as it did. -/
def senderTellsUptoRow : OpenClaim := { program := "ytmnbnjiipnocaaa", sum := "e7526edc44af5304459e965961985fcb17546f30388d3786558b79d90e7b2680", func := "timeball/timeballlaw12.SenderTells", spec := "senderTells", inPlace := ["internal/abi.NoEscape", "internal/bytealg.MakeNoZero"], unfollowed := true, recurses := true, apart := false, narrowed := true }
def SenderTellsUptoSaid : Prop := senderTellsUptoRow.holds Try.pinned (OpenSpec.upto senderTellsSpec)

/-- 'timeballlaw12.SenderRises', WHERE WHAT IT READS IS OF BULK AT MOST 1048576: true; the input reads as it did. -/
def senderRisesUptoRow : OpenClaim := { program := "ytmnbnjiipnocaaa", sum := "e7526edc44af5304459e965961985fcb17546f30388d3786558b79d90e7b2680", func := "timeball/timeballlaw12.SenderRises", spec := "senderRises", inPlace := ["internal/abi.NoEscape", "internal/bytealg.MakeNoZero"], unfollowed := true, recurses := true, apart := false, narrowed := true }
def SenderRisesUptoSaid : Prop := senderRisesUptoRow.holds Try.pinned (OpenSpec.upto senderRisesSpec)

/-- 'timeballlaw12.SenderRenews', WHERE WHAT IT READS IS OF BULK AT MOST 1048576: true; the input reads as it did. -/
def senderRenewsUptoRow : OpenClaim := { program := "ytmnbnjiipnocaaa", sum := "e7526edc44af5304459e965961985fcb17546f30388d3786558b79d90e7b2680", func := "timeball/timeballlaw12.SenderRenews", spec := "senderRenews", inPlace := ["internal/abi.NoEscape", "internal/bytealg.MakeNoZero"], unfollowed := true, recurses := true, apart := false, narrowed := true }
def SenderRenewsUptoSaid : Prop := senderRenewsUptoRow.holds Try.pinned (OpenSpec.upto senderRenewsSpec)

/-- 'timeballlaw12.SenderSame', WHERE WHAT IT READS IS OF BULK AT MOST 1048576: true; the input reads as it did. -/
def senderSameUptoRow : OpenClaim := { program := "ytmnbnjiipnocaaa", sum := "e7526edc44af5304459e965961985fcb17546f30388d3786558b79d90e7b2680", func := "timeball/timeballlaw12.SenderSame", spec := "senderSame", inPlace := ["internal/abi.NoEscape", "internal/bytealg.MakeNoZero"], unfollowed := true, recurses := true, apart := false, narrowed := true }
def SenderSameUptoSaid : Prop := senderSameUptoRow.holds Try.pinned (OpenSpec.upto senderSameSpec)

end Rows
end Go.Proofs.Ytmnbnjiipnocaaa
