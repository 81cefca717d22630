/-
  No cell of these rows narrows 'for every input' (looked for: loops, veiled, ifaces, maps, wideKeys, modest, calm, conditions, laid).
  DERIVED. THE GIVEN ROWS OF THIS SEAT. 12 by the template 'for every input the law returns true; each argument reads behind the call as it read before'; 0 by the template 'total and deterministic' (their statements: YtmblknknbbdmeaaGreatTotals.lean).
  GIVEN WITH THE SEED: the statements are not yours to turn. If you find one false, say at which input.
  Laid BY PROGRAM, IN A SANDBOX (cutbox-rows.mjs): the forced cells as the released guide's own fill.sh prints them over the translation 6a0c00f9d9fc7963… (all of the seat's roots in one cut). By AI agents, Wed Nov 11 2026. No macro, syntax, notation, axiom, sorry.
-/
import Derived.Test.YtmblknknbbdmeaaGreatChecked
import GoSem.Claim
import GoSem.ClaimJoined
import GoSem.ClaimMapViews
import Derived.JoinedTies
import Derived.KernelRfl
namespace Go.Proofs.YtmblknknbbdmeaaGreat
/- THE CELL 'sum', in the pinned program and in every row, IS THE sha256 OF THE DUMP (.gsa) THAT YtmblknknbbdmeaaGreatProg.lean LOADS. Nothing in Lean hashes anything: it is a label: what it is worth is what the hold of that sum in a sandbox is worth. -/
noncomputable def Tryz.pinned : Pinned := { name := "ytmblknknbbdmeaagreat", sum := "6a0c00f9d9fc79635c14ee7c55a4d438b90efb4342f1110c0a99b771f07873c4", checked := Tryz.checked }
namespace Rows
def none {H : Type} : Left H := { results := [], args := [] }

/-- 'timeballtop.TopClock': WHATEVER THE INPUT: true; the input reads as it did. -/
def topClockSpec : ChangeSpec := { name := "topClock", fn := fun _ => fun
  | [d1, d2, d3] => { results := [.lit (.bool true)], args := [d1, d2, d3] }
  | _ => none }
def topClockRow : OpenClaim := { program := "ytmblknknbbdmeaagreat", sum := "6a0c00f9d9fc79635c14ee7c55a4d438b90efb4342f1110c0a99b771f07873c4", func := "timeball/timeballtop.TopClock", spec := "topClock", inPlace := ["internal/abi.NoEscape", "internal/bytealg.MakeNoZero"], unfollowed := true, recurses := true, plainKeys := false, apart := false }
def TopClockSaid : Prop := topClockRow.holds Tryz.pinned (OpenSpec.ofChange topClockSpec)

/-- ITS FALSE NEIGHBOUR: 'it returns false'. Refute it at one input. -/
def topClockWrong : ChangeSpec := { name := "topClock", fn := fun _ => fun
  | [d1, d2, d3] => { results := [.lit (.bool false)], args := [d1, d2, d3] }
  | _ => none }
def TopClockWrongFalsely : Prop := topClockRow.holds Tryz.pinned (OpenSpec.ofChange topClockWrong)

/-- 'timeballtop.TopAnew': WHATEVER THE INPUT: true; the input reads as it did. -/
def topAnewSpec : ChangeSpec := { name := "topAnew", fn := fun _ => fun
  | [d1, d2, d3, d4] => { results := [.lit (.bool true)], args := [d1, d2, d3, d4] }
  | _ => none }
def topAnewRow : OpenClaim := { program := "ytmblknknbbdmeaagreat", sum := "6a0c00f9d9fc79635c14ee7c55a4d438b90efb4342f1110c0a99b771f07873c4", func := "timeball/timeballtop.TopAnew", spec := "topAnew", inPlace := ["internal/abi.NoEscape", "internal/bytealg.MakeNoZero"], unfollowed := true, recurses := true, plainKeys := false, apart := false }
def TopAnewSaid : Prop := topAnewRow.holds Tryz.pinned (OpenSpec.ofChange topAnewSpec)

/-- ITS FALSE NEIGHBOUR: 'it returns false'. Refute it at one input. -/
def topAnewWrong : ChangeSpec := { name := "topAnew", fn := fun _ => fun
  | [d1, d2, d3, d4] => { results := [.lit (.bool false)], args := [d1, d2, d3, d4] }
  | _ => none }
def TopAnewWrongFalsely : Prop := topAnewRow.holds Tryz.pinned (OpenSpec.ofChange topAnewWrong)

/-- 'timeballtop.TopKeeps': WHATEVER THE INPUT: true; the input reads as it did. -/
def topKeepsSpec : ChangeSpec := { name := "topKeeps", fn := fun _ => fun
  | [d1, d2, d3, d4] => { results := [.lit (.bool true)], args := [d1, d2, d3, d4] }
  | _ => none }
def topKeepsRow : OpenClaim := { program := "ytmblknknbbdmeaagreat", sum := "6a0c00f9d9fc79635c14ee7c55a4d438b90efb4342f1110c0a99b771f07873c4", func := "timeball/timeballtop.TopKeeps", spec := "topKeeps", inPlace := ["internal/abi.NoEscape", "internal/bytealg.MakeNoZero"], unfollowed := true, recurses := true, plainKeys := false, apart := false }
def TopKeepsSaid : Prop := topKeepsRow.holds Tryz.pinned (OpenSpec.ofChange topKeepsSpec)

/-- ITS FALSE NEIGHBOUR: 'it returns false'. Refute it at one input. -/
def topKeepsWrong : ChangeSpec := { name := "topKeeps", fn := fun _ => fun
  | [d1, d2, d3, d4] => { results := [.lit (.bool false)], args := [d1, d2, d3, d4] }
  | _ => none }
def TopKeepsWrongFalsely : Prop := topKeepsRow.holds Tryz.pinned (OpenSpec.ofChange topKeepsWrong)

/-- 'timeballlaw13.ReceiverOnce': WHATEVER THE INPUT: true; the input reads as it did. -/
def receiverOnceSpec : ChangeSpec := { name := "receiverOnce", fn := fun _ => fun
  | [d1, d2, d3] => { results := [.lit (.bool true)], args := [d1, d2, d3] }
  | _ => none }
def receiverOnceRow : OpenClaim := { program := "ytmblknknbbdmeaagreat", sum := "6a0c00f9d9fc79635c14ee7c55a4d438b90efb4342f1110c0a99b771f07873c4", func := "timeball/timeballlaw13.ReceiverOnce", spec := "receiverOnce", inPlace := ["internal/abi.NoEscape", "internal/bytealg.MakeNoZero"], unfollowed := true, recurses := true, plainKeys := false, apart := false }
def ReceiverOnceSaid : Prop := receiverOnceRow.holds Tryz.pinned (OpenSpec.ofChange receiverOnceSpec)

/-- ITS FALSE NEIGHBOUR: 'it returns false'. Refute it at one input. -/
def receiverOnceWrong : ChangeSpec := { name := "receiverOnce", fn := fun _ => fun
  | [d1, d2, d3] => { results := [.lit (.bool false)], args := [d1, d2, d3] }
  | _ => none }
def ReceiverOnceWrongFalsely : Prop := receiverOnceRow.holds Tryz.pinned (OpenSpec.ofChange receiverOnceWrong)

/-- 'timeballlaw13.ReceiverWaits': WHATEVER THE INPUT: true; the input reads as it did. -/
def receiverWaitsSpec : ChangeSpec := { name := "receiverWaits", fn := fun _ => fun
  | [d1, d2, d3] => { results := [.lit (.bool true)], args := [d1, d2, d3] }
  | _ => none }
def receiverWaitsRow : OpenClaim := { program := "ytmblknknbbdmeaagreat", sum := "6a0c00f9d9fc79635c14ee7c55a4d438b90efb4342f1110c0a99b771f07873c4", func := "timeball/timeballlaw13.ReceiverWaits", spec := "receiverWaits", inPlace := ["internal/abi.NoEscape", "internal/bytealg.MakeNoZero"], unfollowed := true, recurses := true, plainKeys := false, apart := false }
def ReceiverWaitsSaid : Prop := receiverWaitsRow.holds Tryz.pinned (OpenSpec.ofChange receiverWaitsSpec)

/-- ITS FALSE NEIGHBOUR: 'it returns false'. Refute it at one input. -/
def receiverWaitsWrong : ChangeSpec := { name := "receiverWaits", fn := fun _ => fun
  | [d1, d2, d3] => { results := [.lit (.bool false)], args := [d1, d2, d3] }
  | _ => none }
def ReceiverWaitsWrongFalsely : Prop := receiverWaitsRow.holds Tryz.pinned (OpenSpec.ofChange receiverWaitsWrong)

/-- 'timeballlaw13.ReceiverRefuses': WHATEVER THE INPUT: true; the input reads as it did. -/
def receiverRefusesSpec : ChangeSpec := { name := "receiverRefuses", fn := fun _ => fun
  | [d1, d2, d3, d4] => { results := [.lit (.bool true)], args := [d1, d2, d3, d4] }
  | _ => none }
def receiverRefusesRow : OpenClaim := { program := "ytmblknknbbdmeaagreat", sum := "6a0c00f9d9fc79635c14ee7c55a4d438b90efb4342f1110c0a99b771f07873c4", func := "timeball/timeballlaw13.ReceiverRefuses", spec := "receiverRefuses", inPlace := ["internal/abi.NoEscape", "internal/bytealg.MakeNoZero"], unfollowed := true, recurses := true, plainKeys := false, apart := false }
def ReceiverRefusesSaid : Prop := receiverRefusesRow.holds Tryz.pinned (OpenSpec.ofChange receiverRefusesSpec)

/-- ITS FALSE NEIGHBOUR: 'it returns false'. Refute it at one input. -/
def receiverRefusesWrong : ChangeSpec := { name := "receiverRefuses", fn := fun _ => fun
  | [d1, d2, d3, d4] => { results := [.lit (.bool false)], args := [d1, d2, d3, d4] }
  | _ => none }
def ReceiverRefusesWrongFalsely : Prop := receiverRefusesRow.holds Tryz.pinned (OpenSpec.ofChange receiverRefusesWrong)

/-- 'timeballlaw13.ReceiverLate': WHATEVER THE INPUT: true; the input reads as it did. -/
def receiverLateSpec : ChangeSpec := { name := "receiverLate", fn := fun _ => fun
  | [d1, d2, d3, d4, d5] => { results := [.lit (.bool true)], args := [d1, d2, d3, d4, d5] }
  | _ => none }
def receiverLateRow : OpenClaim := { program := "ytmblknknbbdmeaagreat", sum := "6a0c00f9d9fc79635c14ee7c55a4d438b90efb4342f1110c0a99b771f07873c4", func := "timeball/timeballlaw13.ReceiverLate", spec := "receiverLate", inPlace := ["internal/abi.NoEscape", "internal/bytealg.MakeNoZero"], unfollowed := true, recurses := true, plainKeys := false, apart := false }
def ReceiverLateSaid : Prop := receiverLateRow.holds Tryz.pinned (OpenSpec.ofChange receiverLateSpec)

/-- ITS FALSE NEIGHBOUR: 'it returns false'. Refute it at one input. -/
def receiverLateWrong : ChangeSpec := { name := "receiverLate", fn := fun _ => fun
  | [d1, d2, d3, d4, d5] => { results := [.lit (.bool false)], args := [d1, d2, d3, d4, d5] }
  | _ => none }
def ReceiverLateWrongFalsely : Prop := receiverLateRow.holds Tryz.pinned (OpenSpec.ofChange receiverLateWrong)

/-- 'timeballlaw13.ReceiverMissed': WHATEVER THE INPUT: true; the input reads as it did. -/
def receiverMissedSpec : ChangeSpec := { name := "receiverMissed", fn := fun _ => fun
  | [d1, d2, d3] => { results := [.lit (.bool true)], args := [d1, d2, d3] }
  | _ => none }
def receiverMissedRow : OpenClaim := { program := "ytmblknknbbdmeaagreat", sum := "6a0c00f9d9fc79635c14ee7c55a4d438b90efb4342f1110c0a99b771f07873c4", func := "timeball/timeballlaw13.ReceiverMissed", spec := "receiverMissed", inPlace := ["internal/abi.NoEscape", "internal/bytealg.MakeNoZero"], unfollowed := true, recurses := true, plainKeys := false, apart := false }
def ReceiverMissedSaid : Prop := receiverMissedRow.holds Tryz.pinned (OpenSpec.ofChange receiverMissedSpec)

/-- ITS FALSE NEIGHBOUR: 'it returns false'. Refute it at one input. -/
def receiverMissedWrong : ChangeSpec := { name := "receiverMissed", fn := fun _ => fun
  | [d1, d2, d3] => { results := [.lit (.bool false)], args := [d1, d2, d3] }
  | _ => none }
def ReceiverMissedWrongFalsely : Prop := receiverMissedRow.holds Tryz.pinned (OpenSpec.ofChange receiverMissedWrong)

/-- 'timeballlaw13.ReceiverHears': WHATEVER THE INPUT: true; the input reads as it did. -/
def receiverHearsSpec : ChangeSpec := { name := "receiverHears", fn := fun _ => fun
  | [d1, d2, d3, d4] => { results := [.lit (.bool true)], args := [d1, d2, d3, d4] }
  | _ => none }
def receiverHearsRow : OpenClaim := { program := "ytmblknknbbdmeaagreat", sum := "6a0c00f9d9fc79635c14ee7c55a4d438b90efb4342f1110c0a99b771f07873c4", func := "timeball/timeballlaw13.ReceiverHears", spec := "receiverHears", inPlace := ["internal/abi.NoEscape", "internal/bytealg.MakeNoZero"], unfollowed := true, recurses := true, plainKeys := false, apart := false }
def ReceiverHearsSaid : Prop := receiverHearsRow.holds Tryz.pinned (OpenSpec.ofChange receiverHearsSpec)

/-- ITS FALSE NEIGHBOUR: 'it returns false'. Refute it at one input. -/
def receiverHearsWrong : ChangeSpec := { name := "receiverHears", fn := fun _ => fun
  | [d1, d2, d3, d4] => { results := [.lit (.bool false)], args := [d1, d2, d3, d4] }
  | _ => none }
def ReceiverHearsWrongFalsely : Prop := receiverHearsRow.holds Tryz.pinned (OpenSpec.ofChange receiverHearsWrong)

/-- 'timeballlaw20.WorldOthers': WHATEVER THE INPUT: true; the input reads as it did. -/
def worldOthersSpec : ChangeSpec := { name := "worldOthers", fn := fun _ => fun
  | [d1, d2] => { results := [.lit (.bool true)], args := [d1, d2] }
  | _ => none }
def worldOthersRow : OpenClaim := { program := "ytmblknknbbdmeaagreat", sum := "6a0c00f9d9fc79635c14ee7c55a4d438b90efb4342f1110c0a99b771f07873c4", func := "timeball/timeballlaw20.WorldOthers", spec := "worldOthers", inPlace := ["internal/abi.NoEscape", "internal/bytealg.MakeNoZero"], unfollowed := true, recurses := true, plainKeys := false, apart := false }
def WorldOthersSaid : Prop := worldOthersRow.holds Tryz.pinned (OpenSpec.ofChange worldOthersSpec)

/-- ITS FALSE NEIGHBOUR: 'it returns false'. Refute it at one input. -/
def worldOthersWrong : ChangeSpec := { name := "worldOthers", fn := fun _ => fun
  | [d1, d2] => { results := [.lit (.bool false)], args := [d1, d2] }
  | _ => none }
def WorldOthersWrongFalsely : Prop := worldOthersRow.holds Tryz.pinned (OpenSpec.ofChange worldOthersWrong)

/-- 'timeballlaw20.WorldClocks': WHATEVER THE INPUT: true; the input reads as it did. -/
def worldClocksSpec : ChangeSpec := { name := "worldClocks", fn := fun _ => fun
  | [d1, d2] => { results := [.lit (.bool true)], args := [d1, d2] }
  | _ => none }
def worldClocksRow : OpenClaim := { program := "ytmblknknbbdmeaagreat", sum := "6a0c00f9d9fc79635c14ee7c55a4d438b90efb4342f1110c0a99b771f07873c4", func := "timeball/timeballlaw20.WorldClocks", spec := "worldClocks", inPlace := ["internal/abi.NoEscape", "internal/bytealg.MakeNoZero"], unfollowed := true, recurses := true, plainKeys := false, apart := false }
def WorldClocksSaid : Prop := worldClocksRow.holds Tryz.pinned (OpenSpec.ofChange worldClocksSpec)

/-- ITS FALSE NEIGHBOUR: 'it returns false'. Refute it at one input. -/
def worldClocksWrong : ChangeSpec := { name := "worldClocks", fn := fun _ => fun
  | [d1, d2] => { results := [.lit (.bool false)], args := [d1, d2] }
  | _ => none }
def WorldClocksWrongFalsely : Prop := worldClocksRow.holds Tryz.pinned (OpenSpec.ofChange worldClocksWrong)

/-- 'timeballlaw20.WorldTime': WHATEVER THE INPUT: true; the input reads as it did. -/
def worldTimeSpec : ChangeSpec := { name := "worldTime", fn := fun _ => fun
  | [d1, d2] => { results := [.lit (.bool true)], args := [d1, d2] }
  | _ => none }
def worldTimeRow : OpenClaim := { program := "ytmblknknbbdmeaagreat", sum := "6a0c00f9d9fc79635c14ee7c55a4d438b90efb4342f1110c0a99b771f07873c4", func := "timeball/timeballlaw20.WorldTime", spec := "worldTime", inPlace := ["internal/abi.NoEscape", "internal/bytealg.MakeNoZero"], unfollowed := true, recurses := true, plainKeys := false, apart := false }
def WorldTimeSaid : Prop := worldTimeRow.holds Tryz.pinned (OpenSpec.ofChange worldTimeSpec)

/-- ITS FALSE NEIGHBOUR: 'it returns false'. Refute it at one input. -/
def worldTimeWrong : ChangeSpec := { name := "worldTime", fn := fun _ => fun
  | [d1, d2] => { results := [.lit (.bool false)], args := [d1, d2] }
  | _ => none }
def WorldTimeWrongFalsely : Prop := worldTimeRow.holds Tryz.pinned (OpenSpec.ofChange worldTimeWrong)

/- THE SECOND FORM. 'bulk': how many values and letters a reading holds, each counted each time it is reached (what is shared counts as often as it is met; a slice's spare places count too). A statement '..UptoSaid' is the law's where the arguments, and the package variables that the reading takes, are together of bulk at most 1048576: NARROWER than '..Said'. Prove '..Said' where nothing that the law and all that it calls make is longer than what came in: it says more and counts as full. Else prove '..UptoSaid'. A law counts once. -/
mutual
def uptoBulk {H : Type} : DataW H → Nat
  | .lit (.string bytes) => bytes.length + 1
  | .lit _ => 1
  | .nil => 1
  | .ptr d => uptoBulk d + 1
  | .slice elems spare => uptoBulkAll elems + uptoBulkAll spare + 1
  | .agg parts => uptoBulkAll parts + 1
  | .iface _ d => uptoBulk d + 1
  | .map entries => uptoBulkEntries entries + 1
  | .held _ => 1
def uptoBulkAll {H : Type} : List (DataW H) → Nat
  | [] => 0
  | d :: r => uptoBulk d + uptoBulkAll r
def uptoBulkEntries {H : Type} : List (Lit × DataW H) → Nat
  | [] => 0
  | x :: r => uptoBulkEntry x + uptoBulkEntries r
def uptoBulkEntry {H : Type} : Lit × DataW H → Nat
  | (.string bytes, d) => bytes.length + uptoBulk d + 1
  | (_, d) => uptoBulk d + 1
 end
def uptoSmall : (H : Type) → List (DataW H) → Bool := fun _ ds => decide (uptoBulkAll ds ≤ 1048576)
def OpenSpec.upto (s : _root_.Go.ChangeSpec) : _root_.Go.OpenSpec := { _root_.Go.OpenSpec.ofChange s with cond := some uptoSmall }

/-- 'timeballtop.TopClock', WHERE WHAT IT READS IS OF BULK AT MOST 1048576: true; the input reads as it did. -/
def topClockUptoRow : OpenClaim := { program := "ytmblknknbbdmeaagreat", sum := "6a0c00f9d9fc79635c14ee7c55a4d438b90efb4342f1110c0a99b771f07873c4", func := "timeball/timeballtop.TopClock", spec := "topClock", inPlace := ["internal/abi.NoEscape", "internal/bytealg.MakeNoZero"], unfollowed := true, recurses := true, plainKeys := false, apart := false, narrowed := true }
def TopClockUptoSaid : Prop := topClockUptoRow.holds Tryz.pinned (OpenSpec.upto topClockSpec)

/-- 'timeballtop.TopAnew', WHERE WHAT IT READS IS OF BULK AT MOST 1048576: true; the input reads as it did. -/
def topAnewUptoRow : OpenClaim := { program := "ytmblknknbbdmeaagreat", sum := "6a0c00f9d9fc79635c14ee7c55a4d438b90efb4342f1110c0a99b771f07873c4", func := "timeball/timeballtop.TopAnew", spec := "topAnew", inPlace := ["internal/abi.NoEscape", "internal/bytealg.MakeNoZero"], unfollowed := true, recurses := true, plainKeys := false, apart := false, narrowed := true }
def TopAnewUptoSaid : Prop := topAnewUptoRow.holds Tryz.pinned (OpenSpec.upto topAnewSpec)

/-- 'timeballtop.TopKeeps', WHERE WHAT IT READS IS OF BULK AT MOST 1048576: true; the input reads as it did. -/
def topKeepsUptoRow : OpenClaim := { program := "ytmblknknbbdmeaagreat", sum := "6a0c00f9d9fc79635c14ee7c55a4d438b90efb4342f1110c0a99b771f07873c4", func := "timeball/timeballtop.TopKeeps", spec := "topKeeps", inPlace := ["internal/abi.NoEscape", "internal/bytealg.MakeNoZero"], unfollowed := true, recurses := true, plainKeys := false, apart := false, narrowed := true }
def TopKeepsUptoSaid : Prop := topKeepsUptoRow.holds Tryz.pinned (OpenSpec.upto topKeepsSpec)

/-- 'timeballlaw13.ReceiverOnce', WHERE WHAT IT READS IS OF BULK AT MOST 1048576: true; the input reads as it did. -/
def receiverOnceUptoRow : OpenClaim := { program := "ytmblknknbbdmeaagreat", sum := "6a0c00f9d9fc79635c14ee7c55a4d438b90efb4342f1110c0a99b771f07873c4", func := "timeball/timeballlaw13.ReceiverOnce", spec := "receiverOnce", inPlace := ["internal/abi.NoEscape", "internal/bytealg.MakeNoZero"], unfollowed := true, recurses := true, plainKeys := false, apart := false, narrowed := true }
def ReceiverOnceUptoSaid : Prop := receiverOnceUptoRow.holds Tryz.pinned (OpenSpec.upto receiverOnceSpec)

/-- 'timeballlaw13.ReceiverWaits', WHERE WHAT IT READS IS OF BULK AT MOST 1048576: true; the input reads as it did. -/
def receiverWaitsUptoRow : OpenClaim := { program := "ytmblknknbbdmeaagreat", sum := "6a0c00f9d9fc79635c14ee7c55a4d438b90efb4342f1110c0a99b771f07873c4", func := "timeball/timeballlaw13.ReceiverWaits", spec := "receiverWaits", inPlace := ["internal/abi.NoEscape", "internal/bytealg.MakeNoZero"], unfollowed := true, recurses := true, plainKeys := false, apart := false, narrowed := true }
def ReceiverWaitsUptoSaid : Prop := receiverWaitsUptoRow.holds Tryz.pinned (OpenSpec.upto receiverWaitsSpec)

/-- 'timeballlaw13.ReceiverRefuses', WHERE WHAT IT READS IS OF BULK AT MOST 1048576: true; the input reads as it did. -/
def receiverRefusesUptoRow : OpenClaim := { program := "ytmblknknbbdmeaagreat", sum := "6a0c00f9d9fc79635c14ee7c55a4d438b90efb4342f1110c0a99b771f07873c4", func := "timeball/timeballlaw13.ReceiverRefuses", spec := "receiverRefuses", inPlace := ["internal/abi.NoEscape", "internal/bytealg.MakeNoZero"], unfollowed := true, recurses := true, plainKeys := false, apart := false, narrowed := true }
def ReceiverRefusesUptoSaid : Prop := receiverRefusesUptoRow.holds Tryz.pinned (OpenSpec.upto receiverRefusesSpec)

/-- 'timeballlaw13.ReceiverLate', WHERE WHAT IT READS IS OF BULK AT MOST 1048576: true; the input reads as it did. -/
def receiverLateUptoRow : OpenClaim := { program := "ytmblknknbbdmeaagreat", sum := "6a0c00f9d9fc79635c14ee7c55a4d438b90efb4342f1110c0a99b771f07873c4", func := "timeball/timeballlaw13.ReceiverLate", spec := "receiverLate", inPlace := ["internal/abi.NoEscape", "internal/bytealg.MakeNoZero"], unfollowed := true, recurses := true, plainKeys := false, apart := false, narrowed := true }
def ReceiverLateUptoSaid : Prop := receiverLateUptoRow.holds Tryz.pinned (OpenSpec.upto receiverLateSpec)

/-- 'timeballlaw13.ReceiverMissed', WHERE WHAT IT READS IS OF BULK AT MOST 1048576: true; the input reads as it did. -/
def receiverMissedUptoRow : OpenClaim := { program := "ytmblknknbbdmeaagreat", sum := "6a0c00f9d9fc79635c14ee7c55a4d438b90efb4342f1110c0a99b771f07873c4", func := "timeball/timeballlaw13.ReceiverMissed", spec := "receiverMissed", inPlace := ["internal/abi.NoEscape", "internal/bytealg.MakeNoZero"], unfollowed := true, recurses := true, plainKeys := false, apart := false, narrowed := true }
def ReceiverMissedUptoSaid : Prop := receiverMissedUptoRow.holds Tryz.pinned (OpenSpec.upto receiverMissedSpec)

/-- 'timeballlaw13.ReceiverHears', WHERE WHAT IT READS IS OF BULK AT MOST 1048576: true; the input reads as it did. -/
def receiverHearsUptoRow : OpenClaim := { program := "ytmblknknbbdmeaagreat", sum := "6a0c00f9d9fc79635c14ee7c55a4d438b90efb4342f1110c0a99b771f07873c4", func := "timeball/timeballlaw13.ReceiverHears", spec := "receiverHears", inPlace := ["internal/abi.NoEscape", "internal/bytealg.MakeNoZero"], unfollowed := true, recurses := true, plainKeys := false, apart := false, narrowed := true }
def ReceiverHearsUptoSaid : Prop := receiverHearsUptoRow.holds Tryz.pinned (OpenSpec.upto receiverHearsSpec)

/-- 'timeballlaw20.WorldOthers', WHERE WHAT IT READS IS OF BULK AT MOST 1048576: true; the input reads as it did. -/
def worldOthersUptoRow : OpenClaim := { program := "ytmblknknbbdmeaagreat", sum := "6a0c00f9d9fc79635c14ee7c55a4d438b90efb4342f1110c0a99b771f07873c4", func := "timeball/timeballlaw20.WorldOthers", spec := "worldOthers", inPlace := ["internal/abi.NoEscape", "internal/bytealg.MakeNoZero"], unfollowed := true, recurses := true, plainKeys := false, apart := false, narrowed := true }
def WorldOthersUptoSaid : Prop := worldOthersUptoRow.holds Tryz.pinned (OpenSpec.upto worldOthersSpec)

/-- 'timeballlaw20.WorldClocks', WHERE WHAT IT READS IS OF BULK AT MOST 1048576: true; the input reads as it did. -/
def worldClocksUptoRow : OpenClaim := { program := "ytmblknknbbdmeaagreat", sum := "6a0c00f9d9fc79635c14ee7c55a4d438b90efb4342f1110c0a99b771f07873c4", func := "timeball/timeballlaw20.WorldClocks", spec := "worldClocks", inPlace := ["internal/abi.NoEscape", "internal/bytealg.MakeNoZero"], unfollowed := true, recurses := true, plainKeys := false, apart := false, narrowed := true }
def WorldClocksUptoSaid : Prop := worldClocksUptoRow.holds Tryz.pinned (OpenSpec.upto worldClocksSpec)

/-- 'timeballlaw20.WorldTime', WHERE WHAT IT READS IS OF BULK AT MOST 1048576: true; the input reads as it did. -/
def worldTimeUptoRow : OpenClaim := { program := "ytmblknknbbdmeaagreat", sum := "6a0c00f9d9fc79635c14ee7c55a4d438b90efb4342f1110c0a99b771f07873c4", func := "timeball/timeballlaw20.WorldTime", spec := "worldTime", inPlace := ["internal/abi.NoEscape", "internal/bytealg.MakeNoZero"], unfollowed := true, recurses := true, plainKeys := false, apart := false, narrowed := true }
def WorldTimeUptoSaid : Prop := worldTimeUptoRow.holds Tryz.pinned (OpenSpec.upto worldTimeSpec)

end Rows
end Go.Proofs.YtmblknknbbdmeaaGreat
