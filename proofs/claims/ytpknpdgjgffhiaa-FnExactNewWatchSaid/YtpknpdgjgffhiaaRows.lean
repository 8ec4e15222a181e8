/-
  No cell of these rows narrows 'for every input' (looked for: loops, veiled, ifaces, maps, wideKeys, modest, calm, conditions, laid).
  DERIVED. THE GIVEN ROWS OF THIS SEAT. 12 by the template 'for every input the law returns true; each argument reads behind the call as it read before'; 0 by the template 'total and deterministic' (their statements: YtpknpdgjgffhiaaTotals.lean).
  GIVEN WITH THE SEED: the statements are not yours to turn. If you find one false, say at which input.
  Laid BY PROGRAM, IN A SANDBOX (cutbox-rows.mjs): the forced cells as the released guide's own fill.sh prints them over the translation d8042aa3ed4ef596… (all of the seat's roots in one cut). By AI agents, Wed Nov 11 2026. No macro, syntax, notation, axiom, sorry.
-/
import Derived.Test.YtpknpdgjgffhiaaChecked
import GoSem.Claim
import GoSem.ClaimJoined
import GoSem.ClaimMapViews
import Derived.JoinedTies
import Derived.KernelRfl
namespace Go.Proofs.Ytpknpdgjgffhiaa
/- THE CELL 'sum', in the pinned program and in every row, IS THE sha256 OF THE DUMP (.gsa) THAT YtpknpdgjgffhiaaProg.lean LOADS. Nothing in Lean hashes anything: it is a label: what it is worth is what the hold of that sum in a sandbox is worth. -/
noncomputable def Try.pinned : Pinned := { name := "ytpknpdgjgffhiaa", sum := "d8042aa3ed4ef596da3b9519d1656276ace20f9f76d313135f7c00f5093cafd4", checked := Try.checked }
namespace Rows
def none {H : Type} : Left H := { results := [], args := [] }

/-- 'laws.FnExactGoodCuts': WHATEVER THE INPUT: true; the input reads as it did. -/
def fnExactGoodCutsSpec : ChangeSpec := { name := "fnExactGoodCuts", fn := fun _ => fun
  | [d] => { results := [.lit (.bool true)], args := [d] }
  | _ => none }
def fnExactGoodCutsRow : OpenClaim := { program := "ytpknpdgjgffhiaa", sum := "d8042aa3ed4ef596da3b9519d1656276ace20f9f76d313135f7c00f5093cafd4", func := "loop.example/g00850/laws.FnExactGoodCuts", spec := "fnExactGoodCuts", inPlace := ["internal/bytealg.IndexByteString"], apart := false }
def FnExactGoodCutsSaid : Prop := fnExactGoodCutsRow.holds Try.pinned (OpenSpec.ofChange fnExactGoodCutsSpec)

/-- ITS FALSE NEIGHBOUR: 'it returns false'. Refute it at one input. -/
def fnExactGoodCutsWrong : ChangeSpec := { name := "fnExactGoodCuts", fn := fun _ => fun
  | [d] => { results := [.lit (.bool false)], args := [d] }
  | _ => none }
def FnExactGoodCutsWrongFalsely : Prop := fnExactGoodCutsRow.holds Try.pinned (OpenSpec.ofChange fnExactGoodCutsWrong)

/-- 'laws.FnExactDecideTime': WHATEVER THE INPUT: true; the input reads as it did. -/
def fnExactDecideTimeSpec : ChangeSpec := { name := "fnExactDecideTime", fn := fun _ => fun
  | [d1, d2] => { results := [.lit (.bool true)], args := [d1, d2] }
  | _ => none }
def fnExactDecideTimeRow : OpenClaim := { program := "ytpknpdgjgffhiaa", sum := "d8042aa3ed4ef596da3b9519d1656276ace20f9f76d313135f7c00f5093cafd4", func := "loop.example/g00850/laws.FnExactDecideTime", spec := "fnExactDecideTime", unfollowed := true, recurses := true, apart := false }
def FnExactDecideTimeSaid : Prop := fnExactDecideTimeRow.holds Try.pinned (OpenSpec.ofChange fnExactDecideTimeSpec)

/-- ITS FALSE NEIGHBOUR: 'it returns false'. Refute it at one input. -/
def fnExactDecideTimeWrong : ChangeSpec := { name := "fnExactDecideTime", fn := fun _ => fun
  | [d1, d2] => { results := [.lit (.bool false)], args := [d1, d2] }
  | _ => none }
def FnExactDecideTimeWrongFalsely : Prop := fnExactDecideTimeRow.holds Try.pinned (OpenSpec.ofChange fnExactDecideTimeWrong)

/-- 'laws.FnExactPartOf': WHATEVER THE INPUT: true; the input reads as it did. -/
def fnExactPartOfSpec : ChangeSpec := { name := "fnExactPartOf", fn := fun _ => fun
  | [d1, d2] => { results := [.lit (.bool true)], args := [d1, d2] }
  | _ => none }
def fnExactPartOfRow : OpenClaim := { program := "ytpknpdgjgffhiaa", sum := "d8042aa3ed4ef596da3b9519d1656276ace20f9f76d313135f7c00f5093cafd4", func := "loop.example/g00850/laws.FnExactPartOf", spec := "fnExactPartOf", inPlace := ["internal/bytealg.IndexByteString"], apart := false }
def FnExactPartOfSaid : Prop := fnExactPartOfRow.holds Try.pinned (OpenSpec.ofChange fnExactPartOfSpec)

/-- ITS FALSE NEIGHBOUR: 'it returns false'. Refute it at one input. -/
def fnExactPartOfWrong : ChangeSpec := { name := "fnExactPartOf", fn := fun _ => fun
  | [d1, d2] => { results := [.lit (.bool false)], args := [d1, d2] }
  | _ => none }
def FnExactPartOfWrongFalsely : Prop := fnExactPartOfRow.holds Try.pinned (OpenSpec.ofChange fnExactPartOfWrong)

/-- 'laws.FnExactGoodLocks': WHATEVER THE INPUT: true; the input reads as it did. -/
def fnExactGoodLocksSpec : ChangeSpec := { name := "fnExactGoodLocks", fn := fun _ => fun
  | [d] => { results := [.lit (.bool true)], args := [d] }
  | _ => none }
def fnExactGoodLocksRow : OpenClaim := { program := "ytpknpdgjgffhiaa", sum := "d8042aa3ed4ef596da3b9519d1656276ace20f9f76d313135f7c00f5093cafd4", func := "loop.example/g00850/laws.FnExactGoodLocks", spec := "fnExactGoodLocks", inPlace := ["internal/bytealg.IndexByteString"], unfollowed := true, recurses := true, apart := false }
def FnExactGoodLocksSaid : Prop := fnExactGoodLocksRow.holds Try.pinned (OpenSpec.ofChange fnExactGoodLocksSpec)

/-- ITS FALSE NEIGHBOUR: 'it returns false'. Refute it at one input. -/
def fnExactGoodLocksWrong : ChangeSpec := { name := "fnExactGoodLocks", fn := fun _ => fun
  | [d] => { results := [.lit (.bool false)], args := [d] }
  | _ => none }
def FnExactGoodLocksWrongFalsely : Prop := fnExactGoodLocksRow.holds Try.pinned (OpenSpec.ofChange fnExactGoodLocksWrong)

/-- 'laws.FnExactGoodWatch': WHATEVER THE INPUT: true; the input reads as it did. -/
def fnExactGoodWatchSpec : ChangeSpec := { name := "fnExactGoodWatch", fn := fun _ => fun
  | [d] => { results := [.lit (.bool true)], args := [d] }
  | _ => none }
def fnExactGoodWatchRow : OpenClaim := { program := "ytpknpdgjgffhiaa", sum := "d8042aa3ed4ef596da3b9519d1656276ace20f9f76d313135f7c00f5093cafd4", func := "loop.example/g00850/laws.FnExactGoodWatch", spec := "fnExactGoodWatch", unfollowed := true, recurses := true, apart := false }
def FnExactGoodWatchSaid : Prop := fnExactGoodWatchRow.holds Try.pinned (OpenSpec.ofChange fnExactGoodWatchSpec)

/-- ITS FALSE NEIGHBOUR: 'it returns false'. Refute it at one input. -/
def fnExactGoodWatchWrong : ChangeSpec := { name := "fnExactGoodWatch", fn := fun _ => fun
  | [d] => { results := [.lit (.bool false)], args := [d] }
  | _ => none }
def FnExactGoodWatchWrongFalsely : Prop := fnExactGoodWatchRow.holds Try.pinned (OpenSpec.ofChange fnExactGoodWatchWrong)

/-- 'laws.FnExactGoodNet': WHATEVER THE INPUT: true; the input reads as it did. -/
def fnExactGoodNetSpec : ChangeSpec := { name := "fnExactGoodNet", fn := fun _ => fun
  | [d] => { results := [.lit (.bool true)], args := [d] }
  | _ => none }
def fnExactGoodNetRow : OpenClaim := { program := "ytpknpdgjgffhiaa", sum := "d8042aa3ed4ef596da3b9519d1656276ace20f9f76d313135f7c00f5093cafd4", func := "loop.example/g00850/laws.FnExactGoodNet", spec := "fnExactGoodNet", unfollowed := true, recurses := true, apart := false }
def FnExactGoodNetSaid : Prop := fnExactGoodNetRow.holds Try.pinned (OpenSpec.ofChange fnExactGoodNetSpec)

/-- ITS FALSE NEIGHBOUR: 'it returns false'. Refute it at one input. -/
def fnExactGoodNetWrong : ChangeSpec := { name := "fnExactGoodNet", fn := fun _ => fun
  | [d] => { results := [.lit (.bool false)], args := [d] }
  | _ => none }
def FnExactGoodNetWrongFalsely : Prop := fnExactGoodNetRow.holds Try.pinned (OpenSpec.ofChange fnExactGoodNetWrong)

/-- 'laws.FnExactHoldsLease': WHATEVER THE INPUT: true; the input reads as it did. -/
def fnExactHoldsLeaseSpec : ChangeSpec := { name := "fnExactHoldsLease", fn := fun _ => fun
  | [d1, d2] => { results := [.lit (.bool true)], args := [d1, d2] }
  | _ => none }
def fnExactHoldsLeaseRow : OpenClaim := { program := "ytpknpdgjgffhiaa", sum := "d8042aa3ed4ef596da3b9519d1656276ace20f9f76d313135f7c00f5093cafd4", func := "loop.example/g00850/laws.FnExactHoldsLease", spec := "fnExactHoldsLease", unfollowed := true, recurses := true, apart := false }
def FnExactHoldsLeaseSaid : Prop := fnExactHoldsLeaseRow.holds Try.pinned (OpenSpec.ofChange fnExactHoldsLeaseSpec)

/-- ITS FALSE NEIGHBOUR: 'it returns false'. Refute it at one input. -/
def fnExactHoldsLeaseWrong : ChangeSpec := { name := "fnExactHoldsLease", fn := fun _ => fun
  | [d1, d2] => { results := [.lit (.bool false)], args := [d1, d2] }
  | _ => none }
def FnExactHoldsLeaseWrongFalsely : Prop := fnExactHoldsLeaseRow.holds Try.pinned (OpenSpec.ofChange fnExactHoldsLeaseWrong)

/-- 'laws.FnExactFindRing': WHATEVER THE INPUT: true; the input reads as it did. -/
def fnExactFindRingSpec : ChangeSpec := { name := "fnExactFindRing", fn := fun _ => fun
  | [d] => { results := [.lit (.bool true)], args := [d] }
  | _ => none }
def fnExactFindRingRow : OpenClaim := { program := "ytpknpdgjgffhiaa", sum := "d8042aa3ed4ef596da3b9519d1656276ace20f9f76d313135f7c00f5093cafd4", func := "loop.example/g00850/laws.FnExactFindRing", spec := "fnExactFindRing", unfollowed := true, recurses := true, apart := false }
def FnExactFindRingSaid : Prop := fnExactFindRingRow.holds Try.pinned (OpenSpec.ofChange fnExactFindRingSpec)

/-- ITS FALSE NEIGHBOUR: 'it returns false'. Refute it at one input. -/
def fnExactFindRingWrong : ChangeSpec := { name := "fnExactFindRing", fn := fun _ => fun
  | [d] => { results := [.lit (.bool false)], args := [d] }
  | _ => none }
def FnExactFindRingWrongFalsely : Prop := fnExactFindRingRow.holds Try.pinned (OpenSpec.ofChange fnExactFindRingWrong)

/-- 'laws.FnExactWhenFree': WHATEVER THE INPUT: true; the input reads as it did. -/
def fnExactWhenFreeSpec : ChangeSpec := { name := "fnExactWhenFree", fn := fun _ => fun
  | [d1, d2] => { results := [.lit (.bool true)], args := [d1, d2] }
  | _ => none }
def fnExactWhenFreeRow : OpenClaim := { program := "ytpknpdgjgffhiaa", sum := "d8042aa3ed4ef596da3b9519d1656276ace20f9f76d313135f7c00f5093cafd4", func := "loop.example/g00850/laws.FnExactWhenFree", spec := "fnExactWhenFree", unfollowed := true, recurses := true, apart := false }
def FnExactWhenFreeSaid : Prop := fnExactWhenFreeRow.holds Try.pinned (OpenSpec.ofChange fnExactWhenFreeSpec)

/-- ITS FALSE NEIGHBOUR: 'it returns false'. Refute it at one input. -/
def fnExactWhenFreeWrong : ChangeSpec := { name := "fnExactWhenFree", fn := fun _ => fun
  | [d1, d2] => { results := [.lit (.bool false)], args := [d1, d2] }
  | _ => none }
def FnExactWhenFreeWrongFalsely : Prop := fnExactWhenFreeRow.holds Try.pinned (OpenSpec.ofChange fnExactWhenFreeWrong)

/-- 'laws.FnExactTripOf': WHATEVER THE INPUT: true; the input reads as it did. -/
def fnExactTripOfSpec : ChangeSpec := { name := "fnExactTripOf", fn := fun _ => fun
  | [d1, d2, d3] => { results := [.lit (.bool true)], args := [d1, d2, d3] }
  | _ => none }
def fnExactTripOfRow : OpenClaim := { program := "ytpknpdgjgffhiaa", sum := "d8042aa3ed4ef596da3b9519d1656276ace20f9f76d313135f7c00f5093cafd4", func := "loop.example/g00850/laws.FnExactTripOf", spec := "fnExactTripOf", unfollowed := true, recurses := true, apart := false }
def FnExactTripOfSaid : Prop := fnExactTripOfRow.holds Try.pinned (OpenSpec.ofChange fnExactTripOfSpec)

/-- ITS FALSE NEIGHBOUR: 'it returns false'. Refute it at one input. -/
def fnExactTripOfWrong : ChangeSpec := { name := "fnExactTripOf", fn := fun _ => fun
  | [d1, d2, d3] => { results := [.lit (.bool false)], args := [d1, d2, d3] }
  | _ => none }
def FnExactTripOfWrongFalsely : Prop := fnExactTripOfRow.holds Try.pinned (OpenSpec.ofChange fnExactTripOfWrong)

/-- 'laws.FnExactNewWatch': WHATEVER THE INPUT: true; the input reads as it did. -/
def fnExactNewWatchSpec : ChangeSpec := { name := "fnExactNewWatch", fn := fun _ => fun
  | [d] => { results := [.lit (.bool true)], args := [d] }
  | _ => none }
def fnExactNewWatchRow : OpenClaim := { program := "ytpknpdgjgffhiaa", sum := "d8042aa3ed4ef596da3b9519d1656276ace20f9f76d313135f7c00f5093cafd4", func := "loop.example/g00850/laws.FnExactNewWatch", spec := "fnExactNewWatch", unfollowed := true, recurses := true, apart := false }
def FnExactNewWatchSaid : Prop := fnExactNewWatchRow.holds Try.pinned (OpenSpec.ofChange fnExactNewWatchSpec)

/-- ITS FALSE NEIGHBOUR: 'it returns false'. Refute it at one input. -/
def fnExactNewWatchWrong : ChangeSpec := { name := "fnExactNewWatch", fn := fun _ => fun
  | [d] => { results := [.lit (.bool false)], args := [d] }
  | _ => none }
def FnExactNewWatchWrongFalsely : Prop := fnExactNewWatchRow.holds Try.pinned (OpenSpec.ofChange fnExactNewWatchWrong)

/-- 'laws.FnExactLocksOf': WHATEVER THE INPUT: true; the input reads as it did. -/
def fnExactLocksOfSpec : ChangeSpec := { name := "fnExactLocksOf", fn := fun _ => fun
  | [d1, d2] => { results := [.lit (.bool true)], args := [d1, d2] }
  | _ => none }
def fnExactLocksOfRow : OpenClaim := { program := "ytpknpdgjgffhiaa", sum := "d8042aa3ed4ef596da3b9519d1656276ace20f9f76d313135f7c00f5093cafd4", func := "loop.example/g00850/laws.FnExactLocksOf", spec := "fnExactLocksOf", inPlace := ["internal/bytealg.IndexByteString"], unfollowed := true, recurses := true, apart := false }
def FnExactLocksOfSaid : Prop := fnExactLocksOfRow.holds Try.pinned (OpenSpec.ofChange fnExactLocksOfSpec)

/-- ITS FALSE NEIGHBOUR: 'it returns false'. Refute it at one input. -/
def fnExactLocksOfWrong : ChangeSpec := { name := "fnExactLocksOf", fn := fun _ => fun
  | [d1, d2] => { results := [.lit (.bool false)], args := [d1, d2] }
  | _ => none }
def FnExactLocksOfWrongFalsely : Prop := fnExactLocksOfRow.holds Try.pinned (OpenSpec.ofChange fnExactLocksOfWrong)

/- THE SECOND FORM. 'bulk': how many values and letters a reading holds, each counted each time it is reached (what is shared counts as often as it is met; a slice's spare places count too). A statement '..UptoSaid' is the law's where the arguments, and the package variables that the reading takes, are together of bulk at most 1048576: NARROWER than '..Said'. Prove '..Said' where nothing that the law and all that it calls make is longer than what came in: it says more and counts as full. Else prove '..UptoSaid'. A law counts once. -/
mutual
def uptoBulk {H : Type} : DataW H → Nat
  | .lit (.string bytes) => bytes.length + 1
  | .lit _ => 1
  | .nil => 1
  | .ptr d => uptoBulk d + 1
  | .slice elems spare => uptoBulkAll elems + uptoBulkAll spare + 1
  | .agg parts => uptoBulkAll parts + 1
  | .iface _ d => uptoBulk d + 1
  | .map entries => uptoBulkEntries entries + 1
  | .held _ => 1
def uptoBulkAll {H : Type} : List (DataW H) → Nat
  | [] => 0
  | d :: r => uptoBulk d + uptoBulkAll r
def uptoBulkEntries {H : Type} : List (Lit × DataW H) → Nat
  | [] => 0
  | x :: r => uptoBulkEntry x + uptoBulkEntries r
def uptoBulkEntry {H : Type} : Lit × DataW H → Nat
  | (.string bytes, d) => bytes.length + uptoBulk d + 1
  | (_, d) => uptoBulk d + 1
 end
def uptoSmall : (H : Type) → List (DataW H) → Bool := fun _ ds => decide (uptoBulkAll ds ≤ 1048576)
def OpenSpec.upto (s : _root_.Go.ChangeSpec) : _root_.Go.OpenSpec := { _root_.Go.OpenSpec.ofChange s with cond := some uptoSmall }

/-- 'laws.FnExactGoodCuts', WHERE WHAT IT READS IS OF BULK AT MOST 1048576: true; the input reads as it did. -/
def fnExactGoodCutsUptoRow : OpenClaim := { program := "ytpknpdgjgffhiaa", sum := "d8042aa3ed4ef596da3b9519d1656276ace20f9f76d313135f7c00f5093cafd4", func := "loop.example/g00850/laws.FnExactGoodCuts", spec := "fnExactGoodCuts", inPlace := ["internal/bytealg.IndexByteString"], apart := false, narrowed := true }
def FnExactGoodCutsUptoSaid : Prop := fnExactGoodCutsUptoRow.holds Try.pinned (OpenSpec.upto fnExactGoodCutsSpec)

/-- 'laws.FnExactDecideTime', WHERE WHAT IT READS IS OF BULK AT MOST 1048576: true; the input reads as it did. -/
def fnExactDecideTimeUptoRow : OpenClaim := { program := "ytpknpdgjgffhiaa", sum := "d8042aa3ed4ef596da3b9519d1656276ace20f9f76d313135f7c00f5093cafd4", func := "loop.example/g00850/laws.FnExactDecideTime", spec := "fnExactDecideTime", unfollowed := true, recurses := true, apart := false, narrowed := true }
def FnExactDecideTimeUptoSaid : Prop := fnExactDecideTimeUptoRow.holds Try.pinned (OpenSpec.upto fnExactDecideTimeSpec)

/-- 'laws.FnExactPartOf', WHERE WHAT IT READS IS OF BULK AT MOST 1048576: true; the input reads as it did. -/
def fnExactPartOfUptoRow : OpenClaim := { program := "ytpknpdgjgffhiaa", sum := "d8042aa3ed4ef596da3b9519d1656276ace20f9f76d313135f7c00f5093cafd4", func := "loop.example/g00850/laws.FnExactPartOf", spec := "fnExactPartOf", inPlace := ["internal/bytealg.IndexByteString"], apart := false, narrowed := true }
def FnExactPartOfUptoSaid : Prop := fnExactPartOfUptoRow.holds Try.pinned (OpenSpec.upto fnExactPartOfSpec)

/-- 'laws.FnExactGoodLocks', WHERE WHAT IT READS IS OF BULK AT MOST 1048576: true; the input reads as it did. -/
def fnExactGoodLocksUptoRow : OpenClaim := { program := "ytpknpdgjgffhiaa", sum := "d8042aa3ed4ef596da3b9519d1656276ace20f9f76d313135f7c00f5093cafd4", func := "loop.example/g00850/laws.FnExactGoodLocks", spec := "fnExactGoodLocks", inPlace := ["internal/bytealg.IndexByteString"], unfollowed := true, recurses := true, apart := false, narrowed := true }
def FnExactGoodLocksUptoSaid : Prop := fnExactGoodLocksUptoRow.holds Try.pinned (OpenSpec.upto fnExactGoodLocksSpec)

/-- 'laws.FnExactGoodWatch', WHERE WHAT IT READS IS OF BULK AT MOST 1048576: true; the input reads as it did. -/
def fnExactGoodWatchUptoRow : OpenClaim := { program := "ytpknpdgjgffhiaa", sum := "d8042aa3ed4ef596da3b9519d1656276ace20f9f76d313135f7c00f5093cafd4", func := "loop.example/g00850/laws.FnExactGoodWatch", spec := "fnExactGoodWatch", unfollowed := true, recurses := true, apart := false, narrowed := true }
def FnExactGoodWatchUptoSaid : Prop := fnExactGoodWatchUptoRow.holds Try.pinned (OpenSpec.upto fnExactGoodWatchSpec)

/-- 'laws.FnExactGoodNet', WHERE WHAT IT READS IS OF BULK AT MOST 1048576: true; the input reads as it did. -/
def fnExactGoodNetUptoRow : OpenClaim := { program := "ytpknpdgjgffhiaa", sum := "d8042aa3ed4ef596da3b9519d1656276ace20f9f76d313135f7c00f5093cafd4", func := "loop.example/g00850/laws.FnExactGoodNet", spec := "fnExactGoodNet", unfollowed := true, recurses := true, apart := false, narrowed := true }
def FnExactGoodNetUptoSaid : Prop := fnExactGoodNetUptoRow.holds Try.pinned (OpenSpec.upto fnExactGoodNetSpec)

/-- 'laws.FnExactHoldsLease', WHERE WHAT IT READS IS OF BULK AT MOST 1048576: true; the input reads as it did. -/
def fnExactHoldsLeaseUptoRow : OpenClaim := { program := "ytpknpdgjgffhiaa", sum := "d8042aa3ed4ef596da3b9519d1656276ace20f9f76d313135f7c00f5093cafd4", func := "loop.example/g00850/laws.FnExactHoldsLease", spec := "fnExactHoldsLease", unfollowed := true, recurses := true, apart := false, narrowed := true }
def FnExactHoldsLeaseUptoSaid : Prop := fnExactHoldsLeaseUptoRow.holds Try.pinned (OpenSpec.upto fnExactHoldsLeaseSpec)

/-- 'laws.FnExactFindRing', WHERE WHAT IT READS IS OF BULK AT MOST 1048576: true; the input reads as it did. -/
def fnExactFindRingUptoRow : OpenClaim := { program := "ytpknpdgjgffhiaa", sum := "d8042aa3ed4ef596da3b9519d1656276ace20f9f76d313135f7c00f5093cafd4", func := "loop.example/g00850/laws.FnExactFindRing", spec := "fnExactFindRing", unfollowed := true, recurses := true, apart := false, narrowed := true }
def FnExactFindRingUptoSaid : Prop := fnExactFindRingUptoRow.holds Try.pinned (OpenSpec.upto fnExactFindRingSpec)

/-- 'laws.FnExactWhenFree', WHERE WHAT IT READS IS OF BULK AT MOST 1048576: true; the input reads as it did. -/
def fnExactWhenFreeUptoRow : OpenClaim := { program := "ytpknpdgjgffhiaa", sum := "d8042aa3ed4ef596da3b9519d1656276ace20f9f76d313135f7c00f5093cafd4", func := "loop.example/g00850/laws.FnExactWhenFree", spec := "fnExactWhenFree", unfollowed := true, recurses := true, apart := false, narrowed := true }
def FnExactWhenFreeUptoSaid : Prop := fnExactWhenFreeUptoRow.holds Try.pinned (OpenSpec.upto fnExactWhenFreeSpec)

/-- 'laws.FnExactTripOf', WHERE WHAT IT READS IS OF BULK AT MOST 1048576: true; the input reads as it did. -/
def fnExactTripOfUptoRow : OpenClaim := { program := "ytpknpdgjgffhiaa", sum := "d8042aa3ed4ef596da3b9519d1656276ace20f9f76d313135f7c00f5093cafd4", func := "loop.example/g00850/laws.FnExactTripOf", spec := "fnExactTripOf", unfollowed := true, recurses := true, apart := false, narrowed := true }
def FnExactTripOfUptoSaid : Prop := fnExactTripOfUptoRow.holds Try.pinned (OpenSpec.upto fnExactTripOfSpec)

/-- 'laws.FnExactNewWatch', WHERE WHAT IT READS IS OF BULK AT MOST 1048576: true; the input reads as it did. -/
def fnExactNewWatchUptoRow : OpenClaim := { program := "ytpknpdgjgffhiaa", sum := "d8042aa3ed4ef596da3b9519d1656276ace20f9f76d313135f7c00f5093cafd4", func := "loop.example/g00850/laws.FnExactNewWatch", spec := "fnExactNewWatch", unfollowed := true, recurses := true, apart := false, narrowed := true }
def FnExactNewWatchUptoSaid : Prop := fnExactNewWatchUptoRow.holds Try.pinned (OpenSpec.upto fnExactNewWatchSpec)

/-- 'laws.FnExactLocksOf', WHERE WHAT IT READS IS OF BULK AT MOST 1048576: true; the input reads as it did. -/
def fnExactLocksOfUptoRow : OpenClaim := { program := "ytpknpdgjgffhiaa", sum := "d8042aa3ed4ef596da3b9519d1656276ace20f9f76d313135f7c00f5093cafd4", func := "loop.example/g00850/laws.FnExactLocksOf", spec := "fnExactLocksOf", inPlace := ["internal/bytealg.IndexByteString"], unfollowed := true, recurses := true, apart := false, narrowed := true }
def FnExactLocksOfUptoSaid : Prop := fnExactLocksOfUptoRow.holds Try.pinned (OpenSpec.upto fnExactLocksOfSpec)

end Rows
end Go.Proofs.Ytpknpdgjgffhiaa
