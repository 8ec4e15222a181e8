/-
  No cell of these rows narrows 'for every input' (looked for: loops, veiled, ifaces, maps, wideKeys, modest, calm, conditions, laid).
  DERIVED. THE GIVEN ROWS OF THIS SEAT. 7 by the template 'for every input the law returns true; each argument reads behind the call as it read before'; 0 by the template 'total and deterministic' (their statements: YtcdlapjpnenkdaaTotals.lean).
  GIVEN WITH THE SEED: the statements are not yours to turn. If you find one false, say at which input.
  Laid BY PROGRAM, IN A SANDBOX (cutbox-rows.mjs): the forced cells as the released guide's own fill.sh prints them over the translation a9bf2678c8d44291… (all of the seat's roots in one cut). By AI agents, Wed Nov 11 2026. No macro, syntax, notation, axiom, sorry.
-/
import Derived.Test.YtcdlapjpnenkdaaChecked
import GoSem.Claim
import GoSem.ClaimJoined
import GoSem.ClaimMapViews
import Derived.JoinedTies
import Derived.KernelRfl
namespace Go.Proofs.Ytcdlapjpnenkdaa
/- THE CELL 'sum', in the pinned program and in every row, IS THE sha256 OF THE DUMP (.gsa) THAT YtcdlapjpnenkdaaProg.lean LOADS. Nothing in Lean hashes anything: it is a label: what it is worth is what the hold of that sum in a sandbox is worth. -/
noncomputable def Try.pinned : Pinned := { name := "ytcdlapjpnenkdaa", sum := "a9bf2678c8d442916ae008c918f66135201aa71c6a118988752417b27f09310b", checked := Try.checked }
namespace Rows
def none {H : Type} : Left H := { results := [], args := [] }

/-- 'laws.FnExactHoldersOf': WHATEVER THE INPUT: true; the input reads as it did. -/
def fnExactHoldersOfSpec : ChangeSpec := { name := "fnExactHoldersOf", fn := fun _ => fun
  | [d] => { results := [.lit (.bool true)], args := [d] }
  | _ => none }
def fnExactHoldersOfRow : OpenClaim := { program := "ytcdlapjpnenkdaa", sum := "a9bf2678c8d442916ae008c918f66135201aa71c6a118988752417b27f09310b", func := "loop.example/g00850/laws.FnExactHoldersOf", spec := "fnExactHoldersOf", unfollowed := true, recurses := true, apart := false }
def FnExactHoldersOfSaid : Prop := fnExactHoldersOfRow.holds Try.pinned (OpenSpec.ofChange fnExactHoldersOfSpec)

/-- ITS FALSE NEIGHBOUR: 'it returns false'. Refute it at one input. -/
def fnExactHoldersOfWrong : ChangeSpec := { name := "fnExactHoldersOf", fn := fun _ => fun
  | [d] => { results := [.lit (.bool false)], args := [d] }
  | _ => none }
def FnExactHoldersOfWrongFalsely : Prop := fnExactHoldersOfRow.holds Try.pinned (OpenSpec.ofChange fnExactHoldersOfWrong)

/-- 'laws.FnExactDriftTo': WHATEVER THE INPUT: true; the input reads as it did. -/
def fnExactDriftToSpec : ChangeSpec := { name := "fnExactDriftTo", fn := fun _ => fun
  | [d1, d2, d3] => { results := [.lit (.bool true)], args := [d1, d2, d3] }
  | _ => none }
def fnExactDriftToRow : OpenClaim := { program := "ytcdlapjpnenkdaa", sum := "a9bf2678c8d442916ae008c918f66135201aa71c6a118988752417b27f09310b", func := "loop.example/g00850/laws.FnExactDriftTo", spec := "fnExactDriftTo", unfollowed := true, recurses := true, apart := false }
def FnExactDriftToSaid : Prop := fnExactDriftToRow.holds Try.pinned (OpenSpec.ofChange fnExactDriftToSpec)

/-- ITS FALSE NEIGHBOUR: 'it returns false'. Refute it at one input. -/
def fnExactDriftToWrong : ChangeSpec := { name := "fnExactDriftTo", fn := fun _ => fun
  | [d1, d2, d3] => { results := [.lit (.bool false)], args := [d1, d2, d3] }
  | _ => none }
def FnExactDriftToWrongFalsely : Prop := fnExactDriftToRow.holds Try.pinned (OpenSpec.ofChange fnExactDriftToWrong)

/-- 'laws.FnExactPassTime': WHATEVER THE INPUT: true; the input reads as it did. -/
def fnExactPassTimeSpec : ChangeSpec := { name := "fnExactPassTime", fn := fun _ => fun
  | [d1, d2] => { results := [.lit (.bool true)], args := [d1, d2] }
  | _ => none }
def fnExactPassTimeRow : OpenClaim := { program := "ytcdlapjpnenkdaa", sum := "a9bf2678c8d442916ae008c918f66135201aa71c6a118988752417b27f09310b", func := "loop.example/g00850/laws.FnExactPassTime", spec := "fnExactPassTime", unfollowed := true, recurses := true, apart := false }
def FnExactPassTimeSaid : Prop := fnExactPassTimeRow.holds Try.pinned (OpenSpec.ofChange fnExactPassTimeSpec)

/-- ITS FALSE NEIGHBOUR: 'it returns false'. Refute it at one input. -/
def fnExactPassTimeWrong : ChangeSpec := { name := "fnExactPassTime", fn := fun _ => fun
  | [d1, d2] => { results := [.lit (.bool false)], args := [d1, d2] }
  | _ => none }
def FnExactPassTimeWrongFalsely : Prop := fnExactPassTimeRow.holds Try.pinned (OpenSpec.ofChange fnExactPassTimeWrong)

/-- 'laws.FnNoTwo': WHATEVER THE INPUT: true; the input reads as it did. -/
def fnNoTwoSpec : ChangeSpec := { name := "fnNoTwo", fn := fun _ => fun
  | [d] => { results := [.lit (.bool true)], args := [d] }
  | _ => none }
def fnNoTwoRow : OpenClaim := { program := "ytcdlapjpnenkdaa", sum := "a9bf2678c8d442916ae008c918f66135201aa71c6a118988752417b27f09310b", func := "loop.example/g00850/laws.FnNoTwo", spec := "fnNoTwo", unfollowed := true, recurses := true, apart := false }
def FnNoTwoSaid : Prop := fnNoTwoRow.holds Try.pinned (OpenSpec.ofChange fnNoTwoSpec)

/-- ITS FALSE NEIGHBOUR: 'it returns false'. Refute it at one input. -/
def fnNoTwoWrong : ChangeSpec := { name := "fnNoTwo", fn := fun _ => fun
  | [d] => { results := [.lit (.bool false)], args := [d] }
  | _ => none }
def FnNoTwoWrongFalsely : Prop := fnNoTwoRow.holds Try.pinned (OpenSpec.ofChange fnNoTwoWrong)

/-- 'laws.FnExactAskLease': WHATEVER THE INPUT: true; the input reads as it did. -/
def fnExactAskLeaseSpec : ChangeSpec := { name := "fnExactAskLease", fn := fun _ => fun
  | [d1, d2, d3] => { results := [.lit (.bool true)], args := [d1, d2, d3] }
  | _ => none }
def fnExactAskLeaseRow : OpenClaim := { program := "ytcdlapjpnenkdaa", sum := "a9bf2678c8d442916ae008c918f66135201aa71c6a118988752417b27f09310b", func := "loop.example/g00850/laws.FnExactAskLease", spec := "fnExactAskLease", unfollowed := true, recurses := true, apart := false }
def FnExactAskLeaseSaid : Prop := fnExactAskLeaseRow.holds Try.pinned (OpenSpec.ofChange fnExactAskLeaseSpec)

/-- ITS FALSE NEIGHBOUR: 'it returns false'. Refute it at one input. -/
def fnExactAskLeaseWrong : ChangeSpec := { name := "fnExactAskLease", fn := fun _ => fun
  | [d1, d2, d3] => { results := [.lit (.bool false)], args := [d1, d2, d3] }
  | _ => none }
def FnExactAskLeaseWrongFalsely : Prop := fnExactAskLeaseRow.holds Try.pinned (OpenSpec.ofChange fnExactAskLeaseWrong)

/-- 'laws.FnExactGiveBack': WHATEVER THE INPUT: true; the input reads as it did. -/
def fnExactGiveBackSpec : ChangeSpec := { name := "fnExactGiveBack", fn := fun _ => fun
  | [d1, d2] => { results := [.lit (.bool true)], args := [d1, d2] }
  | _ => none }
def fnExactGiveBackRow : OpenClaim := { program := "ytcdlapjpnenkdaa", sum := "a9bf2678c8d442916ae008c918f66135201aa71c6a118988752417b27f09310b", func := "loop.example/g00850/laws.FnExactGiveBack", spec := "fnExactGiveBack", unfollowed := true, recurses := true, apart := false }
def FnExactGiveBackSaid : Prop := fnExactGiveBackRow.holds Try.pinned (OpenSpec.ofChange fnExactGiveBackSpec)

/-- ITS FALSE NEIGHBOUR: 'it returns false'. Refute it at one input. -/
def fnExactGiveBackWrong : ChangeSpec := { name := "fnExactGiveBack", fn := fun _ => fun
  | [d1, d2] => { results := [.lit (.bool false)], args := [d1, d2] }
  | _ => none }
def FnExactGiveBackWrongFalsely : Prop := fnExactGiveBackRow.holds Try.pinned (OpenSpec.ofChange fnExactGiveBackWrong)

/-- 'laws.FnExactSameState': WHATEVER THE INPUT: true; the input reads as it did. -/
def fnExactSameStateSpec : ChangeSpec := { name := "fnExactSameState", fn := fun _ => fun
  | [d1, d2] => { results := [.lit (.bool true)], args := [d1, d2] }
  | _ => none }
def fnExactSameStateRow : OpenClaim := { program := "ytcdlapjpnenkdaa", sum := "a9bf2678c8d442916ae008c918f66135201aa71c6a118988752417b27f09310b", func := "loop.example/g00850/laws.FnExactSameState", spec := "fnExactSameState", unfollowed := true, recurses := true, apart := false }
def FnExactSameStateSaid : Prop := fnExactSameStateRow.holds Try.pinned (OpenSpec.ofChange fnExactSameStateSpec)

/-- ITS FALSE NEIGHBOUR: 'it returns false'. Refute it at one input. -/
def fnExactSameStateWrong : ChangeSpec := { name := "fnExactSameState", fn := fun _ => fun
  | [d1, d2] => { results := [.lit (.bool false)], args := [d1, d2] }
  | _ => none }
def FnExactSameStateWrongFalsely : Prop := fnExactSameStateRow.holds Try.pinned (OpenSpec.ofChange fnExactSameStateWrong)

/- THE SECOND FORM. 'bulk': how many values and letters a reading holds, each counted each time it is reached (what is shared counts as often as it is met; a slice's spare places count too). A statement '..UptoSaid' is the law's where the arguments, and the package variables that the reading takes, are together of bulk at most 1048576: NARROWER than '..Said'. Prove '..Said' where nothing that the law and all that it calls make is longer than what came in: it says more and counts as full. Else prove '..UptoSaid'. A law counts once. -/
mutual
def uptoBulk {H : Type} : DataW H → Nat
  | .lit (.string bytes) => bytes.length + 1
  | .lit _ => 1
  | .nil => 1
  | .ptr d => uptoBulk d + 1
  | .slice elems spare => uptoBulkAll elems + uptoBulkAll spare + 1
  | .agg parts => uptoBulkAll parts + 1
  | .iface _ d => uptoBulk d + 1
  | .map entries => uptoBulkEntries entries + 1
  | .held _ => 1
def uptoBulkAll {H : Type} : List (DataW H) → Nat
  | [] => 0
  | d :: r => uptoBulk d + uptoBulkAll r
def uptoBulkEntries {H : Type} : List (Lit × DataW H) → Nat
  | [] => 0
  | x :: r => uptoBulkEntry x + uptoBulkEntries r
def uptoBulkEntry {H : Type} : Lit × DataW H → Nat
  | (.string bytes, d) => bytes.length + uptoBulk d + 1
  | (_, d) => uptoBulk d + 1
 end
def uptoSmall : (H : Type) → List (DataW H) → Bool := fun _ ds => decide (uptoBulkAll ds ≤ 1048576)
def OpenSpec.upto (s : _root_.Go.ChangeSpec) : _root_.Go.OpenSpec := { _root_.Go.OpenSpec.ofChange s with cond := some uptoSmall }

/-- 'laws.FnExactHoldersOf', WHERE WHAT IT READS IS OF BULK AT MOST 1048576: true; the input reads as it did. -/
def fnExactHoldersOfUptoRow : OpenClaim := { program := "ytcdlapjpnenkdaa", sum := "a9bf2678c8d442916ae008c918f66135201aa71c6a118988752417b27f09310b", func := "loop.example/g00850/laws.FnExactHoldersOf", spec := "fnExactHoldersOf", unfollowed := true, recurses := true, apart := false, narrowed := true }
def FnExactHoldersOfUptoSaid : Prop := fnExactHoldersOfUptoRow.holds Try.pinned (OpenSpec.upto fnExactHoldersOfSpec)

/-- 'laws.FnExactDriftTo', WHERE WHAT IT READS IS OF BULK AT MOST 1048576: true; the input reads as it did. -/
def fnExactDriftToUptoRow : OpenClaim := { program := "ytcdlapjpnenkdaa", sum := "a9bf2678c8d442916ae008c918f66135201aa71c6a118988752417b27f09310b", func := "loop.example/g00850/laws.FnExactDriftTo", spec := "fnExactDriftTo", unfollowed := true, recurses := true, apart := false, narrowed := true }
def FnExactDriftToUptoSaid : Prop := fnExactDriftToUptoRow.holds Try.pinned (OpenSpec.upto fnExactDriftToSpec)

/-- 'laws.FnExactPassTime', WHERE WHAT IT READS IS OF BULK AT MOST 1048576: true; the input reads as it did. -/
def fnExactPassTimeUptoRow : OpenClaim := { program := "ytcdlapjpnenkdaa", sum := "a9bf2678c8d442916ae008c918f66135201aa71c6a118988752417b27f09310b", func := "loop.example/g00850/laws.FnExactPassTime", spec := "fnExactPassTime", unfollowed := true, recurses := true, apart := false, narrowed := true }
def FnExactPassTimeUptoSaid : Prop := fnExactPassTimeUptoRow.holds Try.pinned (OpenSpec.upto fnExactPassTimeSpec)

/-- 'laws.FnNoTwo', WHERE WHAT IT READS IS OF BULK AT MOST 1048576: true; the input reads as it did. -/
def fnNoTwoUptoRow : OpenClaim := { program := "ytcdlapjpnenkdaa", sum := "a9bf2678c8d442916ae008c918f66135201aa71c6a118988752417b27f09310b", func := "loop.example/g00850/laws.FnNoTwo", spec := "fnNoTwo", unfollowed := true, recurses := true, apart := false, narrowed := true }
def FnNoTwoUptoSaid : Prop := fnNoTwoUptoRow.holds Try.pinned (OpenSpec.upto fnNoTwoSpec)

/-- 'laws.FnExactAskLease', WHERE WHAT IT READS IS OF BULK AT MOST 1048576: true; the input reads as it did. -/
def fnExactAskLeaseUptoRow : OpenClaim := { program := "ytcdlapjpnenkdaa", sum := "a9bf2678c8d442916ae008c918f66135201aa71c6a118988752417b27f09310b", func := "loop.example/g00850/laws.FnExactAskLease", spec := "fnExactAskLease", unfollowed := true, recurses := true, apart := false, narrowed := true }
def FnExactAskLeaseUptoSaid : Prop := fnExactAskLeaseUptoRow.holds Try.pinned (OpenSpec.upto fnExactAskLeaseSpec)

/-- 'laws.FnExactGiveBack', WHERE WHAT IT READS IS OF BULK AT MOST 1048576: true; the input reads as it did. -/
def fnExactGiveBackUptoRow : OpenClaim := { program := "ytcdlapjpnenkdaa", sum := "a9bf2678c8d442916ae008c918f66135201aa71c6a118988752417b27f09310b", func := "loop.example/g00850/laws.FnExactGiveBack", spec := "fnExactGiveBack", unfollowed := true, recurses := true, apart := false, narrowed := true }
def FnExactGiveBackUptoSaid : Prop := fnExactGiveBackUptoRow.holds Try.pinned (OpenSpec.upto fnExactGiveBackSpec)

/-- 'laws.FnExactSameState', WHERE WHAT IT READS IS OF BULK AT MOST 1048576: true; the input reads as it did. -/
def fnExactSameStateUptoRow : OpenClaim := { program := "ytcdlapjpnenkdaa", sum := "a9bf2678c8d442916ae008c918f66135201aa71c6a118988752417b27f09310b", func := "loop.example/g00850/laws.FnExactSameState", spec := "fnExactSameState", unfollowed := true, recurses := true, apart := false, narrowed := true }
def FnExactSameStateUptoSaid : Prop := fnExactSameStateUptoRow.holds Try.pinned (OpenSpec.upto fnExactSameStateSpec)

end Rows
end Go.Proofs.Ytcdlapjpnenkdaa
