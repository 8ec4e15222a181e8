/-
  No cell of these rows narrows 'for every input' (looked for: loops, veiled, ifaces, maps, wideKeys, modest, calm, conditions, laid).
  DERIVED. THE GIVEN ROWS OF THIS SEAT. 5 by the template 'for every input the law returns true; each argument reads behind the call as it read before'; 0 by the template 'total and deterministic' (their statements: YtcdlapjpnenkdaaGreatTotals.lean).
  GIVEN WITH THE SEED: the statements are not yours to turn. If you find one false, say at which input.
  Laid BY PROGRAM, IN A SANDBOX (cutbox-rows.mjs): the forced cells as the released guide's own fill.sh prints them over the translation acce2760d5f4524a… (all of the seat's roots in one cut). By AI agents, Wed Nov 11 2026. No macro, syntax, notation, axiom, sorry.
-/
import Derived.Test.YtcdlapjpnenkdaaGreatChecked
import GoSem.Claim
import GoSem.ClaimJoined
import GoSem.ClaimMapViews
import Derived.JoinedTies
import Derived.KernelRfl
namespace Go.Proofs.YtcdlapjpnenkdaaGreat
/- THE CELL 'sum', in the pinned program and in every row, IS THE sha256 OF THE DUMP (.gsa) THAT YtcdlapjpnenkdaaGreatProg.lean LOADS. Nothing in Lean hashes anything: it is a label: what it is worth is what the hold of that sum in a sandbox is worth. -/
noncomputable def Tryz.pinned : Pinned := { name := "ytcdlapjpnenkdaagreat", sum := "acce2760d5f4524a103096034ee5fa8012f513d0089ed77aea435eaedaa298a7", checked := Tryz.checked }
namespace Rows
def none {H : Type} : Left H := { results := [], args := [] }

/-- 'laws.FnExactGoodState': WHATEVER THE INPUT: true; the input reads as it did. -/
def fnExactGoodStateSpec : ChangeSpec := { name := "fnExactGoodState", fn := fun _ => fun
  | [d] => { results := [.lit (.bool true)], args := [d] }
  | _ => none }
def fnExactGoodStateRow : OpenClaim := { program := "ytcdlapjpnenkdaagreat", sum := "acce2760d5f4524a103096034ee5fa8012f513d0089ed77aea435eaedaa298a7", func := "loop.example/g00850/laws.FnExactGoodState", spec := "fnExactGoodState", inPlace := ["internal/bytealg.IndexByteString"], unfollowed := true, recurses := true, apart := false }
def FnExactGoodStateSaid : Prop := fnExactGoodStateRow.holds Tryz.pinned (OpenSpec.ofChange fnExactGoodStateSpec)

/-- ITS FALSE NEIGHBOUR: 'it returns false'. Refute it at one input. -/
def fnExactGoodStateWrong : ChangeSpec := { name := "fnExactGoodState", fn := fun _ => fun
  | [d] => { results := [.lit (.bool false)], args := [d] }
  | _ => none }
def FnExactGoodStateWrongFalsely : Prop := fnExactGoodStateRow.holds Tryz.pinned (OpenSpec.ofChange fnExactGoodStateWrong)

/-- 'laws.FnExactPrepareTime': WHATEVER THE INPUT: true; the input reads as it did. -/
def fnExactPrepareTimeSpec : ChangeSpec := { name := "fnExactPrepareTime", fn := fun _ => fun
  | [d1, d2] => { results := [.lit (.bool true)], args := [d1, d2] }
  | _ => none }
def fnExactPrepareTimeRow : OpenClaim := { program := "ytcdlapjpnenkdaagreat", sum := "acce2760d5f4524a103096034ee5fa8012f513d0089ed77aea435eaedaa298a7", func := "loop.example/g00850/laws.FnExactPrepareTime", spec := "fnExactPrepareTime", inPlace := ["internal/bytealg.IndexByteString"], unfollowed := true, recurses := true, apart := false }
def FnExactPrepareTimeSaid : Prop := fnExactPrepareTimeRow.holds Tryz.pinned (OpenSpec.ofChange fnExactPrepareTimeSpec)

/-- ITS FALSE NEIGHBOUR: 'it returns false'. Refute it at one input. -/
def fnExactPrepareTimeWrong : ChangeSpec := { name := "fnExactPrepareTime", fn := fun _ => fun
  | [d1, d2] => { results := [.lit (.bool false)], args := [d1, d2] }
  | _ => none }
def FnExactPrepareTimeWrongFalsely : Prop := fnExactPrepareTimeRow.holds Tryz.pinned (OpenSpec.ofChange fnExactPrepareTimeWrong)

/-- 'laws.FnExactOutcomeOf': WHATEVER THE INPUT: true; the input reads as it did. -/
def fnExactOutcomeOfSpec : ChangeSpec := { name := "fnExactOutcomeOf", fn := fun _ => fun
  | [d1, d2] => { results := [.lit (.bool true)], args := [d1, d2] }
  | _ => none }
def fnExactOutcomeOfRow : OpenClaim := { program := "ytcdlapjpnenkdaagreat", sum := "acce2760d5f4524a103096034ee5fa8012f513d0089ed77aea435eaedaa298a7", func := "loop.example/g00850/laws.FnExactOutcomeOf", spec := "fnExactOutcomeOf", inPlace := ["internal/bytealg.IndexByteString"], unfollowed := true, recurses := true, apart := false }
def FnExactOutcomeOfSaid : Prop := fnExactOutcomeOfRow.holds Tryz.pinned (OpenSpec.ofChange fnExactOutcomeOfSpec)

/-- ITS FALSE NEIGHBOUR: 'it returns false'. Refute it at one input. -/
def fnExactOutcomeOfWrong : ChangeSpec := { name := "fnExactOutcomeOf", fn := fun _ => fun
  | [d1, d2] => { results := [.lit (.bool false)], args := [d1, d2] }
  | _ => none }
def FnExactOutcomeOfWrongFalsely : Prop := fnExactOutcomeOfRow.holds Tryz.pinned (OpenSpec.ofChange fnExactOutcomeOfWrong)

/-- 'laws.FnExactSettledTo': WHATEVER THE INPUT: true; the input reads as it did. -/
def fnExactSettledToSpec : ChangeSpec := { name := "fnExactSettledTo", fn := fun _ => fun
  | [d] => { results := [.lit (.bool true)], args := [d] }
  | _ => none }
def fnExactSettledToRow : OpenClaim := { program := "ytcdlapjpnenkdaagreat", sum := "acce2760d5f4524a103096034ee5fa8012f513d0089ed77aea435eaedaa298a7", func := "loop.example/g00850/laws.FnExactSettledTo", spec := "fnExactSettledTo", inPlace := ["internal/bytealg.IndexByteString"], unfollowed := true, recurses := true, apart := false }
def FnExactSettledToSaid : Prop := fnExactSettledToRow.holds Tryz.pinned (OpenSpec.ofChange fnExactSettledToSpec)

/-- ITS FALSE NEIGHBOUR: 'it returns false'. Refute it at one input. -/
def fnExactSettledToWrong : ChangeSpec := { name := "fnExactSettledTo", fn := fun _ => fun
  | [d] => { results := [.lit (.bool false)], args := [d] }
  | _ => none }
def FnExactSettledToWrongFalsely : Prop := fnExactSettledToRow.holds Tryz.pinned (OpenSpec.ofChange fnExactSettledToWrong)

/-- 'laws.FnExactLeadFloor': WHATEVER THE INPUT: true; the input reads as it did. -/
def fnExactLeadFloorSpec : ChangeSpec := { name := "fnExactLeadFloor", fn := fun _ => fun
  | [d1, d2] => { results := [.lit (.bool true)], args := [d1, d2] }
  | _ => none }
def fnExactLeadFloorRow : OpenClaim := { program := "ytcdlapjpnenkdaagreat", sum := "acce2760d5f4524a103096034ee5fa8012f513d0089ed77aea435eaedaa298a7", func := "loop.example/g00850/laws.FnExactLeadFloor", spec := "fnExactLeadFloor", inPlace := ["internal/bytealg.IndexByteString"], unfollowed := true, recurses := true, apart := false }
def FnExactLeadFloorSaid : Prop := fnExactLeadFloorRow.holds Tryz.pinned (OpenSpec.ofChange fnExactLeadFloorSpec)

/-- ITS FALSE NEIGHBOUR: 'it returns false'. Refute it at one input. -/
def fnExactLeadFloorWrong : ChangeSpec := { name := "fnExactLeadFloor", fn := fun _ => fun
  | [d1, d2] => { results := [.lit (.bool false)], args := [d1, d2] }
  | _ => none }
def FnExactLeadFloorWrongFalsely : Prop := fnExactLeadFloorRow.holds Tryz.pinned (OpenSpec.ofChange fnExactLeadFloorWrong)

/- THE SECOND FORM. 'bulk': how many values and letters a reading holds, each counted each time it is reached (what is shared counts as often as it is met; a slice's spare places count too). A statement '..UptoSaid' is the law's where the arguments, and the package variables that the reading takes, are together of bulk at most 1048576: NARROWER than '..Said'. Prove '..Said' where nothing that the law and all that it calls make is longer than what came in: it says more and counts as full. Else prove '..UptoSaid'. A law counts once. -/
mutual
def uptoBulk {H : Type} : DataW H → Nat
  | .lit (.string bytes) => bytes.length + 1
  | .lit _ => 1
  | .nil => 1
  | .ptr d => uptoBulk d + 1
  | .slice elems spare => uptoBulkAll elems + uptoBulkAll spare + 1
  | .agg parts => uptoBulkAll parts + 1
  | .iface _ d => uptoBulk d + 1
  | .map entries => uptoBulkEntries entries + 1
  | .held _ => 1
def uptoBulkAll {H : Type} : List (DataW H) → Nat
  | [] => 0
  | d :: r => uptoBulk d + uptoBulkAll r
def uptoBulkEntries {H : Type} : List (Lit × DataW H) → Nat
  | [] => 0
  | x :: r => uptoBulkEntry x + uptoBulkEntries r
def uptoBulkEntry {H : Type} : Lit × DataW H → Nat
  | (.string bytes, d) => bytes.length + uptoBulk d + 1
  | (_, d) => uptoBulk d + 1
 end
def uptoSmall : (H : Type) → List (DataW H) → Bool := fun _ ds => decide (uptoBulkAll ds ≤ 1048576)
def OpenSpec.upto (s : _root_.Go.ChangeSpec) : _root_.Go.OpenSpec := { _root_.Go.OpenSpec.ofChange s with cond := some uptoSmall }

/-- 'laws.FnExactGoodState', WHERE WHAT IT READS IS OF BULK AT MOST 1048576: true; the input reads as it did. -/
def fnExactGoodStateUptoRow : OpenClaim := { program := "ytcdlapjpnenkdaagreat", sum := "acce2760d5f4524a103096034ee5fa8012f513d0089ed77aea435eaedaa298a7", func := "loop.example/g00850/laws.FnExactGoodState", spec := "fnExactGoodState", inPlace := ["internal/bytealg.IndexByteString"], unfollowed := true, recurses := true, apart := false, narrowed := true }
def FnExactGoodStateUptoSaid : Prop := fnExactGoodStateUptoRow.holds Tryz.pinned (OpenSpec.upto fnExactGoodStateSpec)

/-- 'laws.FnExactPrepareTime', WHERE WHAT IT READS IS OF BULK AT MOST 1048576: true; the input reads as it did. -/
def fnExactPrepareTimeUptoRow : OpenClaim := { program := "ytcdlapjpnenkdaagreat", sum := "acce2760d5f4524a103096034ee5fa8012f513d0089ed77aea435eaedaa298a7", func := "loop.example/g00850/laws.FnExactPrepareTime", spec := "fnExactPrepareTime", inPlace := ["internal/bytealg.IndexByteString"], unfollowed := true, recurses := true, apart := false, narrowed := true }
def FnExactPrepareTimeUptoSaid : Prop := fnExactPrepareTimeUptoRow.holds Tryz.pinned (OpenSpec.upto fnExactPrepareTimeSpec)

/-- 'laws.FnExactOutcomeOf', WHERE WHAT IT READS IS OF BULK AT MOST 1048576: true; the input reads as it did. -/
def fnExactOutcomeOfUptoRow : OpenClaim := { program := "ytcdlapjpnenkdaagreat", sum := "acce2760d5f4524a103096034ee5fa8012f513d0089ed77aea435eaedaa298a7", func := "loop.example/g00850/laws.FnExactOutcomeOf", spec := "fnExactOutcomeOf", inPlace := ["internal/bytealg.IndexByteString"], unfollowed := true, recurses := true, apart := false, narrowed := true }
def FnExactOutcomeOfUptoSaid : Prop := fnExactOutcomeOfUptoRow.holds Tryz.pinned (OpenSpec.upto fnExactOutcomeOfSpec)

/-- 'laws.FnExactSettledTo', WHERE WHAT IT READS IS OF BULK AT MOST 1048576: true; the input reads as it did. -/
def fnExactSettledToUptoRow : OpenClaim := { program := "ytcdlapjpnenkdaagreat", sum := "acce2760d5f4524a103096034ee5fa8012f513d0089ed77aea435eaedaa298a7", func := "loop.example/g00850/laws.FnExactSettledTo", spec := "fnExactSettledTo", inPlace := ["internal/bytealg.IndexByteString"], unfollowed := true, recurses := true, apart := false, narrowed := true }
def FnExactSettledToUptoSaid : Prop := fnExactSettledToUptoRow.holds Tryz.pinned (OpenSpec.upto fnExactSettledToSpec)

/-- 'laws.FnExactLeadFloor', WHERE WHAT IT READS IS OF BULK AT MOST 1048576: true; the input reads as it did. -/
def fnExactLeadFloorUptoRow : OpenClaim := { program := "ytcdlapjpnenkdaagreat", sum := "acce2760d5f4524a103096034ee5fa8012f513d0089ed77aea435eaedaa298a7", func := "loop.example/g00850/laws.FnExactLeadFloor", spec := "fnExactLeadFloor", inPlace := ["internal/bytealg.IndexByteString"], unfollowed := true, recurses := true, apart := false, narrowed := true }
def FnExactLeadFloorUptoSaid : Prop := fnExactLeadFloorUptoRow.holds Tryz.pinned (OpenSpec.upto fnExactLeadFloorSpec)

end Rows
end Go.Proofs.YtcdlapjpnenkdaaGreat
