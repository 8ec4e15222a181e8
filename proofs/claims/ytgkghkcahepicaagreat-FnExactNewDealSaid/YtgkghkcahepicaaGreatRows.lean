/-
  No cell of these rows narrows 'for every input' (looked for: loops, veiled, ifaces, maps, wideKeys, modest, calm, conditions, laid).
  DERIVED. THE GIVEN ROWS OF THIS SEAT. 3 by the template 'for every input the law returns true; each argument reads behind the call as it read before'; 0 by the template 'total and deterministic' (their statements: YtgkghkcahepicaaGreatTotals.lean).
  GIVEN WITH THE SEED: the statements are not yours to turn. If you find one false, say at which input.
  Laid BY PROGRAM, IN A SANDBOX (cutbox-rows.mjs): the forced cells as the released guide's own fill.sh prints them over the translation 2cfdfe37833da3d7… (all of the seat's roots in one cut). By AI agents, Wed Nov 11 2026. No macro, syntax, notation, axiom, sorry.
-/
import Derived.Test.YtgkghkcahepicaaGreatChecked
import GoSem.Claim
import GoSem.ClaimJoined
import GoSem.ClaimMapViews
import Derived.JoinedTies
import Derived.KernelRfl
namespace Go.Proofs.YtgkghkcahepicaaGreat
/- THE CELL 'sum', in the pinned program and in every row, IS THE sha256 OF THE DUMP (.gsa) THAT YtgkghkcahepicaaGreatProg.lean LOADS. Nothing in Lean hashes anything: it is a label: what it is worth is what the hold of that sum in a sandbox is worth. -/
noncomputable def Tryz.pinned : Pinned := { name := "ytgkghkcahepicaagreat", sum := "2cfdfe37833da3d770a8b26d2e8ae5cb6a13469a12074de36233b124f48578f9", checked := Tryz.checked }
namespace Rows
def none {H : Type} : Left H := { results := [], args := [] }

/-- 'laws.FnExactDealRows': WHATEVER THE INPUT: true; the input reads as it did. -/
def fnExactDealRowsSpec : ChangeSpec := { name := "fnExactDealRows", fn := fun _ => fun
  | [d1, d2] => { results := [.lit (.bool true)], args := [d1, d2] }
  | _ => none }
def fnExactDealRowsRow : OpenClaim := { program := "ytgkghkcahepicaagreat", sum := "2cfdfe37833da3d770a8b26d2e8ae5cb6a13469a12074de36233b124f48578f9", func := "loop.example/g00850/laws.FnExactDealRows", spec := "fnExactDealRows", inPlace := ["internal/bytealg.IndexByteString", "slices.overlaps[loop.example/g00850/impl.Write]"], unfollowed := true, recurses := true, apart := false }
def FnExactDealRowsSaid : Prop := fnExactDealRowsRow.holds Tryz.pinned (OpenSpec.ofChange fnExactDealRowsSpec)

/-- ITS FALSE NEIGHBOUR: 'it returns false'. Refute it at one input. -/
def fnExactDealRowsWrong : ChangeSpec := { name := "fnExactDealRows", fn := fun _ => fun
  | [d1, d2] => { results := [.lit (.bool false)], args := [d1, d2] }
  | _ => none }
def FnExactDealRowsWrongFalsely : Prop := fnExactDealRowsRow.holds Tryz.pinned (OpenSpec.ofChange fnExactDealRowsWrong)

/-- 'laws.FnExactNewDeal': WHATEVER THE INPUT: true; the input reads as it did. -/
def fnExactNewDealSpec : ChangeSpec := { name := "fnExactNewDeal", fn := fun _ => fun
  | [d1, d2] => { results := [.lit (.bool true)], args := [d1, d2] }
  | _ => none }
def fnExactNewDealRow : OpenClaim := { program := "ytgkghkcahepicaagreat", sum := "2cfdfe37833da3d770a8b26d2e8ae5cb6a13469a12074de36233b124f48578f9", func := "loop.example/g00850/laws.FnExactNewDeal", spec := "fnExactNewDeal", inPlace := ["internal/bytealg.IndexByteString"], unfollowed := true, recurses := true, apart := false }
def FnExactNewDealSaid : Prop := fnExactNewDealRow.holds Tryz.pinned (OpenSpec.ofChange fnExactNewDealSpec)

/-- ITS FALSE NEIGHBOUR: 'it returns false'. Refute it at one input. -/
def fnExactNewDealWrong : ChangeSpec := { name := "fnExactNewDeal", fn := fun _ => fun
  | [d1, d2] => { results := [.lit (.bool false)], args := [d1, d2] }
  | _ => none }
def FnExactNewDealWrongFalsely : Prop := fnExactNewDealRow.holds Tryz.pinned (OpenSpec.ofChange fnExactNewDealWrong)

/-- 'laws.FnExactAgreeDeal': WHATEVER THE INPUT: true; the input reads as it did. -/
def fnExactAgreeDealSpec : ChangeSpec := { name := "fnExactAgreeDeal", fn := fun _ => fun
  | [d] => { results := [.lit (.bool true)], args := [d] }
  | _ => none }
def fnExactAgreeDealRow : OpenClaim := { program := "ytgkghkcahepicaagreat", sum := "2cfdfe37833da3d770a8b26d2e8ae5cb6a13469a12074de36233b124f48578f9", func := "loop.example/g00850/laws.FnExactAgreeDeal", spec := "fnExactAgreeDeal", inPlace := ["internal/bytealg.IndexByteString"], unfollowed := true, recurses := true, apart := false }
def FnExactAgreeDealSaid : Prop := fnExactAgreeDealRow.holds Tryz.pinned (OpenSpec.ofChange fnExactAgreeDealSpec)

/-- ITS FALSE NEIGHBOUR: 'it returns false'. Refute it at one input. -/
def fnExactAgreeDealWrong : ChangeSpec := { name := "fnExactAgreeDeal", fn := fun _ => fun
  | [d] => { results := [.lit (.bool false)], args := [d] }
  | _ => none }
def FnExactAgreeDealWrongFalsely : Prop := fnExactAgreeDealRow.holds Tryz.pinned (OpenSpec.ofChange fnExactAgreeDealWrong)

/- THE SECOND FORM. 'bulk': how many values and letters a reading holds, each counted each time it is reached (what is shared counts as often as it is met; a slice's spare places count too). A statement '..UptoSaid' is the law's where the arguments, and the package variables that the reading takes, are together of bulk at most 1048576: NARROWER than '..Said'. Prove '..Said' where nothing that the law and all that it calls make is longer than what came in: it says more and counts as full. Else prove '..UptoSaid'. A law counts once. -/
mutual
def uptoBulk {H : Type} : DataW H → Nat
  | .lit (.string bytes) => bytes.length + 1
  | .lit _ => 1
  | .nil => 1
  | .ptr d => uptoBulk d + 1
  | .slice elems spare => uptoBulkAll elems + uptoBulkAll spare + 1
  | .agg parts => uptoBulkAll parts + 1
  | .iface _ d => uptoBulk d + 1
  | .map entries => uptoBulkEntries entries + 1
  | .held _ => 1
def uptoBulkAll {H : Type} : List (DataW H) → Nat
  | [] => 0
  | d :: r => uptoBulk d + uptoBulkAll r
def uptoBulkEntries {H : Type} : List (Lit × DataW H) → Nat
  | [] => 0
  | x :: r => uptoBulkEntry x + uptoBulkEntries r
def uptoBulkEntry {H : Type} : Lit × DataW H → Nat
  | (.string bytes, d) => bytes.length + uptoBulk d + 1
  | (_, d) => uptoBulk d + 1
 end
def uptoSmall : (H : Type) → List (DataW H) → Bool := fun _ ds => decide (uptoBulkAll ds ≤ 1048576)
def OpenSpec.upto (s : _root_.Go.ChangeSpec) : _root_.Go.OpenSpec := { _root_.Go.OpenSpec.ofChange s with cond := some uptoSmall }

/-- 'laws.FnExactDealRows', WHERE WHAT IT READS IS OF BULK AT MOST 1048576: true; the input reads as it did. -/
def fnExactDealRowsUptoRow : OpenClaim := { program := "ytgkghkcahepicaagreat", sum := "2cfdfe37833da3d770a8b26d2e8ae5cb6a13469a12074de36233b124f48578f9", func := "loop.example/g00850/laws.FnExactDealRows", spec := "fnExactDealRows", inPlace := ["internal/bytealg.IndexByteString", "slices.overlaps[loop.example/g00850/impl.Write]"], unfollowed := true, recurses := true, apart := false, narrowed := true }
def FnExactDealRowsUptoSaid : Prop := fnExactDealRowsUptoRow.holds Tryz.pinned (OpenSpec.upto fnExactDealRowsSpec)

/-- 'laws.FnExactNewDeal', WHERE WHAT IT READS IS OF BULK AT MOST 1048576: true; the input reads as it did. -/
def fnExactNewDealUptoRow : OpenClaim := { program := "ytgkghkcahepicaagreat", sum := "2cfdfe37833da3d770a8b26d2e8ae5cb6a13469a12074de36233b124f48578f9", func := "loop.example/g00850/laws.FnExactNewDeal", spec := "fnExactNewDeal", inPlace := ["internal/bytealg.IndexByteString"], unfollowed := true, recurses := true, apart := false, narrowed := true }
def FnExactNewDealUptoSaid : Prop := fnExactNewDealUptoRow.holds Tryz.pinned (OpenSpec.upto fnExactNewDealSpec)

/-- 'laws.FnExactAgreeDeal', WHERE WHAT IT READS IS OF BULK AT MOST 1048576: true; the input reads as it did. -/
def fnExactAgreeDealUptoRow : OpenClaim := { program := "ytgkghkcahepicaagreat", sum := "2cfdfe37833da3d770a8b26d2e8ae5cb6a13469a12074de36233b124f48578f9", func := "loop.example/g00850/laws.FnExactAgreeDeal", spec := "fnExactAgreeDeal", inPlace := ["internal/bytealg.IndexByteString"], unfollowed := true, recurses := true, apart := false, narrowed := true }
def FnExactAgreeDealUptoSaid : Prop := fnExactAgreeDealUptoRow.holds Tryz.pinned (OpenSpec.upto fnExactAgreeDealSpec)

end Rows
end Go.Proofs.YtgkghkcahepicaaGreat
