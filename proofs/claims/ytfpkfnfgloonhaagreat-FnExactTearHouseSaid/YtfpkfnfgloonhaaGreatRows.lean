/-
  No cell of these rows narrows 'for every input' (looked for: loops, veiled, ifaces, maps, wideKeys, modest, calm, conditions, laid).
  DERIVED. THE GIVEN ROWS OF THIS SEAT. 5 by the template 'for every input the law returns true; each argument reads behind the call as it read before'; 0 by the template 'total and deterministic' (their statements: YtfpkfnfgloonhaaGreatTotals.lean).
  GIVEN WITH THE SEED: the statements are not yours to turn. If you find one false, say at which input.
  Laid BY PROGRAM, IN A SANDBOX (cutbox-rows.mjs): the forced cells as the released guide's own fill.sh prints them over the translation adb5d03af0817855… (all of the seat's roots in one cut). By AI agents, Wed Nov 11 2026. No macro, syntax, notation, axiom, sorry.
-/
import Derived.Test.YtfpkfnfgloonhaaGreatChecked
import GoSem.Claim
import GoSem.ClaimJoined
import GoSem.ClaimMapViews
import Derived.JoinedTies
import Derived.KernelRfl
namespace Go.Proofs.YtfpkfnfgloonhaaGreat
/- THE CELL 'sum', in the pinned program and in every row, IS THE sha256 OF THE DUMP (.gsa) THAT YtfpkfnfgloonhaaGreatProg.lean LOADS. Nothing in Lean hashes anything: it is a label: what it is worth is what the hold of that sum in a sandbox is worth. -/
noncomputable def Tryz.pinned : Pinned := { name := "ytfpkfnfgloonhaagreat", sum := "adb5d03af08178558f28b775a1ff5cac1dd11072347c57c604978f260e9481a1", checked := Tryz.checked }
namespace Rows
def none {H : Type} : Left H := { results := [], args := [] }

/-- 'laws.FnExactActHouse': WHATEVER THE INPUT: true; the input reads as it did. -/
def fnExactActHouseSpec : ChangeSpec := { name := "fnExactActHouse", fn := fun _ => fun
  | [d1, d2] => { results := [.lit (.bool true)], args := [d1, d2] }
  | _ => none }
def fnExactActHouseRow : OpenClaim := { program := "ytfpkfnfgloonhaagreat", sum := "adb5d03af08178558f28b775a1ff5cac1dd11072347c57c604978f260e9481a1", func := "loop.example/g00850/laws.FnExactActHouse", spec := "fnExactActHouse", inPlace := ["internal/bytealg.IndexByteString"], unfollowed := true, recurses := true, apart := false }
def FnExactActHouseSaid : Prop := fnExactActHouseRow.holds Tryz.pinned (OpenSpec.ofChange fnExactActHouseSpec)

/-- ITS FALSE NEIGHBOUR: 'it returns false'. Refute it at one input. -/
def fnExactActHouseWrong : ChangeSpec := { name := "fnExactActHouse", fn := fun _ => fun
  | [d1, d2] => { results := [.lit (.bool false)], args := [d1, d2] }
  | _ => none }
def FnExactActHouseWrongFalsely : Prop := fnExactActHouseRow.holds Tryz.pinned (OpenSpec.ofChange fnExactActHouseWrong)

/-- 'laws.FnExactPlayHouse': WHATEVER THE INPUT: true; the input reads as it did. -/
def fnExactPlayHouseSpec : ChangeSpec := { name := "fnExactPlayHouse", fn := fun _ => fun
  | [d1, d2] => { results := [.lit (.bool true)], args := [d1, d2] }
  | _ => none }
def fnExactPlayHouseRow : OpenClaim := { program := "ytfpkfnfgloonhaagreat", sum := "adb5d03af08178558f28b775a1ff5cac1dd11072347c57c604978f260e9481a1", func := "loop.example/g00850/laws.FnExactPlayHouse", spec := "fnExactPlayHouse", inPlace := ["internal/bytealg.IndexByteString"], unfollowed := true, recurses := true, apart := false }
def FnExactPlayHouseSaid : Prop := fnExactPlayHouseRow.holds Tryz.pinned (OpenSpec.ofChange fnExactPlayHouseSpec)

/-- ITS FALSE NEIGHBOUR: 'it returns false'. Refute it at one input. -/
def fnExactPlayHouseWrong : ChangeSpec := { name := "fnExactPlayHouse", fn := fun _ => fun
  | [d1, d2] => { results := [.lit (.bool false)], args := [d1, d2] }
  | _ => none }
def FnExactPlayHouseWrongFalsely : Prop := fnExactPlayHouseRow.holds Tryz.pinned (OpenSpec.ofChange fnExactPlayHouseWrong)

/-- 'laws.FnExactGoodHouse': WHATEVER THE INPUT: true; the input reads as it did. -/
def fnExactGoodHouseSpec : ChangeSpec := { name := "fnExactGoodHouse", fn := fun _ => fun
  | [d] => { results := [.lit (.bool true)], args := [d] }
  | _ => none }
def fnExactGoodHouseRow : OpenClaim := { program := "ytfpkfnfgloonhaagreat", sum := "adb5d03af08178558f28b775a1ff5cac1dd11072347c57c604978f260e9481a1", func := "loop.example/g00850/laws.FnExactGoodHouse", spec := "fnExactGoodHouse", inPlace := ["internal/bytealg.IndexByteString"], unfollowed := true, recurses := true, apart := false }
def FnExactGoodHouseSaid : Prop := fnExactGoodHouseRow.holds Tryz.pinned (OpenSpec.ofChange fnExactGoodHouseSpec)

/-- ITS FALSE NEIGHBOUR: 'it returns false'. Refute it at one input. -/
def fnExactGoodHouseWrong : ChangeSpec := { name := "fnExactGoodHouse", fn := fun _ => fun
  | [d] => { results := [.lit (.bool false)], args := [d] }
  | _ => none }
def FnExactGoodHouseWrongFalsely : Prop := fnExactGoodHouseRow.holds Tryz.pinned (OpenSpec.ofChange fnExactGoodHouseWrong)

/-- 'laws.FnExactPlayGroup': WHATEVER THE INPUT: true; the input reads as it did. -/
def fnExactPlayGroupSpec : ChangeSpec := { name := "fnExactPlayGroup", fn := fun _ => fun
  | [d1, d2] => { results := [.lit (.bool true)], args := [d1, d2] }
  | _ => none }
def fnExactPlayGroupRow : OpenClaim := { program := "ytfpkfnfgloonhaagreat", sum := "adb5d03af08178558f28b775a1ff5cac1dd11072347c57c604978f260e9481a1", func := "loop.example/g00850/laws.FnExactPlayGroup", spec := "fnExactPlayGroup", inPlace := ["internal/bytealg.IndexByteString"], unfollowed := true, recurses := true, apart := false }
def FnExactPlayGroupSaid : Prop := fnExactPlayGroupRow.holds Tryz.pinned (OpenSpec.ofChange fnExactPlayGroupSpec)

/-- ITS FALSE NEIGHBOUR: 'it returns false'. Refute it at one input. -/
def fnExactPlayGroupWrong : ChangeSpec := { name := "fnExactPlayGroup", fn := fun _ => fun
  | [d1, d2] => { results := [.lit (.bool false)], args := [d1, d2] }
  | _ => none }
def FnExactPlayGroupWrongFalsely : Prop := fnExactPlayGroupRow.holds Tryz.pinned (OpenSpec.ofChange fnExactPlayGroupWrong)

/-- 'laws.FnExactTearHouse': WHATEVER THE INPUT: true; the input reads as it did. -/
def fnExactTearHouseSpec : ChangeSpec := { name := "fnExactTearHouse", fn := fun _ => fun
  | [d1, d2, d3, d4] => { results := [.lit (.bool true)], args := [d1, d2, d3, d4] }
  | _ => none }
def fnExactTearHouseRow : OpenClaim := { program := "ytfpkfnfgloonhaagreat", sum := "adb5d03af08178558f28b775a1ff5cac1dd11072347c57c604978f260e9481a1", func := "loop.example/g00850/laws.FnExactTearHouse", spec := "fnExactTearHouse", inPlace := ["internal/bytealg.IndexByteString"], unfollowed := true, recurses := true, apart := false }
def FnExactTearHouseSaid : Prop := fnExactTearHouseRow.holds Tryz.pinned (OpenSpec.ofChange fnExactTearHouseSpec)

/-- ITS FALSE NEIGHBOUR: 'it returns false'. Refute it at one input. -/
def fnExactTearHouseWrong : ChangeSpec := { name := "fnExactTearHouse", fn := fun _ => fun
  | [d1, d2, d3, d4] => { results := [.lit (.bool false)], args := [d1, d2, d3, d4] }
  | _ => none }
def FnExactTearHouseWrongFalsely : Prop := fnExactTearHouseRow.holds Tryz.pinned (OpenSpec.ofChange fnExactTearHouseWrong)

/- THE SECOND FORM. 'bulk': how many values and letters a reading holds, each counted each time it is reached (what is shared counts as often as it is met; a slice's spare places count too). A statement '..UptoSaid' is the law's where the arguments, and the package variables that the reading takes, are together of bulk at most 1048576: NARROWER than '..Said'. Prove '..Said' where nothing that the law and all that it calls make is longer than what came in: it says more and counts as full. Else prove '..UptoSaid'. A law counts once. -/
mutual
def uptoBulk {H : Type} : DataW H → Nat
  | .lit (.string bytes) => bytes.length + 1
  | .lit _ => 1
  | .nil => 1
  | .ptr d => uptoBulk d + 1
  | .slice elems spare => uptoBulkAll elems + uptoBulkAll spare + 1
  | .agg parts => uptoBulkAll parts + 1
  | .iface _ d => uptoBulk d + 1
  | .map entries => uptoBulkEntries entries + 1
  | .held _ => 1
def uptoBulkAll {H : Type} : List (DataW H) → Nat
  | [] => 0
  | d :: r => uptoBulk d + uptoBulkAll r
def uptoBulkEntries {H : Type} : List (Lit × DataW H) → Nat
  | [] => 0
  | x :: r => uptoBulkEntry x + uptoBulkEntries r
def uptoBulkEntry {H : Type} : Lit × DataW H → Nat
  | (.string bytes, d) => bytes.length + uptoBulk d + 1
  | (_, d) => uptoBulk d + 1
 end
def uptoSmall : (H : Type) → List (DataW H) → Bool := fun _ ds => decide (uptoBulkAll ds ≤ 1048576)
def OpenSpec.upto (s : _root_.Go.ChangeSpec) : _root_.Go.OpenSpec := { _root_.Go.OpenSpec.ofChange s with cond := some uptoSmall }

/-- 'laws.FnExactActHouse', WHERE WHAT IT READS IS OF BULK AT MOST 1048576: true; the input reads as it did. -/
def fnExactActHouseUptoRow : OpenClaim := { program := "ytfpkfnfgloonhaagreat", sum := "adb5d03af08178558f28b775a1ff5cac1dd11072347c57c604978f260e9481a1", func := "loop.example/g00850/laws.FnExactActHouse", spec := "fnExactActHouse", inPlace := ["internal/bytealg.IndexByteString"], unfollowed := true, recurses := true, apart := false, narrowed := true }
def FnExactActHouseUptoSaid : Prop := fnExactActHouseUptoRow.holds Tryz.pinned (OpenSpec.upto fnExactActHouseSpec)

/-- 'laws.FnExactPlayHouse', WHERE WHAT IT READS IS OF BULK AT MOST 1048576: true; the input reads as it did. -/
def fnExactPlayHouseUptoRow : OpenClaim := { program := "ytfpkfnfgloonhaagreat", sum := "adb5d03af08178558f28b775a1ff5cac1dd11072347c57c604978f260e9481a1", func := "loop.example/g00850/laws.FnExactPlayHouse", spec := "fnExactPlayHouse", inPlace := ["internal/bytealg.IndexByteString"], unfollowed := true, recurses := true, apart := false, narrowed := true }
def FnExactPlayHouseUptoSaid : Prop := fnExactPlayHouseUptoRow.holds Tryz.pinned (OpenSpec.upto fnExactPlayHouseSpec)

/-- 'laws.FnExactGoodHouse', WHERE WHAT IT READS IS OF BULK AT MOST 1048576: true; the input reads as it did. -/
def fnExactGoodHouseUptoRow : OpenClaim := { program := "ytfpkfnfgloonhaagreat", sum := "adb5d03af08178558f28b775a1ff5cac1dd11072347c57c604978f260e9481a1", func := "loop.example/g00850/laws.FnExactGoodHouse", spec := "fnExactGoodHouse", inPlace := ["internal/bytealg.IndexByteString"], unfollowed := true, recurses := true, apart := false, narrowed := true }
def FnExactGoodHouseUptoSaid : Prop := fnExactGoodHouseUptoRow.holds Tryz.pinned (OpenSpec.upto fnExactGoodHouseSpec)

/-- 'laws.FnExactPlayGroup', WHERE WHAT IT READS IS OF BULK AT MOST 1048576: true; the input reads as it did. -/
def fnExactPlayGroupUptoRow : OpenClaim := { program := "ytfpkfnfgloonhaagreat", sum := "adb5d03af08178558f28b775a1ff5cac1dd11072347c57c604978f260e9481a1", func := "loop.example/g00850/laws.FnExactPlayGroup", spec := "fnExactPlayGroup", inPlace := ["internal/bytealg.IndexByteString"], unfollowed := true, recurses := true, apart := false, narrowed := true }
def FnExactPlayGroupUptoSaid : Prop := fnExactPlayGroupUptoRow.holds Tryz.pinned (OpenSpec.upto fnExactPlayGroupSpec)

/-- 'laws.FnExactTearHouse', WHERE WHAT IT READS IS OF BULK AT MOST 1048576: true; the input reads as it did. -/
def fnExactTearHouseUptoRow : OpenClaim := { program := "ytfpkfnfgloonhaagreat", sum := "adb5d03af08178558f28b775a1ff5cac1dd11072347c57c604978f260e9481a1", func := "loop.example/g00850/laws.FnExactTearHouse", spec := "fnExactTearHouse", inPlace := ["internal/bytealg.IndexByteString"], unfollowed := true, recurses := true, apart := false, narrowed := true }
def FnExactTearHouseUptoSaid : Prop := fnExactTearHouseUptoRow.holds Tryz.pinned (OpenSpec.upto fnExactTearHouseSpec)

end Rows
end Go.Proofs.YtfpkfnfgloonhaaGreat
