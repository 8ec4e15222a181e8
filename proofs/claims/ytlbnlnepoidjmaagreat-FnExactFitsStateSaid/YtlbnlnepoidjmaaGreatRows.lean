/-
  No cell of these rows narrows 'for every input' (looked for: loops, veiled, ifaces, maps, wideKeys, modest, calm, conditions, laid).
  DERIVED. THE GIVEN ROWS OF THIS SEAT. 3 by the template 'for every input the law returns true; each argument reads behind the call as it read before'; 0 by the template 'total and deterministic' (their statements: YtlbnlnepoidjmaaGreatTotals.lean).
  GIVEN WITH THE SEED: the statements are not yours to turn. If you find one false, say at which input.
  Laid BY PROGRAM, IN A SANDBOX (cutbox-rows.mjs): the forced cells as the released guide's own fill.sh prints them over the translation 7d7a267ab4fa7b71… (all of the seat's roots in one cut). By AI agents, Wed Nov 11 2026. No macro, syntax, notation, axiom, sorry.
-/
import Derived.Test.YtlbnlnepoidjmaaGreatChecked
import GoSem.Claim
import GoSem.ClaimJoined
import GoSem.ClaimMapViews
import Derived.JoinedTies
import Derived.KernelRfl
namespace Go.Proofs.YtlbnlnepoidjmaaGreat
/- THE CELL 'sum', in the pinned program and in every row, IS THE sha256 OF THE DUMP (.gsa) THAT YtlbnlnepoidjmaaGreatProg.lean LOADS. Nothing in Lean hashes anything: it is a label: what it is worth is what the hold of that sum in a sandbox is worth. -/
noncomputable def Tryz.pinned : Pinned := { name := "ytlbnlnepoidjmaagreat", sum := "7d7a267ab4fa7b71cba0e1a27ee16ae5f32495c5d5cd71ba182f42e6254171e8", checked := Tryz.checked }
namespace Rows
def none {H : Type} : Left H := { results := [], args := [] }

/-- 'laws.FnExactFitsState': WHATEVER THE INPUT: true; the input reads as it did. -/
def fnExactFitsStateSpec : ChangeSpec := { name := "fnExactFitsState", fn := fun _ => fun
  | [d1, d2, d3] => { results := [.lit (.bool true)], args := [d1, d2, d3] }
  | _ => none }
def fnExactFitsStateRow : OpenClaim := { program := "ytlbnlnepoidjmaagreat", sum := "7d7a267ab4fa7b71cba0e1a27ee16ae5f32495c5d5cd71ba182f42e6254171e8", func := "loop.example/g00850/laws.FnExactFitsState", spec := "fnExactFitsState", inPlace := ["internal/bytealg.IndexByteString"], unfollowed := true, recurses := true, apart := false }
def FnExactFitsStateSaid : Prop := fnExactFitsStateRow.holds Tryz.pinned (OpenSpec.ofChange fnExactFitsStateSpec)

/-- ITS FALSE NEIGHBOUR: 'it returns false'. Refute it at one input. -/
def fnExactFitsStateWrong : ChangeSpec := { name := "fnExactFitsState", fn := fun _ => fun
  | [d1, d2, d3] => { results := [.lit (.bool false)], args := [d1, d2, d3] }
  | _ => none }
def FnExactFitsStateWrongFalsely : Prop := fnExactFitsStateRow.holds Tryz.pinned (OpenSpec.ofChange fnExactFitsStateWrong)

/-- 'laws.FnExactNewDeal': WHATEVER THE INPUT: true; the input reads as it did. -/
def fnExactNewDealSpec : ChangeSpec := { name := "fnExactNewDeal", fn := fun _ => fun
  | [d1, d2] => { results := [.lit (.bool true)], args := [d1, d2] }
  | _ => none }
def fnExactNewDealRow : OpenClaim := { program := "ytlbnlnepoidjmaagreat", sum := "7d7a267ab4fa7b71cba0e1a27ee16ae5f32495c5d5cd71ba182f42e6254171e8", func := "loop.example/g00850/laws.FnExactNewDeal", spec := "fnExactNewDeal", inPlace := ["internal/bytealg.IndexByteString"], unfollowed := true, recurses := true, apart := false }
def FnExactNewDealSaid : Prop := fnExactNewDealRow.holds Tryz.pinned (OpenSpec.ofChange fnExactNewDealSpec)

/-- ITS FALSE NEIGHBOUR: 'it returns false'. Refute it at one input. -/
def fnExactNewDealWrong : ChangeSpec := { name := "fnExactNewDeal", fn := fun _ => fun
  | [d1, d2] => { results := [.lit (.bool false)], args := [d1, d2] }
  | _ => none }
def FnExactNewDealWrongFalsely : Prop := fnExactNewDealRow.holds Tryz.pinned (OpenSpec.ofChange fnExactNewDealWrong)

/-- 'laws.FnExactAgreeDeal': WHATEVER THE INPUT: true; the input reads as it did. -/
def fnExactAgreeDealSpec : ChangeSpec := { name := "fnExactAgreeDeal", fn := fun _ => fun
  | [d] => { results := [.lit (.bool true)], args := [d] }
  | _ => none }
def fnExactAgreeDealRow : OpenClaim := { program := "ytlbnlnepoidjmaagreat", sum := "7d7a267ab4fa7b71cba0e1a27ee16ae5f32495c5d5cd71ba182f42e6254171e8", func := "loop.example/g00850/laws.FnExactAgreeDeal", spec := "fnExactAgreeDeal", inPlace := ["internal/bytealg.IndexByteString"], unfollowed := true, recurses := true, apart := false }
def FnExactAgreeDealSaid : Prop := fnExactAgreeDealRow.holds Tryz.pinned (OpenSpec.ofChange fnExactAgreeDealSpec)

/-- ITS FALSE NEIGHBOUR: 'it returns false'. Refute it at one input. -/
def fnExactAgreeDealWrong : ChangeSpec := { name := "fnExactAgreeDeal", fn := fun _ => fun
  | [d] => { results := [.lit (.bool false)], args := [d] }
  | _ => none }
def FnExactAgreeDealWrongFalsely : Prop := fnExactAgreeDealRow.holds Tryz.pinned (OpenSpec.ofChange fnExactAgreeDealWrong)

/- THE SECOND FORM. 'bulk': how many values and letters a reading holds, each counted each time it is reached (what is shared counts as often as it is met; a slice's spare places count too). A statement '..UptoSaid' is the law's where the arguments, and the package variables that the reading takes, are together of bulk at most 1048576: NARROWER than '..Said'. Prove '..Said' where nothing that the law and all that it calls make is longer than what came in: it says more and counts as full. Else prove '..UptoSaid'. A law counts once. -/
mutual
def uptoBulk {H : Type} : DataW H → Nat
  | .lit (.string bytes) => bytes.length + 1
  | .lit _ => 1
  | .nil => 1
  | .ptr d => uptoBulk d + 1
  | .slice elems spare => uptoBulkAll elems + uptoBulkAll spare + 1
  | .agg parts => uptoBulkAll parts + 1
  | .iface _ d => uptoBulk d + 1
  | .map entries => uptoBulkEntries entries + 1
  | .held _ => 1
def uptoBulkAll {H : Type} : List (DataW H) → Nat
  | [] => 0
  | d :: r => uptoBulk d + uptoBulkAll r
def uptoBulkEntries {H : Type} : List (Lit × DataW H) → Nat
  | [] => 0
  | x :: r => uptoBulkEntry x + uptoBulkEntries r
def uptoBulkEntry {H : Type} : Lit × DataW H → Nat
  | (.string bytes, d) => bytes.length + uptoBulk d + 1
  | (_, d) => uptoBulk d + 1
 end
def uptoSmall : (H : Type) → List (DataW H) → Bool := fun _ ds => decide (uptoBulkAll ds ≤ 1048576)
def OpenSpec.upto (s : _root_.Go.ChangeSpec) : _root_.Go.OpenSpec := { _root_.Go.OpenSpec.ofChange s with cond := some uptoSmall }

/-- 'laws.FnExactFitsState', WHERE WHAT IT READS IS OF BULK AT MOST 1048576: true; the input reads as it did. -/
def fnExactFitsStateUptoRow : OpenClaim := { program := "ytlbnlnepoidjmaagreat", sum := "7d7a267ab4fa7b71cba0e1a27ee16ae5f32495c5d5cd71ba182f42e6254171e8", func := "loop.example/g00850/laws.FnExactFitsState", spec := "fnExactFitsState", inPlace := ["internal/bytealg.IndexByteString"], unfollowed := true, recurses := true, apart := false, narrowed := true }
def FnExactFitsStateUptoSaid : Prop := fnExactFitsStateUptoRow.holds Tryz.pinned (OpenSpec.upto fnExactFitsStateSpec)

/-- 'laws.FnExactNewDeal', WHERE WHAT IT READS IS OF BULK AT MOST 1048576: true; the input reads as it did. -/
def fnExactNewDealUptoRow : OpenClaim := { program := "ytlbnlnepoidjmaagreat", sum := "7d7a267ab4fa7b71cba0e1a27ee16ae5f32495c5d5cd71ba182f42e6254171e8", func := "loop.example/g00850/laws.FnExactNewDeal", spec := "fnExactNewDeal", inPlace := ["internal/bytealg.IndexByteString"], unfollowed := true, recurses := true, apart := false, narrowed := true }
def FnExactNewDealUptoSaid : Prop := fnExactNewDealUptoRow.holds Tryz.pinned (OpenSpec.upto fnExactNewDealSpec)

/-- 'laws.FnExactAgreeDeal', WHERE WHAT IT READS IS OF BULK AT MOST 1048576: true; the input reads as it did. -/
def fnExactAgreeDealUptoRow : OpenClaim := { program := "ytlbnlnepoidjmaagreat", sum := "7d7a267ab4fa7b71cba0e1a27ee16ae5f32495c5d5cd71ba182f42e6254171e8", func := "loop.example/g00850/laws.FnExactAgreeDeal", spec := "fnExactAgreeDeal", inPlace := ["internal/bytealg.IndexByteString"], unfollowed := true, recurses := true, apart := false, narrowed := true }
def FnExactAgreeDealUptoSaid : Prop := fnExactAgreeDealUptoRow.holds Tryz.pinned (OpenSpec.upto fnExactAgreeDealSpec)

end Rows
end Go.Proofs.YtlbnlnepoidjmaaGreat
