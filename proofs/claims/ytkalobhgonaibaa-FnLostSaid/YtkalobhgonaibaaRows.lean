/-
  No cell of these rows narrows 'for every input' (looked for: loops, veiled, ifaces, maps, wideKeys, modest, calm, conditions, laid).
  DERIVED. THE GIVEN ROWS OF THIS SEAT. 4 by the template 'for every input the law returns true; each argument reads behind the call as it read before'; 0 by the template 'total and deterministic' (their statements: YtkalobhgonaibaaTotals.lean).
  GIVEN WITH THE SEED: the statements are not yours to turn. If you find one false, say at which input.
  Laid BY PROGRAM, IN A SANDBOX (cutbox-rows.mjs): the forced cells as the released guide's own fill.sh prints them over the translation 25abbfff7de5eb43… (all of the seat's roots in one cut). By AI agents, Wed Nov 11 2026. No macro, syntax, notation, axiom, sorry.
-/
import Derived.Test.YtkalobhgonaibaaChecked
import GoSem.Claim
import GoSem.ClaimJoined
import GoSem.ClaimMapViews
import Derived.JoinedTies
import Derived.KernelRfl
namespace Go.Proofs.Ytkalobhgonaibaa
/- THE CELL 'sum', in the pinned program and in every row, IS THE sha256 OF THE DUMP (.gsa) THAT YtkalobhgonaibaaProg.lean LOADS. Nothing in Lean hashes anything: it is a label: what it is worth is what the hold of that sum in a sandbox is worth. -/
noncomputable def Try.pinned : Pinned := { name := "ytkalobhgonaibaa", sum := "25abbfff7de5eb43abf7592103d7f42796ac089f2fc2df610d75c3fe89c98ac5", checked := Try.checked }
namespace Rows
def none {H : Type} : Left H := { results := [], args := [] }

/-- 'laws.FnExactLocksOf': WHATEVER THE INPUT: true; the input reads as it did. -/
def fnExactLocksOfSpec : ChangeSpec := { name := "fnExactLocksOf", fn := fun _ => fun
  | [d1, d2] => { results := [.lit (.bool true)], args := [d1, d2] }
  | _ => none }
def fnExactLocksOfRow : OpenClaim := { program := "ytkalobhgonaibaa", sum := "25abbfff7de5eb43abf7592103d7f42796ac089f2fc2df610d75c3fe89c98ac5", func := "loop.example/g00850/laws.FnExactLocksOf", spec := "fnExactLocksOf", inPlace := ["internal/bytealg.IndexByteString"], unfollowed := true, recurses := true, apart := false }
def FnExactLocksOfSaid : Prop := fnExactLocksOfRow.holds Try.pinned (OpenSpec.ofChange fnExactLocksOfSpec)

/-- ITS FALSE NEIGHBOUR: 'it returns false'. Refute it at one input. -/
def fnExactLocksOfWrong : ChangeSpec := { name := "fnExactLocksOf", fn := fun _ => fun
  | [d1, d2] => { results := [.lit (.bool false)], args := [d1, d2] }
  | _ => none }
def FnExactLocksOfWrongFalsely : Prop := fnExactLocksOfRow.holds Try.pinned (OpenSpec.ofChange fnExactLocksOfWrong)

/-- 'laws.FnExactFreeLocks': WHATEVER THE INPUT: true; the input reads as it did. -/
def fnExactFreeLocksSpec : ChangeSpec := { name := "fnExactFreeLocks", fn := fun _ => fun
  | [d1, d2] => { results := [.lit (.bool true)], args := [d1, d2] }
  | _ => none }
def fnExactFreeLocksRow : OpenClaim := { program := "ytkalobhgonaibaa", sum := "25abbfff7de5eb43abf7592103d7f42796ac089f2fc2df610d75c3fe89c98ac5", func := "loop.example/g00850/laws.FnExactFreeLocks", spec := "fnExactFreeLocks", inPlace := ["internal/bytealg.IndexByteString"], unfollowed := true, recurses := true, apart := false }
def FnExactFreeLocksSaid : Prop := fnExactFreeLocksRow.holds Try.pinned (OpenSpec.ofChange fnExactFreeLocksSpec)

/-- ITS FALSE NEIGHBOUR: 'it returns false'. Refute it at one input. -/
def fnExactFreeLocksWrong : ChangeSpec := { name := "fnExactFreeLocks", fn := fun _ => fun
  | [d1, d2] => { results := [.lit (.bool false)], args := [d1, d2] }
  | _ => none }
def FnExactFreeLocksWrongFalsely : Prop := fnExactFreeLocksRow.holds Try.pinned (OpenSpec.ofChange fnExactFreeLocksWrong)

/-- 'laws.FnLost': WHATEVER THE INPUT: true; the input reads as it did. -/
def fnLostSpec : ChangeSpec := { name := "fnLost", fn := fun _ => fun
  | [d] => { results := [.lit (.bool true)], args := [d] }
  | _ => none }
def fnLostRow : OpenClaim := { program := "ytkalobhgonaibaa", sum := "25abbfff7de5eb43abf7592103d7f42796ac089f2fc2df610d75c3fe89c98ac5", func := "loop.example/g00850/laws.FnLost", spec := "fnLost", inPlace := ["slices.overlaps[loop.example/g00850/impl.Letter]"], unfollowed := true, recurses := true, apart := false }
def FnLostSaid : Prop := fnLostRow.holds Try.pinned (OpenSpec.ofChange fnLostSpec)

/-- ITS FALSE NEIGHBOUR: 'it returns false'. Refute it at one input. -/
def fnLostWrong : ChangeSpec := { name := "fnLost", fn := fun _ => fun
  | [d] => { results := [.lit (.bool false)], args := [d] }
  | _ => none }
def FnLostWrongFalsely : Prop := fnLostRow.holds Try.pinned (OpenSpec.ofChange fnLostWrong)

/-- 'laws.FnExactNewHouse': WHATEVER THE INPUT: true; the input reads as it did. -/
def fnExactNewHouseSpec : ChangeSpec := { name := "fnExactNewHouse", fn := fun _ => fun
  | [d] => { results := [.lit (.bool true)], args := [d] }
  | _ => none }
def fnExactNewHouseRow : OpenClaim := { program := "ytkalobhgonaibaa", sum := "25abbfff7de5eb43abf7592103d7f42796ac089f2fc2df610d75c3fe89c98ac5", func := "loop.example/g00850/laws.FnExactNewHouse", spec := "fnExactNewHouse", apart := false }
def FnExactNewHouseSaid : Prop := fnExactNewHouseRow.holds Try.pinned (OpenSpec.ofChange fnExactNewHouseSpec)

/-- ITS FALSE NEIGHBOUR: 'it returns false'. Refute it at one input. -/
def fnExactNewHouseWrong : ChangeSpec := { name := "fnExactNewHouse", fn := fun _ => fun
  | [d] => { results := [.lit (.bool false)], args := [d] }
  | _ => none }
def FnExactNewHouseWrongFalsely : Prop := fnExactNewHouseRow.holds Try.pinned (OpenSpec.ofChange fnExactNewHouseWrong)

/- THE SECOND FORM. 'bulk': how many values and letters a reading holds, each counted each time it is reached (what is shared counts as often as it is met; a slice's spare places count too). A statement '..UptoSaid' is the law's where the arguments, and the package variables that the reading takes, are together of bulk at most 1048576: NARROWER than '..Said'. Prove '..Said' where nothing that the law and all that it calls make is longer than what came in: it says more and counts as full. Else prove '..UptoSaid'. A law counts once. -/
mutual
def uptoBulk {H : Type} : DataW H → Nat
  | .lit (.string bytes) => bytes.length + 1
  | .lit _ => 1
  | .nil => 1
  | .ptr d => uptoBulk d + 1
  | .slice elems spare => uptoBulkAll elems + uptoBulkAll spare + 1
  | .agg parts => uptoBulkAll parts + 1
  | .iface _ d => uptoBulk d + 1
  | .map entries => uptoBulkEntries entries + 1
  | .held _ => 1
def uptoBulkAll {H : Type} : List (DataW H) → Nat
  | [] => 0
  | d :: r => uptoBulk d + uptoBulkAll r
def uptoBulkEntries {H : Type} : List (Lit × DataW H) → Nat
  | [] => 0
  | x :: r => uptoBulkEntry x + uptoBulkEntries r
def uptoBulkEntry {H : Type} : Lit × DataW H → Nat
  | (.string bytes, d) => bytes.length + uptoBulk d + 1
  | (_, d) => uptoBulk d + 1
 end
def uptoSmall : (H : Type) → List (DataW H) → Bool := fun _ ds => decide (uptoBulkAll ds ≤ 1048576)
def OpenSpec.upto (s : _root_.Go.ChangeSpec) : _root_.Go.OpenSpec := { _root_.Go.OpenSpec.ofChange s with cond := some uptoSmall }

/-- 'laws.FnExactLocksOf', WHERE WHAT IT READS IS OF BULK AT MOST 1048576: true; the input reads as it did. -/
def fnExactLocksOfUptoRow : OpenClaim := { program := "ytkalobhgonaibaa", sum := "25abbfff7de5eb43abf7592103d7f42796ac089f2fc2df610d75c3fe89c98ac5", func := "loop.example/g00850/laws.FnExactLocksOf", spec := "fnExactLocksOf", inPlace := ["internal/bytealg.IndexByteString"], unfollowed := true, recurses := true, apart := false, narrowed := true }
def FnExactLocksOfUptoSaid : Prop := fnExactLocksOfUptoRow.holds Try.pinned (OpenSpec.upto fnExactLocksOfSpec)

/-- 'laws.FnExactFreeLocks', WHERE WHAT IT READS IS OF BULK AT MOST 1048576: true; the input reads as it did. -/
def fnExactFreeLocksUptoRow : OpenClaim := { program := "ytkalobhgonaibaa", sum := "25abbfff7de5eb43abf7592103d7f42796ac089f2fc2df610d75c3fe89c98ac5", func := "loop.example/g00850/laws.FnExactFreeLocks", spec := "fnExactFreeLocks", inPlace := ["internal/bytealg.IndexByteString"], unfollowed := true, recurses := true, apart := false, narrowed := true }
def FnExactFreeLocksUptoSaid : Prop := fnExactFreeLocksUptoRow.holds Try.pinned (OpenSpec.upto fnExactFreeLocksSpec)

/-- 'laws.FnLost', WHERE WHAT IT READS IS OF BULK AT MOST 1048576: true; the input reads as it did. -/
def fnLostUptoRow : OpenClaim := { program := "ytkalobhgonaibaa", sum := "25abbfff7de5eb43abf7592103d7f42796ac089f2fc2df610d75c3fe89c98ac5", func := "loop.example/g00850/laws.FnLost", spec := "fnLost", inPlace := ["slices.overlaps[loop.example/g00850/impl.Letter]"], unfollowed := true, recurses := true, apart := false, narrowed := true }
def FnLostUptoSaid : Prop := fnLostUptoRow.holds Try.pinned (OpenSpec.upto fnLostSpec)

/-- 'laws.FnExactNewHouse', WHERE WHAT IT READS IS OF BULK AT MOST 1048576: true; the input reads as it did. -/
def fnExactNewHouseUptoRow : OpenClaim := { program := "ytkalobhgonaibaa", sum := "25abbfff7de5eb43abf7592103d7f42796ac089f2fc2df610d75c3fe89c98ac5", func := "loop.example/g00850/laws.FnExactNewHouse", spec := "fnExactNewHouse", apart := false, narrowed := true }
def FnExactNewHouseUptoSaid : Prop := fnExactNewHouseUptoRow.holds Try.pinned (OpenSpec.upto fnExactNewHouseSpec)

end Rows
end Go.Proofs.Ytkalobhgonaibaa
