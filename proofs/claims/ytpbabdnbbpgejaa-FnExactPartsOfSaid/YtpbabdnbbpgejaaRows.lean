/-
  No cell of these rows narrows 'for every input' (looked for: loops, veiled, ifaces, maps, wideKeys, modest, calm, conditions, laid).
  DERIVED. THE GIVEN ROWS OF THIS SEAT. 8 by the template 'for every input the law returns true; each argument reads behind the call as it read before'; 0 by the template 'total and deterministic' (their statements: YtpbabdnbbpgejaaTotals.lean).
  GIVEN WITH THE SEED: the statements are not yours to turn. If you find one false, say at which input.
  Laid BY PROGRAM, IN A SANDBOX (cutbox-rows.mjs): the forced cells as the released guide's own fill.sh prints them over the translation 89b2d6b5c91ae7c4… (all of the seat's roots in one cut). By AI agents, Wed Nov 11 2026. No macro, syntax, notation, axiom, sorry.
-/
import Derived.Test.YtpbabdnbbpgejaaChecked
import GoSem.Claim
import GoSem.ClaimJoined
import GoSem.ClaimMapViews
import Derived.JoinedTies
import Derived.KernelRfl
namespace Go.Proofs.Ytpbabdnbbpgejaa
/- THE CELL 'sum', in the pinned program and in every row, IS THE sha256 OF THE DUMP (.gsa) THAT YtpbabdnbbpgejaaProg.lean LOADS. Nothing in Lean hashes anything: it is a label: what it is worth is what the hold of that sum in a sandbox is worth. -/
noncomputable def Try.pinned : Pinned := { name := "ytpbabdnbbpgejaa", sum := "89b2d6b5c91ae7c47e79182c4ed3648960a065816d805723eca6ee4668cc67fd", checked := Try.checked }
namespace Rows
def none {H : Type} : Left H := { results := [], args := [] }

/-- 'laws.FnExactPartsOf': WHATEVER THE INPUT: true; the input reads as it did. -/
def fnExactPartsOfSpec : ChangeSpec := { name := "fnExactPartsOf", fn := fun _ => fun
  | [d1, d2] => { results := [.lit (.bool true)], args := [d1, d2] }
  | _ => none }
def fnExactPartsOfRow : OpenClaim := { program := "ytpbabdnbbpgejaa", sum := "89b2d6b5c91ae7c47e79182c4ed3648960a065816d805723eca6ee4668cc67fd", func := "loop.example/g00850/laws.FnExactPartsOf", spec := "fnExactPartsOf", inPlace := ["internal/bytealg.IndexByteString"], unfollowed := true, recurses := true, apart := false }
def FnExactPartsOfSaid : Prop := fnExactPartsOfRow.holds Try.pinned (OpenSpec.ofChange fnExactPartsOfSpec)

/-- ITS FALSE NEIGHBOUR: 'it returns false'. Refute it at one input. -/
def fnExactPartsOfWrong : ChangeSpec := { name := "fnExactPartsOf", fn := fun _ => fun
  | [d1, d2] => { results := [.lit (.bool false)], args := [d1, d2] }
  | _ => none }
def FnExactPartsOfWrongFalsely : Prop := fnExactPartsOfRow.holds Try.pinned (OpenSpec.ofChange fnExactPartsOfWrong)

/-- 'laws.FnExactLocksOf': WHATEVER THE INPUT: true; the input reads as it did. -/
def fnExactLocksOfSpec : ChangeSpec := { name := "fnExactLocksOf", fn := fun _ => fun
  | [d1, d2] => { results := [.lit (.bool true)], args := [d1, d2] }
  | _ => none }
def fnExactLocksOfRow : OpenClaim := { program := "ytpbabdnbbpgejaa", sum := "89b2d6b5c91ae7c47e79182c4ed3648960a065816d805723eca6ee4668cc67fd", func := "loop.example/g00850/laws.FnExactLocksOf", spec := "fnExactLocksOf", inPlace := ["internal/bytealg.IndexByteString"], unfollowed := true, recurses := true, apart := false }
def FnExactLocksOfSaid : Prop := fnExactLocksOfRow.holds Try.pinned (OpenSpec.ofChange fnExactLocksOfSpec)

/-- ITS FALSE NEIGHBOUR: 'it returns false'. Refute it at one input. -/
def fnExactLocksOfWrong : ChangeSpec := { name := "fnExactLocksOf", fn := fun _ => fun
  | [d1, d2] => { results := [.lit (.bool false)], args := [d1, d2] }
  | _ => none }
def FnExactLocksOfWrongFalsely : Prop := fnExactLocksOfRow.holds Try.pinned (OpenSpec.ofChange fnExactLocksOfWrong)

/-- 'laws.FnExactFreeLocks': WHATEVER THE INPUT: true; the input reads as it did. -/
def fnExactFreeLocksSpec : ChangeSpec := { name := "fnExactFreeLocks", fn := fun _ => fun
  | [d1, d2] => { results := [.lit (.bool true)], args := [d1, d2] }
  | _ => none }
def fnExactFreeLocksRow : OpenClaim := { program := "ytpbabdnbbpgejaa", sum := "89b2d6b5c91ae7c47e79182c4ed3648960a065816d805723eca6ee4668cc67fd", func := "loop.example/g00850/laws.FnExactFreeLocks", spec := "fnExactFreeLocks", inPlace := ["internal/bytealg.IndexByteString"], unfollowed := true, recurses := true, apart := false }
def FnExactFreeLocksSaid : Prop := fnExactFreeLocksRow.holds Try.pinned (OpenSpec.ofChange fnExactFreeLocksSpec)

/-- ITS FALSE NEIGHBOUR: 'it returns false'. Refute it at one input. -/
def fnExactFreeLocksWrong : ChangeSpec := { name := "fnExactFreeLocks", fn := fun _ => fun
  | [d1, d2] => { results := [.lit (.bool false)], args := [d1, d2] }
  | _ => none }
def FnExactFreeLocksWrongFalsely : Prop := fnExactFreeLocksRow.holds Try.pinned (OpenSpec.ofChange fnExactFreeLocksWrong)

/-- 'laws.FnExactTakeLock': WHATEVER THE INPUT: true; the input reads as it did. -/
def fnExactTakeLockSpec : ChangeSpec := { name := "fnExactTakeLock", fn := fun _ => fun
  | [d1, d2] => { results := [.lit (.bool true)], args := [d1, d2] }
  | _ => none }
def fnExactTakeLockRow : OpenClaim := { program := "ytpbabdnbbpgejaa", sum := "89b2d6b5c91ae7c47e79182c4ed3648960a065816d805723eca6ee4668cc67fd", func := "loop.example/g00850/laws.FnExactTakeLock", spec := "fnExactTakeLock", inPlace := ["internal/bytealg.IndexByteString"], unfollowed := true, recurses := true, apart := false }
def FnExactTakeLockSaid : Prop := fnExactTakeLockRow.holds Try.pinned (OpenSpec.ofChange fnExactTakeLockSpec)

/-- ITS FALSE NEIGHBOUR: 'it returns false'. Refute it at one input. -/
def fnExactTakeLockWrong : ChangeSpec := { name := "fnExactTakeLock", fn := fun _ => fun
  | [d1, d2] => { results := [.lit (.bool false)], args := [d1, d2] }
  | _ => none }
def FnExactTakeLockWrongFalsely : Prop := fnExactTakeLockRow.holds Try.pinned (OpenSpec.ofChange fnExactTakeLockWrong)

/-- 'laws.FnExactTickNet': WHATEVER THE INPUT: true; the input reads as it did. -/
def fnExactTickNetSpec : ChangeSpec := { name := "fnExactTickNet", fn := fun _ => fun
  | [d] => { results := [.lit (.bool true)], args := [d] }
  | _ => none }
def fnExactTickNetRow : OpenClaim := { program := "ytpbabdnbbpgejaa", sum := "89b2d6b5c91ae7c47e79182c4ed3648960a065816d805723eca6ee4668cc67fd", func := "loop.example/g00850/laws.FnExactTickNet", spec := "fnExactTickNet", unfollowed := true, recurses := true, apart := false }
def FnExactTickNetSaid : Prop := fnExactTickNetRow.holds Try.pinned (OpenSpec.ofChange fnExactTickNetSpec)

/-- ITS FALSE NEIGHBOUR: 'it returns false'. Refute it at one input. -/
def fnExactTickNetWrong : ChangeSpec := { name := "fnExactTickNet", fn := fun _ => fun
  | [d] => { results := [.lit (.bool false)], args := [d] }
  | _ => none }
def FnExactTickNetWrongFalsely : Prop := fnExactTickNetRow.holds Try.pinned (OpenSpec.ofChange fnExactTickNetWrong)

/-- 'laws.FnExactWaitsFor': WHATEVER THE INPUT: true; the input reads as it did. -/
def fnExactWaitsForSpec : ChangeSpec := { name := "fnExactWaitsFor", fn := fun _ => fun
  | [d1, d2] => { results := [.lit (.bool true)], args := [d1, d2] }
  | _ => none }
def fnExactWaitsForRow : OpenClaim := { program := "ytpbabdnbbpgejaa", sum := "89b2d6b5c91ae7c47e79182c4ed3648960a065816d805723eca6ee4668cc67fd", func := "loop.example/g00850/laws.FnExactWaitsFor", spec := "fnExactWaitsFor", inPlace := ["internal/bytealg.IndexByteString"], unfollowed := true, recurses := true, apart := false }
def FnExactWaitsForSaid : Prop := fnExactWaitsForRow.holds Try.pinned (OpenSpec.ofChange fnExactWaitsForSpec)

/-- ITS FALSE NEIGHBOUR: 'it returns false'. Refute it at one input. -/
def fnExactWaitsForWrong : ChangeSpec := { name := "fnExactWaitsFor", fn := fun _ => fun
  | [d1, d2] => { results := [.lit (.bool false)], args := [d1, d2] }
  | _ => none }
def FnExactWaitsForWrongFalsely : Prop := fnExactWaitsForRow.holds Try.pinned (OpenSpec.ofChange fnExactWaitsForWrong)

/-- 'laws.FnExactAskLock': WHATEVER THE INPUT: true; the input reads as it did. -/
def fnExactAskLockSpec : ChangeSpec := { name := "fnExactAskLock", fn := fun _ => fun
  | [d1, d2, d3] => { results := [.lit (.bool true)], args := [d1, d2, d3] }
  | _ => none }
def fnExactAskLockRow : OpenClaim := { program := "ytpbabdnbbpgejaa", sum := "89b2d6b5c91ae7c47e79182c4ed3648960a065816d805723eca6ee4668cc67fd", func := "loop.example/g00850/laws.FnExactAskLock", spec := "fnExactAskLock", inPlace := ["internal/bytealg.IndexByteString"], unfollowed := true, recurses := true, apart := false }
def FnExactAskLockSaid : Prop := fnExactAskLockRow.holds Try.pinned (OpenSpec.ofChange fnExactAskLockSpec)

/-- ITS FALSE NEIGHBOUR: 'it returns false'. Refute it at one input. -/
def fnExactAskLockWrong : ChangeSpec := { name := "fnExactAskLock", fn := fun _ => fun
  | [d1, d2, d3] => { results := [.lit (.bool false)], args := [d1, d2, d3] }
  | _ => none }
def FnExactAskLockWrongFalsely : Prop := fnExactAskLockRow.holds Try.pinned (OpenSpec.ofChange fnExactAskLockWrong)

/-- 'laws.FnExactFindRing': WHATEVER THE INPUT: true; the input reads as it did. -/
def fnExactFindRingSpec : ChangeSpec := { name := "fnExactFindRing", fn := fun _ => fun
  | [d] => { results := [.lit (.bool true)], args := [d] }
  | _ => none }
def fnExactFindRingRow : OpenClaim := { program := "ytpbabdnbbpgejaa", sum := "89b2d6b5c91ae7c47e79182c4ed3648960a065816d805723eca6ee4668cc67fd", func := "loop.example/g00850/laws.FnExactFindRing", spec := "fnExactFindRing", unfollowed := true, recurses := true, apart := false }
def FnExactFindRingSaid : Prop := fnExactFindRingRow.holds Try.pinned (OpenSpec.ofChange fnExactFindRingSpec)

/-- ITS FALSE NEIGHBOUR: 'it returns false'. Refute it at one input. -/
def fnExactFindRingWrong : ChangeSpec := { name := "fnExactFindRing", fn := fun _ => fun
  | [d] => { results := [.lit (.bool false)], args := [d] }
  | _ => none }
def FnExactFindRingWrongFalsely : Prop := fnExactFindRingRow.holds Try.pinned (OpenSpec.ofChange fnExactFindRingWrong)

/- THE SECOND FORM. 'bulk': how many values and letters a reading holds, each counted each time it is reached (what is shared counts as often as it is met; a slice's spare places count too). A statement '..UptoSaid' is the law's where the arguments, and the package variables that the reading takes, are together of bulk at most 1048576: NARROWER than '..Said'. Prove '..Said' where nothing that the law and all that it calls make is longer than what came in: it says more and counts as full. Else prove '..UptoSaid'. A law counts once. -/
mutual
def uptoBulk {H : Type} : DataW H → Nat
  | .lit (.string bytes) => bytes.length + 1
  | .lit _ => 1
  | .nil => 1
  | .ptr d => uptoBulk d + 1
  | .slice elems spare => uptoBulkAll elems + uptoBulkAll spare + 1
  | .agg parts => uptoBulkAll parts + 1
  | .iface _ d => uptoBulk d + 1
  | .map entries => uptoBulkEntries entries + 1
  | .held _ => 1
def uptoBulkAll {H : Type} : List (DataW H) → Nat
  | [] => 0
  | d :: r => uptoBulk d + uptoBulkAll r
def uptoBulkEntries {H : Type} : List (Lit × DataW H) → Nat
  | [] => 0
  | x :: r => uptoBulkEntry x + uptoBulkEntries r
def uptoBulkEntry {H : Type} : Lit × DataW H → Nat
  | (.string bytes, d) => bytes.length + uptoBulk d + 1
  | (_, d) => uptoBulk d + 1
 end
def uptoSmall : (H : Type) → List (DataW H) → Bool := fun _ ds => decide (uptoBulkAll ds ≤ 1048576)
def OpenSpec.upto (s : _root_.Go.ChangeSpec) : _root_.Go.OpenSpec := { _root_.Go.OpenSpec.ofChange s with cond := some uptoSmall }

/-- 'laws.FnExactPartsOf', WHERE WHAT IT READS IS OF BULK AT MOST 1048576: true; the input reads as it did. -/
def fnExactPartsOfUptoRow : OpenClaim := { program := "ytpbabdnbbpgejaa", sum := "89b2d6b5c91ae7c47e79182c4ed3648960a065816d805723eca6ee4668cc67fd", func := "loop.example/g00850/laws.FnExactPartsOf", spec := "fnExactPartsOf", inPlace := ["internal/bytealg.IndexByteString"], unfollowed := true, recurses := true, apart := false, narrowed := true }
def FnExactPartsOfUptoSaid : Prop := fnExactPartsOfUptoRow.holds Try.pinned (OpenSpec.upto fnExactPartsOfSpec)

/-- 'laws.FnExactLocksOf', WHERE WHAT IT READS IS OF BULK AT MOST 1048576: true; the input reads as it did. -/
def fnExactLocksOfUptoRow : OpenClaim := { program := "ytpbabdnbbpgejaa", sum := "89b2d6b5c91ae7c47e79182c4ed3648960a065816d805723eca6ee4668cc67fd", func := "loop.example/g00850/laws.FnExactLocksOf", spec := "fnExactLocksOf", inPlace := ["internal/bytealg.IndexByteString"], unfollowed := true, recurses := true, apart := false, narrowed := true }
def FnExactLocksOfUptoSaid : Prop := fnExactLocksOfUptoRow.holds Try.pinned (OpenSpec.upto fnExactLocksOfSpec)

/-- 'laws.FnExactFreeLocks', WHERE WHAT IT READS IS OF BULK AT MOST 1048576: true; the input reads as it did. -/
def fnExactFreeLocksUptoRow : OpenClaim := { program := "ytpbabdnbbpgejaa", sum := "89b2d6b5c91ae7c47e79182c4ed3648960a065816d805723eca6ee4668cc67fd", func := "loop.example/g00850/laws.FnExactFreeLocks", spec := "fnExactFreeLocks", inPlace := ["internal/bytealg.IndexByteString"], unfollowed := true, recurses := true, apart := false, narrowed := true }
def FnExactFreeLocksUptoSaid : Prop := fnExactFreeLocksUptoRow.holds Try.pinned (OpenSpec.upto fnExactFreeLocksSpec)

/-- 'laws.FnExactTakeLock', WHERE WHAT IT READS IS OF BULK AT MOST 1048576: true; the input reads as it did. -/
def fnExactTakeLockUptoRow : OpenClaim := { program := "ytpbabdnbbpgejaa", sum := "89b2d6b5c91ae7c47e79182c4ed3648960a065816d805723eca6ee4668cc67fd", func := "loop.example/g00850/laws.FnExactTakeLock", spec := "fnExactTakeLock", inPlace := ["internal/bytealg.IndexByteString"], unfollowed := true, recurses := true, apart := false, narrowed := true }
def FnExactTakeLockUptoSaid : Prop := fnExactTakeLockUptoRow.holds Try.pinned (OpenSpec.upto fnExactTakeLockSpec)

/-- 'laws.FnExactTickNet', WHERE WHAT IT READS IS OF BULK AT MOST 1048576: true; the input reads as it did. -/
def fnExactTickNetUptoRow : OpenClaim := { program := "ytpbabdnbbpgejaa", sum := "89b2d6b5c91ae7c47e79182c4ed3648960a065816d805723eca6ee4668cc67fd", func := "loop.example/g00850/laws.FnExactTickNet", spec := "fnExactTickNet", unfollowed := true, recurses := true, apart := false, narrowed := true }
def FnExactTickNetUptoSaid : Prop := fnExactTickNetUptoRow.holds Try.pinned (OpenSpec.upto fnExactTickNetSpec)

/-- 'laws.FnExactWaitsFor', WHERE WHAT IT READS IS OF BULK AT MOST 1048576: true; the input reads as it did. -/
def fnExactWaitsForUptoRow : OpenClaim := { program := "ytpbabdnbbpgejaa", sum := "89b2d6b5c91ae7c47e79182c4ed3648960a065816d805723eca6ee4668cc67fd", func := "loop.example/g00850/laws.FnExactWaitsFor", spec := "fnExactWaitsFor", inPlace := ["internal/bytealg.IndexByteString"], unfollowed := true, recurses := true, apart := false, narrowed := true }
def FnExactWaitsForUptoSaid : Prop := fnExactWaitsForUptoRow.holds Try.pinned (OpenSpec.upto fnExactWaitsForSpec)

/-- 'laws.FnExactAskLock', WHERE WHAT IT READS IS OF BULK AT MOST 1048576: true; the input reads as it did. -/
def fnExactAskLockUptoRow : OpenClaim := { program := "ytpbabdnbbpgejaa", sum := "89b2d6b5c91ae7c47e79182c4ed3648960a065816d805723eca6ee4668cc67fd", func := "loop.example/g00850/laws.FnExactAskLock", spec := "fnExactAskLock", inPlace := ["internal/bytealg.IndexByteString"], unfollowed := true, recurses := true, apart := false, narrowed := true }
def FnExactAskLockUptoSaid : Prop := fnExactAskLockUptoRow.holds Try.pinned (OpenSpec.upto fnExactAskLockSpec)

/-- 'laws.FnExactFindRing', WHERE WHAT IT READS IS OF BULK AT MOST 1048576: true; the input reads as it did. -/
def fnExactFindRingUptoRow : OpenClaim := { program := "ytpbabdnbbpgejaa", sum := "89b2d6b5c91ae7c47e79182c4ed3648960a065816d805723eca6ee4668cc67fd", func := "loop.example/g00850/laws.FnExactFindRing", spec := "fnExactFindRing", unfollowed := true, recurses := true, apart := false, narrowed := true }
def FnExactFindRingUptoSaid : Prop := fnExactFindRingUptoRow.holds Try.pinned (OpenSpec.upto fnExactFindRingSpec)

end Rows
end Go.Proofs.Ytpbabdnbbpgejaa
