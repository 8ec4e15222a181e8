/-
  No cell of these rows narrows 'for every input' (looked for: loops, veiled, ifaces, maps, wideKeys, modest, calm, conditions, laid).
  DERIVED. THE GIVEN ROWS OF THIS SEAT. 7 by the template 'for every input the law returns true; each argument reads behind the call as it read before'; 0 by the template 'total and deterministic' (their statements: YtldhlkgbnkibkaaTotals.lean).
  GIVEN WITH THE SEED: the statements are not yours to turn. If you find one false, say at which input.
  Laid BY PROGRAM, IN A SANDBOX (cutbox-rows.mjs): the forced cells as the released guide's own fill.sh prints them over the translation ad8a0db20796d656… (all of the seat's roots in one cut). By AI agents, Wed Nov 11 2026. No macro, syntax, notation, axiom, sorry.
-/
import Derived.Test.YtldhlkgbnkibkaaChecked
import GoSem.Claim
import GoSem.ClaimJoined
import GoSem.ClaimMapViews
import Derived.JoinedTies
import Derived.KernelRfl
namespace Go.Proofs.Ytldhlkgbnkibkaa
/- THE CELL 'sum', in the pinned program and in every row, IS THE sha256 OF THE DUMP (.gsa) THAT YtldhlkgbnkibkaaProg.lean LOADS. Nothing in Lean hashes anything: it is a label: what it is worth is what the hold of that sum in a sandbox is worth. -/
noncomputable def Try.pinned : Pinned := { name := "ytldhlkgbnkibkaa", sum := "ad8a0db20796d65678a58c85bc4ae39dcb486393be000018ddf12cd257b75851", checked := Try.checked }
namespace Rows
def none {H : Type} : Left H := { results := [], args := [] }

/-- 'laws.FnExactStampFits': WHATEVER THE INPUT: true; the input reads as it did. -/
def fnExactStampFitsSpec : ChangeSpec := { name := "fnExactStampFits", fn := fun _ => fun
  | [d1, d2, d3] => { results := [.lit (.bool true)], args := [d1, d2, d3] }
  | _ => none }
def fnExactStampFitsRow : OpenClaim := { program := "ytldhlkgbnkibkaa", sum := "ad8a0db20796d65678a58c85bc4ae39dcb486393be000018ddf12cd257b75851", func := "loop.example/g00850/laws.FnExactStampFits", spec := "fnExactStampFits", apart := false }
def FnExactStampFitsSaid : Prop := fnExactStampFitsRow.holds Try.pinned (OpenSpec.ofChange fnExactStampFitsSpec)

/-- ITS FALSE NEIGHBOUR: 'it returns false'. Refute it at one input. -/
def fnExactStampFitsWrong : ChangeSpec := { name := "fnExactStampFits", fn := fun _ => fun
  | [d1, d2, d3] => { results := [.lit (.bool false)], args := [d1, d2, d3] }
  | _ => none }
def FnExactStampFitsWrongFalsely : Prop := fnExactStampFitsRow.holds Try.pinned (OpenSpec.ofChange fnExactStampFitsWrong)

/-- 'laws.FnExactMayTell': WHATEVER THE INPUT: true; the input reads as it did. -/
def fnExactMayTellSpec : ChangeSpec := { name := "fnExactMayTell", fn := fun _ => fun
  | [d1, d2] => { results := [.lit (.bool true)], args := [d1, d2] }
  | _ => none }
def fnExactMayTellRow : OpenClaim := { program := "ytldhlkgbnkibkaa", sum := "ad8a0db20796d65678a58c85bc4ae39dcb486393be000018ddf12cd257b75851", func := "loop.example/g00850/laws.FnExactMayTell", spec := "fnExactMayTell", apart := false }
def FnExactMayTellSaid : Prop := fnExactMayTellRow.holds Try.pinned (OpenSpec.ofChange fnExactMayTellSpec)

/-- ITS FALSE NEIGHBOUR: 'it returns false'. Refute it at one input. -/
def fnExactMayTellWrong : ChangeSpec := { name := "fnExactMayTell", fn := fun _ => fun
  | [d1, d2] => { results := [.lit (.bool false)], args := [d1, d2] }
  | _ => none }
def FnExactMayTellWrongFalsely : Prop := fnExactMayTellRow.holds Try.pinned (OpenSpec.ofChange fnExactMayTellWrong)

/-- 'laws.FnExactSpanAt': WHATEVER THE INPUT: true; the input reads as it did. -/
def fnExactSpanAtSpec : ChangeSpec := { name := "fnExactSpanAt", fn := fun _ => fun
  | [d1, d2] => { results := [.lit (.bool true)], args := [d1, d2] }
  | _ => none }
def fnExactSpanAtRow : OpenClaim := { program := "ytldhlkgbnkibkaa", sum := "ad8a0db20796d65678a58c85bc4ae39dcb486393be000018ddf12cd257b75851", func := "loop.example/g00850/laws.FnExactSpanAt", spec := "fnExactSpanAt", apart := false }
def FnExactSpanAtSaid : Prop := fnExactSpanAtRow.holds Try.pinned (OpenSpec.ofChange fnExactSpanAtSpec)

/-- ITS FALSE NEIGHBOUR: 'it returns false'. Refute it at one input. -/
def fnExactSpanAtWrong : ChangeSpec := { name := "fnExactSpanAt", fn := fun _ => fun
  | [d1, d2] => { results := [.lit (.bool false)], args := [d1, d2] }
  | _ => none }
def FnExactSpanAtWrongFalsely : Prop := fnExactSpanAtRow.holds Try.pinned (OpenSpec.ofChange fnExactSpanAtWrong)

/-- 'laws.FnExactLookTime': WHATEVER THE INPUT: true; the input reads as it did. -/
def fnExactLookTimeSpec : ChangeSpec := { name := "fnExactLookTime", fn := fun _ => fun
  | [d] => { results := [.lit (.bool true)], args := [d] }
  | _ => none }
def fnExactLookTimeRow : OpenClaim := { program := "ytldhlkgbnkibkaa", sum := "ad8a0db20796d65678a58c85bc4ae39dcb486393be000018ddf12cd257b75851", func := "loop.example/g00850/laws.FnExactLookTime", spec := "fnExactLookTime", apart := false }
def FnExactLookTimeSaid : Prop := fnExactLookTimeRow.holds Try.pinned (OpenSpec.ofChange fnExactLookTimeSpec)

/-- ITS FALSE NEIGHBOUR: 'it returns false'. Refute it at one input. -/
def fnExactLookTimeWrong : ChangeSpec := { name := "fnExactLookTime", fn := fun _ => fun
  | [d] => { results := [.lit (.bool false)], args := [d] }
  | _ => none }
def FnExactLookTimeWrongFalsely : Prop := fnExactLookTimeRow.holds Try.pinned (OpenSpec.ofChange fnExactLookTimeWrong)

/-- 'laws.FnExactWaitFor': WHATEVER THE INPUT: true; the input reads as it did. -/
def fnExactWaitForSpec : ChangeSpec := { name := "fnExactWaitFor", fn := fun _ => fun
  | [d1, d2, d3] => { results := [.lit (.bool true)], args := [d1, d2, d3] }
  | _ => none }
def fnExactWaitForRow : OpenClaim := { program := "ytldhlkgbnkibkaa", sum := "ad8a0db20796d65678a58c85bc4ae39dcb486393be000018ddf12cd257b75851", func := "loop.example/g00850/laws.FnExactWaitFor", spec := "fnExactWaitFor", apart := false }
def FnExactWaitForSaid : Prop := fnExactWaitForRow.holds Try.pinned (OpenSpec.ofChange fnExactWaitForSpec)

/-- ITS FALSE NEIGHBOUR: 'it returns false'. Refute it at one input. -/
def fnExactWaitForWrong : ChangeSpec := { name := "fnExactWaitFor", fn := fun _ => fun
  | [d1, d2, d3] => { results := [.lit (.bool false)], args := [d1, d2, d3] }
  | _ => none }
def FnExactWaitForWrongFalsely : Prop := fnExactWaitForRow.holds Try.pinned (OpenSpec.ofChange fnExactWaitForWrong)

/-- 'laws.FnExactTellAfter': WHATEVER THE INPUT: true; the input reads as it did. -/
def fnExactTellAfterSpec : ChangeSpec := { name := "fnExactTellAfter", fn := fun _ => fun
  | [d1, d2, d3] => { results := [.lit (.bool true)], args := [d1, d2, d3] }
  | _ => none }
def fnExactTellAfterRow : OpenClaim := { program := "ytldhlkgbnkibkaa", sum := "ad8a0db20796d65678a58c85bc4ae39dcb486393be000018ddf12cd257b75851", func := "loop.example/g00850/laws.FnExactTellAfter", spec := "fnExactTellAfter", apart := false }
def FnExactTellAfterSaid : Prop := fnExactTellAfterRow.holds Try.pinned (OpenSpec.ofChange fnExactTellAfterSpec)

/-- ITS FALSE NEIGHBOUR: 'it returns false'. Refute it at one input. -/
def fnExactTellAfterWrong : ChangeSpec := { name := "fnExactTellAfter", fn := fun _ => fun
  | [d1, d2, d3] => { results := [.lit (.bool false)], args := [d1, d2, d3] }
  | _ => none }
def FnExactTellAfterWrongFalsely : Prop := fnExactTellAfterRow.holds Try.pinned (OpenSpec.ofChange fnExactTellAfterWrong)

/-- 'laws.FnExactDecideTime': WHATEVER THE INPUT: true; the input reads as it did. -/
def fnExactDecideTimeSpec : ChangeSpec := { name := "fnExactDecideTime", fn := fun _ => fun
  | [d1, d2] => { results := [.lit (.bool true)], args := [d1, d2] }
  | _ => none }
def fnExactDecideTimeRow : OpenClaim := { program := "ytldhlkgbnkibkaa", sum := "ad8a0db20796d65678a58c85bc4ae39dcb486393be000018ddf12cd257b75851", func := "loop.example/g00850/laws.FnExactDecideTime", spec := "fnExactDecideTime", unfollowed := true, recurses := true, apart := false }
def FnExactDecideTimeSaid : Prop := fnExactDecideTimeRow.holds Try.pinned (OpenSpec.ofChange fnExactDecideTimeSpec)

/-- ITS FALSE NEIGHBOUR: 'it returns false'. Refute it at one input. -/
def fnExactDecideTimeWrong : ChangeSpec := { name := "fnExactDecideTime", fn := fun _ => fun
  | [d1, d2] => { results := [.lit (.bool false)], args := [d1, d2] }
  | _ => none }
def FnExactDecideTimeWrongFalsely : Prop := fnExactDecideTimeRow.holds Try.pinned (OpenSpec.ofChange fnExactDecideTimeWrong)

/- THE SECOND FORM. 'bulk': how many values and letters a reading holds, each counted each time it is reached (what is shared counts as often as it is met; a slice's spare places count too). A statement '..UptoSaid' is the law's where the arguments, and the package variables that the reading takes, are together of bulk at most 1048576: NARROWER than '..Said'. Prove '..Said' where nothing that the law and all that it calls make is longer than what came in: it says more and counts as full. Else prove '..UptoSaid'. A law counts once. -/
mutual
def uptoBulk {H : Type} : DataW H → Nat
  | .lit (.string bytes) => bytes.length + 1
  | .lit _ => 1
  | .nil => 1
  | .ptr d => uptoBulk d + 1
  | .slice elems spare => uptoBulkAll elems + uptoBulkAll spare + 1
  | .agg parts => uptoBulkAll parts + 1
  | .iface _ d => uptoBulk d + 1
  | .map entries => uptoBulkEntries entries + 1
  | .held _ => 1
def uptoBulkAll {H : Type} : List (DataW H) → Nat
  | [] => 0
  | d :: r => uptoBulk d + uptoBulkAll r
def uptoBulkEntries {H : Type} : List (Lit × DataW H) → Nat
  | [] => 0
  | x :: r => uptoBulkEntry x + uptoBulkEntries r
def uptoBulkEntry {H : Type} : Lit × DataW H → Nat
  | (.string bytes, d) => bytes.length + uptoBulk d + 1
  | (_, d) => uptoBulk d + 1
 end
def uptoSmall : (H : Type) → List (DataW H) → Bool := fun _ ds => decide (uptoBulkAll ds ≤ 1048576)
def OpenSpec.upto (s : _root_.Go.ChangeSpec) : _root_.Go.OpenSpec := { _root_.Go.OpenSpec.ofChange s with cond := some uptoSmall }

/-- 'laws.FnExactStampFits', WHERE WHAT IT READS IS OF BULK AT MOST 1048576: true; the input reads as it did. -/
def fnExactStampFitsUptoRow : OpenClaim := { program := "ytldhlkgbnkibkaa", sum := "ad8a0db20796d65678a58c85bc4ae39dcb486393be000018ddf12cd257b75851", func := "loop.example/g00850/laws.FnExactStampFits", spec := "fnExactStampFits", apart := false, narrowed := true }
def FnExactStampFitsUptoSaid : Prop := fnExactStampFitsUptoRow.holds Try.pinned (OpenSpec.upto fnExactStampFitsSpec)

/-- 'laws.FnExactMayTell', WHERE WHAT IT READS IS OF BULK AT MOST 1048576: true; the input reads as it did. -/
def fnExactMayTellUptoRow : OpenClaim := { program := "ytldhlkgbnkibkaa", sum := "ad8a0db20796d65678a58c85bc4ae39dcb486393be000018ddf12cd257b75851", func := "loop.example/g00850/laws.FnExactMayTell", spec := "fnExactMayTell", apart := false, narrowed := true }
def FnExactMayTellUptoSaid : Prop := fnExactMayTellUptoRow.holds Try.pinned (OpenSpec.upto fnExactMayTellSpec)

/-- 'laws.FnExactSpanAt', WHERE WHAT IT READS IS OF BULK AT MOST 1048576: true; the input reads as it did. -/
def fnExactSpanAtUptoRow : OpenClaim := { program := "ytldhlkgbnkibkaa", sum := "ad8a0db20796d65678a58c85bc4ae39dcb486393be000018ddf12cd257b75851", func := "loop.example/g00850/laws.FnExactSpanAt", spec := "fnExactSpanAt", apart := false, narrowed := true }
def FnExactSpanAtUptoSaid : Prop := fnExactSpanAtUptoRow.holds Try.pinned (OpenSpec.upto fnExactSpanAtSpec)

/-- 'laws.FnExactLookTime', WHERE WHAT IT READS IS OF BULK AT MOST 1048576: true; the input reads as it did. -/
def fnExactLookTimeUptoRow : OpenClaim := { program := "ytldhlkgbnkibkaa", sum := "ad8a0db20796d65678a58c85bc4ae39dcb486393be000018ddf12cd257b75851", func := "loop.example/g00850/laws.FnExactLookTime", spec := "fnExactLookTime", apart := false, narrowed := true }
def FnExactLookTimeUptoSaid : Prop := fnExactLookTimeUptoRow.holds Try.pinned (OpenSpec.upto fnExactLookTimeSpec)

/-- 'laws.FnExactWaitFor', WHERE WHAT IT READS IS OF BULK AT MOST 1048576: true; the input reads as it did. -/
def fnExactWaitForUptoRow : OpenClaim := { program := "ytldhlkgbnkibkaa", sum := "ad8a0db20796d65678a58c85bc4ae39dcb486393be000018ddf12cd257b75851", func := "loop.example/g00850/laws.FnExactWaitFor", spec := "fnExactWaitFor", apart := false, narrowed := true }
def FnExactWaitForUptoSaid : Prop := fnExactWaitForUptoRow.holds Try.pinned (OpenSpec.upto fnExactWaitForSpec)

/-- 'laws.FnExactTellAfter', WHERE WHAT IT READS IS OF BULK AT MOST 1048576: true; the input reads as it did. -/
def fnExactTellAfterUptoRow : OpenClaim := { program := "ytldhlkgbnkibkaa", sum := "ad8a0db20796d65678a58c85bc4ae39dcb486393be000018ddf12cd257b75851", func := "loop.example/g00850/laws.FnExactTellAfter", spec := "fnExactTellAfter", apart := false, narrowed := true }
def FnExactTellAfterUptoSaid : Prop := fnExactTellAfterUptoRow.holds Try.pinned (OpenSpec.upto fnExactTellAfterSpec)

/-- 'laws.FnExactDecideTime', WHERE WHAT IT READS IS OF BULK AT MOST 1048576: true; the input reads as it did. -/
def fnExactDecideTimeUptoRow : OpenClaim := { program := "ytldhlkgbnkibkaa", sum := "ad8a0db20796d65678a58c85bc4ae39dcb486393be000018ddf12cd257b75851", func := "loop.example/g00850/laws.FnExactDecideTime", spec := "fnExactDecideTime", unfollowed := true, recurses := true, apart := false, narrowed := true }
def FnExactDecideTimeUptoSaid : Prop := fnExactDecideTimeUptoRow.holds Try.pinned (OpenSpec.upto fnExactDecideTimeSpec)

end Rows
end Go.Proofs.Ytldhlkgbnkibkaa
