/-
  What the functions that compare states give.
  No condition.
-/
import Derived.Test.YtpbabdnbbpgejaaTypesB
namespace Go.Proofs.Ytpbabdnbbpgejaa
open Go.Ab
set_option linter.unusedSimpArgs false
set_option maxRecDepth 20000
set_option linter.unusedVariables false

def HeldT.rec1 (x : HeldT) : RecT := ⟨1, x.Txn, x.Time, x.Lead, x.Reads, x.Writes, false⟩
theorem rec1_inj {x y : HeldT} : (x.rec1 = y.rec1) ↔ x = y := by
  constructor
  · intro h
    cases x; cases y
    simp_all [HeldT.rec1]
  · intro h; rw [h]
theorem rec1_ok {x : HeldT} (h : x.ok) : x.rec1.ok := ⟨trivial, h.1, h.2.1, h.2.2.1, h.2.2.2.1, h.2.2.2.2, trivial⟩
end Go.Proofs.Ytpbabdnbbpgejaa
