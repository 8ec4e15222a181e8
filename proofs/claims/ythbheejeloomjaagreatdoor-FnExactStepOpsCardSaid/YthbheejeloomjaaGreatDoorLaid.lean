/-
  What the rows' condition on the package strconv's variables gives the walks; a start that meets it.
  No condition.
-/
import Derived.Test.YthbheejeloomjaaGreatDoorRows
import Derived.Test.YthbheejeloomjaaGreatDoorNum1
import Derived.LaidMore
import Derived.LaidLaws
import Derived.Stop.LaidErr
import Derived.Stop.Joined
import Derived.ProofKit
import Derived.Lib.LaidTab
namespace Go.Proofs.YthbheejeloomjaaGreatDoor
open Go.ChangeShapes Go.WideShapes Go.ChangeAt Go.RowKit Go.Ab
set_option maxRecDepth 100000

def laidS : List (String × DataW Unit) := [("math/bits.deBruijn32tab", Rows.laid_math_bits_deBruijn32tab), ("math/bits.deBruijn64tab", Rows.laid_math_bits_deBruijn64tab), ("internal/strconv.uint64pow10", Rows.laid_internal_strconv_uint64pow10), ("strconv.ErrRange", Rows.laid_strconv_ErrRange), ("strconv.ErrSyntax", Rows.laid_strconv_ErrSyntax)]
theorem gt_pow : (Tryz.prog.globals[0]?).map (·.type) = some 150 := by kernel_rfl
theorem gt_syn : (Tryz.prog.globals[2]?).map (·.type) = some 129 := by kernel_rfl
theorem gt_ran : (Tryz.prog.globals[3]?).map (·.type) = some 129 := by kernel_rfl
theorem row163 (u : TypeId) (h : Tryz.prog.typeName? 3 u = some "*errors.errorString") : u = 163 := typeName_ptr_named (nm := "errors.errorString") (by kernel_rfl) (by kernel_rfl) (by decide) u h
theorem tab_laid {W : World} (h : laidMet Tryz.prog laidS W) : Tab W (fun b => W.heap.size ≤ b) := by
  have h3 := h.tail.tail
  have e : (Rows.laid_internal_strconv_uint64pow10 : DataW Unit) = Lib.tabData .u64 Lib.pow10Tab := by kernel_rfl
  rw [e] at h3
  have hp : Lib.TabIs Tryz.prog W "internal/strconv.uint64pow10" .u64 Lib.pow10Tab := Lib.tabIs_of_head g_pow gt_pow Tryz.underlying150 Tryz.underlying136 (by kernel_rfl) (by kernel_rfl) h3
  have h4 := h.tail.tail.tail
  obtain ⟨a1, s1, hr, _, _, _⟩ := laid_sentinel h4 g_ran gt_ran Tryz.underlying129 row163 Tryz.underlying163 Tryz.underlying165 rfl rfl Tryz.underlying9 (by kernel_rfl) (by kernel_rfl)
  have h5 := h4.tail
  obtain ⟨a2, s2, hs, _, _, _⟩ := laid_sentinel h5 g_syn gt_syn Tryz.underlying129 row163 Tryz.underlying163 Tryz.underlying165 rfl rfl Tryz.underlying9 (by kernel_rfl) (by kernel_rfl)
  exact ⟨VarIs.start hp g_pow, ⟨_, _, VarIs.start hs g_syn⟩, ⟨_, _, VarIs.start hr g_ran⟩⟩
theorem door_met (os : Os) (args : Array Value) : laidMetH Tryz.prog laidS ((World.doorLaid Tryz.prog 400 os).forCall (fun _ _ => 0) ⟨#[], args, []⟩).memory :=
  laidMetH_of_parts3 (fuel := 8) (laidMet_of_run' 8 (by kernel_rfl) (by kernel_rfl)) (by kernel_rfl) (by kernel_rfl)
end Go.Proofs.YthbheejeloomjaaGreatDoor
