/-
  Small steps for walks by evaluation.
  No condition: lemmas over any program.
-/
import Derived.Test.YtcdlapjpnenkdaaGreatAb15
namespace Go.Ab

/-- What a step needs, kept apart. -/
@[irreducible] def Side (p : Prop) : Prop := p
theorem side_and {p q : Prop} (h : Side p) (k : q) : p ∧ q := by unfold Side at h; exact ⟨h, k⟩
theorem side_of {p : Prop} (h : p) : Side p := by unfold Side; exact h
theorem Side.out {p : Prop} (h : Side p) : p := by unfold Side at h; exact h

theorem LoadK_of {P : Program} {T : TypeId} {cs : List AV} {K : AV → Prop} {v : AV} (h : takeA P T cs = some v) (h' : cs.all AV.plain = true) (hk : K v) : LoadK P T cs K := by
  unfold LoadK
  exact ⟨v, h, h', hk⟩

theorem i64_wrap {e : Int} (h : -9223372036854775808 ≤ e) (h' : e ≤ 9223372036854775807) : IntKind.i64.wrap e = e := by
  simp [IntKind.wrap, IntKind.signed, IntKind.bits]
  split <;> omega

/-- The number in 64 bits, in a form for omega. -/
theorem i64_wrap_eq (e : Int) : IntKind.i64.wrap e = (e + 9223372036854775808) % 18446744073709551616 - 9223372036854775808 := by
  simp [IntKind.wrap, IntKind.signed, IntKind.bits]
  split <;> omega

end Go.Ab
