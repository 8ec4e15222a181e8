/-
  Marks that are written into a list, and read again.
  No condition: definitions and lemmas over any program.
-/
import Derived.Test.YtcdlapjpnenkdaaGreatAb19
namespace Go.Ab

def markList {α : Type} (c : Int) (f : Int → α) (k : Int) (n : Nat) : List α := (List.range n).map fun i : Nat => f (k + c * (i : Int))

section
variable {α : Type} {c k : Int} {f : Int → α} {C : α → List AV} {xs : List α} {i n : Nat} {x : α}
theorem markList_length : (markList c f k n).length = n := by simp [markList]
theorem markList_snoc : markList c f k (i + 1) = markList c f k i ++ [f (k + c * (i : Int))] := by
  simp [markList, List.range_succ]
theorem markList_get (hx : (markList c f k n)[i]? = some x) : x = f (k + c * (i : Int)) := by
  unfold markList at hx
  rw [List.getElem?_map, Option.map_eq_some_iff] at hx
  obtain ⟨j, hj, rfl⟩ := hx
  obtain ⟨hlt, e⟩ := List.getElem?_eq_some_iff.1 hj
  simp at e
  rw [e]
theorem get_lt (h : i < xs.length) : ∃ x, xs[i]? = some x := ⟨xs[i], by simp [h]⟩

theorem ix_mark {A : List (List AV)} {Q : List AV → Prop} (hA : A.length = i) (hx : xs[i]? = some x) (hQ : Q (C x)) : ∃ e, (A ++ (xs.drop i).map C)[(i : Int).toNat]? = some e ∧ Q e := by
  refine ⟨C x, ?_, hQ⟩
  have hA' : A.length ≤ (i : Int).toNat := by simp; omega
  rw [List.getElem?_append_right hA', drop_get hx]
  simp [hA]
theorem ix_set {L : List (List AV)} {e : List AV} {Q : List AV → Prop} {i : Nat} (h : i < L.length) (hQ : Q e) : ∃ e', (L.set i e)[i]? = some e' ∧ Q e' := ⟨e, by simp [h], hQ⟩

theorem mark_set {e : List AV} (hx : xs[i]? = some x) (he : e = C (f (k + c * (i : Int)))) :
    ((markList c f k i).map C ++ (xs.drop i).map C).set i e = (markList c f k (i + 1)).map C ++ (xs.drop (i + 1)).map C := by
  subst he
  rw [List.set_append_right _ _ (by simp [markList_length]), drop_get hx, markList_snoc]
  simp [markList_length]
theorem mark_end (h : xs.length ≤ i) (h' : i ≤ xs.length) : (markList c f k i).map C ++ (xs.drop i).map C = (markList c f k xs.length).map C := by
  have : i = xs.length := by omega
  subst this
  simp
end

theorem inc_eq {x y : Int} (h : x = y) (h1 : 0 ≤ y) (h2 : y ≤ 1152921504606846976) : IntKind.i64.wrap (x + 1) = y + 1 := by
  rw [h, i64_wrap (by omega) (by omega)]
theorem map_len {α : Type} {f : α → List AV} {xs : List α} {n : Nat} (h : ∀ x, (f x).length = n) : ∀ z ∈ xs.map f, z.length = n := fun z hz => by
  obtain ⟨x, _, rfl⟩ := List.mem_map.1 hz
  exact h x
theorem map_one {α : Type} {f : α → List AV} (h : ∀ x, (f x).all AV.one = true) : ∀ xs : List α, (xs.map f).flatten.all AV.one = true
  | [] => rfl
  | x :: xs => by
    simp only [List.map_cons, List.flatten_cons, List.all_append, Bool.and_eq_true]
    exact ⟨h x, map_one h xs⟩
theorem map_nil_of {α : Type} {f : α → List AV} {xs : List α} (h : (xs.map f).length = 0) : xs.map f = [] := List.length_eq_zero_iff.1 h

/-! The text of a number. -/
def digs (fuel : Nat) (q : Int) (out : List UInt8) : List UInt8 :=
  match fuel with
  | 0 => out
  | fuel + 1 => if q > 0 then digs fuel (q.tdiv 10) ((IntKind.u8.wrap (48 + q.tmod 10)).toNat.toUInt8 :: out) else out
def mText (k : Int) : List UInt8 := if k ≤ 0 then [109, 48] else 109 :: digs k.toNat k []

end Go.Ab
