/-
  The value of a cell at a time, as a contract.
  No condition.
-/
import Derived.Test.YthbheejeloomjaaGreatBack2
import Derived.Test.YthbheejeloomjaaGreatTypesB
namespace Go.Proofs.YthbheejeloomjaaGreat
open Go.Ab Go.RowKit
set_option linter.unusedSimpArgs false
set_option maxRecDepth 20000
set_option maxHeartbeats 4000000
set_option linter.unusedVariables false

def verV (v : VerT) : BkV := (v.Time, ⟨v.Val.toArray⟩, v.Gone)
theorem ver_cells {w : World} {ro : Nat → Prop} {v : VerT} {rd : Nat → Option Value} (h : CsR w ro v.cells rd) : rd 0 = some (.int .i64 v.Time) ∧ rd 1 = some (.string ⟨v.Val.toArray⟩) ∧ rd 2 = some (.bool v.Gone) := by
  unfold VerT.cells at h
  unfold CsR at h
  obtain ⟨⟨v0, a0, b0⟩, h⟩ := h
  unfold CsR at h
  obtain ⟨⟨v1, a1, b1⟩, h⟩ := h
  unfold CsR at h
  obtain ⟨⟨v2, a2, b2⟩, _⟩ := h
  unfold RR at b0 b1 b2
  subst b0 b1 b2
  exact ⟨a0, a1, a2⟩
theorem ver_rows {w : World} {ro : Nat → Prop} {esz : Nat} : ∀ (vs : List VerT) (rd : Nat → Option Value), EsR w ro esz (vs.map VerT.cells) rd → ∀ j, j < vs.length → rd (j * 3) = some (.int .i64 (bkAt (vs.map verV) j).1) ∧ rd (j * 3 + 1) = some (.string (bkAt (vs.map verV) j).2.1) ∧ rd (j * 3 + 2) = some (.bool (bkAt (vs.map verV) j).2.2)
  | [], _, _, j, hj => absurd hj (Nat.not_lt_zero _)
  | v :: vs, rd, h, j, hj => by
    have h' : EsR w ro esz (v.cells :: vs.map VerT.cells) rd := h
    unfold EsR at h'
    obtain ⟨he, hc, hr⟩ := h'
    have he' : esz = 3 := he.symm
    subst he'
    cases j with
    | zero => simpa [bkAt, verV] using ver_cells hc
    | succ j =>
      have hq := ver_rows vs _ hr j (by simpa using hj)
      have e1 : j * 3 + 3 = (j + 1) * 3 := by omega
      have e2 : j * 3 + 1 + 3 = (j + 1) * 3 + 1 := by omega
      have e3 : j * 3 + 2 + 3 = (j + 1) * 3 + 2 := by omega
      simp only [e1, e2, e3] at hq
      simpa [bkAt] using hq
def atV (vs : List VerT) (t : Int) : List UInt8 × Bool := match vs.reverse.find? (fun v => decide (v.Time ≤ t)) with | some v => (v.Val, !v.Gone) | none => ([], false)
theorem bk_take (vs : List VerT) {k : Nat} (hk : k ≤ vs.length) : (bkUp (vs.map verV) vs.length k).map (fun p => p.2) = (vs.reverse.take k).map verV := by
  apply List.ext_getElem
  · simp [bkUp]; omega
  · intro i h1 h2
    simp [bkUp, bkAt]
    have : i < k := by simpa [bkUp] using h1
    rw [List.getElem?_eq_getElem (by omega)]
    simp
theorem at_none {vs : List VerT} {t : Int} (h : ∀ p ∈ bkUp (vs.map verV) vs.length vs.length, t < p.2.1) : atV vs t = ([], false) := by
  have e : vs.reverse.find? (fun v => decide (v.Time ≤ t)) = none := by
    rw [List.find?_eq_none]
    intro v hv
    have hm : verV v ∈ (vs.reverse.take vs.length).map verV := by
      rw [List.take_of_length_le (by simp)]
      exact List.mem_map_of_mem hv
    rw [← bk_take vs (Nat.le_refl _)] at hm
    obtain ⟨p, hp, hpe⟩ := List.mem_map.1 hm
    have := h p hp
    rw [hpe] at this
    have h2 : t < v.Time := this
    simp
    omega
  unfold atV
  rw [e]
theorem find_at {α : Type} {q : α → Bool} {xs pre : List α} {x : α} {k : Nat} (he : xs.take k = pre ++ [x]) (hp : ∀ y ∈ pre, q y = false) (hx : q x = true) : xs.find? q = some x := by
  rw [← List.take_append_drop k xs, he, List.append_assoc, List.find?_append]
  have : pre.find? q = none := List.find?_eq_none.2 fun y hy => by rw [hp y hy]; decide
  rw [this]
  simp [hx]
theorem at_some {vs : List VerT} {t : Int} {k : Nat} {ini : List (Nat × BkV)} {last : Nat × BkV} (hk : k ≤ vs.length) (he : bkUp (vs.map verV) vs.length k = ini ++ [last]) (hi : ∀ p ∈ ini, t < p.2.1) (hl : last.2.1 ≤ t) : ∃ v : VerT, last.2 = verV v ∧ atV vs t = (v.Val, !v.Gone) := by
  have h := bk_take vs hk
  rw [he, List.map_append] at h
  have h2 := h.symm
  obtain ⟨l1, l2, e1, e2, e3⟩ := List.map_eq_append_iff.1 h2
  obtain ⟨v, rfl⟩ : ∃ v, l2 = [v] := by
    match l2, e3 with
    | [v], _ => exact ⟨v, rfl⟩
    | [], e3 => simp at e3
    | _ :: _ :: _, e3 => simp at e3
  have e4 : last.2 = verV v := by simpa using e3.symm
  refine ⟨v, e4, ?_⟩
  unfold atV
  have hq : vs.reverse.find? (fun v => decide (v.Time ≤ t)) = some v := by
    refine find_at e1 (fun y hy => ?_) ?_
    · have : verV y ∈ l1.map verV := List.mem_map_of_mem hy
      rw [e2] at this
      obtain ⟨p, hp, hpe⟩ := List.mem_map.1 this
      have h5 := hi p hp
      rw [hpe] at h5
      have h6 : t < y.Time := h5
      simp
      omega
    · rw [e4] at hl
      have : v.Time ≤ t := hl
      simpa using this
  rw [hq]
theorem c_impl_Cell_at (c : CellT) (t : Int) (hl : c.Vers.length ≤ 1048576) : PC Tryz.prog false 85 [.agg c.cells, .int .i64 t] (.tup [.str (atV c.Vers t).1, .bool (atV c.Vers t).2]) [] := by
  refine ⟨fun w R vals hR hv => ?_⟩
  unfold CellT.cells at hv
  match vals, hv with
  | [], hv => unfold LR at hv; exact hv.elim
  | [_], hv => unfold LR at hv; have := hv.2; unfold LR at this; exact this.elim
  | _ :: _ :: _ :: _, hv => unfold LR at hv; have := hv.2; unfold LR at this; have := this.2; unfold LR at this; exact this.elim
  | [v0, v1], hv =>
    unfold LR at hv
    obtain ⟨q0, hv⟩ := hv
    unfold LR at hv
    obtain ⟨q1, _⟩ := hv
    unfold RR at q0 q1
    obtain ⟨vs, rfl, q0⟩ := q0
    subst q1
    obtain ⟨vs⟩ := vs
    match vs, q0 with
    | [], q0 => unfold LR at q0; exact q0.elim
    | [_], q0 => unfold LR at q0; have := q0.2; unfold LR at this; exact this.elim
    | _ :: _ :: _ :: _, q0 => unfold LR at q0; have := q0.2; unfold LR at this; have := this.2; unfold LR at this; exact this.elim
    | [u0, u1], q0 =>
      unfold LR at q0
      obtain ⟨r0, q0⟩ := q0
      unfold LR at q0
      obtain ⟨r1, _⟩ := q0
      unfold RR at r0 r1
      subst r0
      obtain ⟨base, cap, rfl, hcap, hrow⟩ := r1
      rw [List.length_map]
      have hI : BkS w.heap.size w (.slice base c.Vers.length cap) (c.Vers.map verV) := by
        rcases hrow with hrow | ⟨b, o, esz, rfl, hb, hrow⟩
        · have hnil : c.Vers = [] := List.map_eq_nil_iff.1 hrow
          rw [hnil]
          exact .inl ⟨⟨_, _, rfl⟩, rfl⟩
        · refine .inr ⟨b, o, cap, by rw [List.length_map], hR.lt b hb, ?_⟩
          rw [List.length_map]
          exact ver_rows c.Vers _ hrow
      rw [Ans_body Tryz.func85 rfl rfl]
      refine (callsIn_wide (n := 4)).1 ((at_in Fence.wide 4 trivial trivial trivial rfl (Nat.le_refl _) ⟨c.Key.toArray⟩ base c.Vers.length cap t (c.Vers.map verV) (by rw [List.length_map]; omega) w hI).mono ?_)
      rintro e w' ⟨h, hb⟩
      have fin : ∀ (l : List UInt8) (g : Bool), e = .returned (.tuple #[.string ⟨l.toArray⟩, .bool g]) → atV c.Vers t = (l, g) → ∃ v, e = .returned v ∧ ∃ hdr, Below w.heap.size w w' ∧ ResR R false w w' hdr (.tup [.str (atV c.Vers t).1, .bool (atV c.Vers t).2]) [] v := by
        intro l g he ha
        rw [ha]
        subst he
        refine ⟨_, rfl, fun _ => ⟨undef, []⟩, hb, ⟨?_, fun o h => (by cases h), fun id o h => (by simp at h), fun i j o o' b h => (by simp at h)⟩⟩
        unfold VR
        refine ⟨_, rfl, ?_⟩
        unfold VL
        refine ⟨by unfold VR; rfl, ?_⟩
        unfold VL
        refine ⟨by unfold VR; rfl, ?_⟩
        unfold VL; trivial
      rw [List.length_map] at h
      rcases h with ⟨he, hall⟩ | ⟨ini, last, ⟨k, hk, e1⟩, e2, e3, he⟩
      · exact fin [] false he (at_none hall)
      · obtain ⟨v, ev, ea⟩ := at_some hk e1 e2 e3
        rw [ev] at he
        exact fin _ _ he ea
end Go.Proofs.YthbheejeloomjaaGreat
