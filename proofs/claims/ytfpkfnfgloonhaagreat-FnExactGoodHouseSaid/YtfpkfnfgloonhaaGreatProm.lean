/-
  Flat objects of a function's result as objects that own what they reach.
  No condition.
-/
import Derived.Test.YtfpkfnfgloonhaaGreatFrz
namespace Go.Ab
set_option linter.unusedVariables false

/-- Some of the objects are taken as such that own what they reach. -/
def PromO : List AObj → List AObj → Prop
  | [], os' => os' = []
  | o :: os, os' => ∃ o' l, os' = o' :: l ∧ (o' = o ∨ ∃ shp, o.kind = .slc ∧ o' = { o with kind := .deep shp } ∧ ∀ e ∈ o.elems, flatFit shp e = true) ∧ PromO os l
theorem PromO.at : ∀ {os os' : List AObj}, PromO os os' → ∀ i : Nat, (os[i]? = none ∧ os'[i]? = none) ∨ ∃ o o', os[i]? = some o ∧ os'[i]? = some o' ∧ (o' = o ∨ ∃ shp, o.kind = .slc ∧ o' = { o with kind := .deep shp } ∧ ∀ e ∈ o.elems, flatFit shp e = true)
  | [], os', h, i => by
    unfold PromO at h
    subst h
    exact .inl ⟨by simp, by simp⟩
  | o :: os, os', h, i => by
    unfold PromO at h
    obtain ⟨o', l, rfl, h1, h2⟩ := h
    cases i with
    | zero => exact .inr ⟨o, o', rfl, rfl, h1⟩
    | succ i => simpa using PromO.at h2 i
theorem PC.prom {P : Program} {sh : Bool} {f : Nat} {args : List AV} {r : AV} {os os' : List AObj} (h : PC P sh f args r os) (hp : PromO os os') : PC P sh f args r os' := by
  refine ⟨fun w R vals hR hv => Ans_mono (h.run w R vals hR hv) fun v w' hq => ?_⟩
  obtain ⟨hdr, hb, hval, hslc, hobj, hdis⟩ := hq
  have back : ∀ (i : Nat) (o' : AObj), os'[i]? = some o' → ∃ o, os[i]? = some o ∧ (o' = o ∨ ∃ shp, o.kind = .slc ∧ o' = { o with kind := .deep shp } ∧ ∀ e ∈ o.elems, flatFit shp e = true) := by
    intro i o' hi
    rcases hp.at i with ⟨_, h2⟩ | ⟨o, o2, h1, h2, h3⟩
    · rw [h2] at hi; cases hi
    · rw [h2] at hi; cases hi; exact ⟨o, h1, h3⟩
  have forth : ∀ (i : Nat) (o : AObj), os[i]? = some o → ∃ o', os'[i]? = some o' ∧ (o' = o ∨ ∃ shp, o.kind = .slc ∧ o' = { o with kind := .deep shp } ∧ ∀ e ∈ o.elems, flatFit shp e = true) := by
    intro i o hi
    rcases hp.at i with ⟨h1, _⟩ | ⟨o1, o2, h1, h2, h3⟩
    · rw [h1] at hi; cases hi
    · rw [h1] at hi; cases hi; exact ⟨o2, h2, h3⟩
  generalize hc : resCtx R sh w w' hdr os = c at hval hobj
  generalize hc' : resCtx R sh w w' hdr os' = c'
  have eo : ∀ i, c.objs i = os[i]? := fun i => by rw [← hc]; rfl
  have eo' : ∀ i, c'.objs i = os'[i]? := fun i => by rw [← hc']; rfl
  have ew : c'.w = c.w := by rw [← hc, ← hc']; rfl
  have eh : c'.hdr = c.hdr := by rw [← hc, ← hc']; rfl
  have hro : ∀ b, c.ro b → c'.ro b := by
    intro b q
    rw [← hc] at q
    rw [← hc']
    obtain ⟨q1, q2, q3⟩ := q
    refine ⟨q1, q2, fun i o' hi => ?_⟩
    obtain ⟨o, h1, _⟩ := back i o' hi
    exact q3 i o h1
  have hR : ∀ x u, RR c.w c.ro x u → RR c'.w c'.ro x u := fun x u => by rw [ew]; exact RR.mono (fun _ _ _ => rfl) hro x u
  have hO : ∀ i o, c.objs i = some o → ∃ o', c'.objs i = some o' ∧ o'.esz = o.esz ∧ (c'.hdr i).v = (c.hdr i).v := by
    intro i o hi
    rw [eo] at hi
    obtain ⟨o', h1, h2⟩ := forth i o hi
    refine ⟨o', by rw [eo']; exact h1, ?_, by rw [eh]⟩
    rcases h2 with rfl | ⟨shp, _, rfl, _⟩ <;> rfl
  have hQ : ∀ i o, c.objs i = some o → ∃ o', c'.objs i = some o' ∧ o'.esz = o.esz ∧ (c'.hdr i).v = (c.hdr i).v ∧ o'.box = o.box := by
    intro i o hi
    rw [eo] at hi
    obtain ⟨o', h1, h2⟩ := forth i o hi
    refine ⟨o', by rw [eo']; exact h1, ?_, by rw [eh], ?_⟩
    · rcases h2 with rfl | ⟨shp, _, rfl, _⟩ <;> rfl
    · rcases h2 with rfl | ⟨shp, hk, rfl, _⟩
      · rfl
      · unfold AObj.box; rw [hk]
  have hC := cel_keep (c := c) (c' := c') hO (fun i o o' shp q1 q2 q3 => by
    rw [eo] at q1
    rw [eo'] at q2
    obtain ⟨o2, h1, h2⟩ := forth i o q1
    rw [q2] at h1
    cases h1
    rcases h2 with rfl | ⟨shp', e2, _⟩
    · rfl
    · rw [e2] at q3; cases q3) (fun i o b j _ _ => by rw [ew])
  refine ⟨hdr, hb, ?_, ?_, ?_, ?_⟩
  · rw [hc']
    exact VR.mono hR hC (prt_keep hQ) hO _ _ hval
  · intro o' ho'
    obtain ⟨i, hi⟩ := List.getElem?_of_mem ho'
    obtain ⟨o, h1, h2⟩ := back i o' hi
    have hb0 := hslc o (List.mem_of_getElem? h1)
    rcases h2 with rfl | ⟨shp, hk, rfl, _⟩
    · exact hb0
    · rfl
  · intro i o' hi
    rw [hc']
    obtain ⟨o, h1, h2⟩ := back i o' hi
    obtain ⟨k2, k3, kn, cs, k4, k5, k6⟩ := hobj i o h1
    rcases h2 with rfl | ⟨shp, hk, rfl, hf⟩
    · refine ⟨k2, k3, by rw [ew]; exact kn, cs, by rw [ew]; exact k4, k5, ?_⟩
      cases hk : o'.kind with
      | box =>
        obtain ⟨q1, q2⟩ := k6.box hk
        rw [q2]
        exact CellsR_box hk (VL.mono hR hC (prt_keep hQ) hO _ _ q1)
      | slc =>
        obtain ⟨q1, q2⟩ := k6.slc hk
        rw [q2]
        exact CellsR_slc hk (LR.ofR hR _ _ q1)
      | deep shp =>
        have := k6.deep hk
        rw [← ew] at this
        exact CellsR_deep hk this
    · obtain ⟨q1, q2⟩ := k6.slc hk
      refine ⟨k2, k3, by rw [ew]; exact kn, cs, by rw [ew]; exact k4, k5, ?_⟩
      rw [q2]
      have := flat_TEs k3 hf q1
      rw [← ew] at this
      exact CellsR_deep (sh := shp) rfl this
  · intro i j o o' b hi hj
    obtain ⟨o1, h1, _⟩ := back i o hi
    obtain ⟨o2, h2, _⟩ := back j o' hj
    exact hdis i j o1 o2 b h1 h2
end Go.Ab
