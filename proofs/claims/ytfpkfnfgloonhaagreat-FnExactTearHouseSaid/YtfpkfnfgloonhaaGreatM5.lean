/-
  Parts of an object as values: slices of it, their lengths, copies, clears and appends in place.
  The rules of the operations on parts of objects.
  Appends to parts of objects; slices.overlaps; a part that becomes the object.
  Contracts of functions that objects are handed over to.
  A call of a function that objects are handed over to.
  Plain laws: lists from which elements are struck, into which elements are put.
  A slice that lies in a cell of an object becomes an object of its own (an append to it).
  A copy out of a part of an object of which only the first elements are known.
  No condition: definitions and lemmas over any program.
-/
import Derived.Test.YtfpkfnfgloonhaaGreatAb31
import Derived.Lib.Overlaps
namespace Go.Ab
open Go.RowKit
set_option linter.unusedVariables false

section
variable {F : Nat → Prop} {w0 : Base} {gv : List Value} {s : St} {a : Act} {w : World} {hdr : Nat → Hdr}

end

/-! The runs of copy and clear. -/
end Go.Ab
namespace Go.Ab
open Go.RowKit
set_option linter.unusedVariables false

theorem hook_of {P : Program} {o : Oper} {nid : Nat} {s : St} {K : St → Prop} (h : OpOk P o s K) : HookA P o nid s K := by
  unfold HookA
  exact ⟨rfl, h⟩

section
variable {P : Program} {s : St} {K : St → Prop} {dst : Option Tmp} {type : TypeId} {pos : String} {after : Array Edge} {guard : Option (Nat × Bool)} {nid : Nat}

end
end Go.Ab
namespace Go.Ab
open Go.RowKit
set_option linter.unusedVariables false

section
variable {P : Program} {s : St} {K : St → Prop} {dst : Option Tmp} {type : TypeId} {pos : String} {after : Array Edge} {guard : Option (Nat × Bool)} {nid : Nat}

end
end Go.Ab
namespace Go.Ab
open Go.RowKit
set_option linter.unusedVariables false

structure XRes (os : List AObj) (hdr : Nat → Hdr) (os' : List AObj) (r : AV) (w w' : World) (hdr' : Nat → Hdr) (v : Value) : Prop where
  sys : w'.os = w.os
  tape : w'.tape = w.tape
  output : w'.output = w.output
  size : w.heap.size ≤ w'.heap.size
  block : ∀ k, k < w.heap.size → (∀ (i : Nat) o, os[i]? = some o → ¬ (hdr i).has k) → w'.heap[k]? = w.heap[k]?
  val : VR ⟨w', fun _ => False, hdr', fun i => os'[i]?⟩ r v
  objs : ∀ (i : Nat) o, os'[i]? = some o → o.box = false ∧ ObjR (fun b => w.heap.size ≤ b ∨ ∃ (j : Nat) (oj : AObj), os[j]? = some oj ∧ (hdr j).has b) ⟨w', fun _ => False, hdr', fun i => os'[i]?⟩ o (hdr' i)
  dis : ∀ (i j : Nat) o o' b, os'[i]? = some o → os'[j]? = some o' → (hdr' i).has b → (hdr' j).has b → i = j

structure XC (P : Program) (f : Nat) (os : List AObj) (args : List AV) (r : AV) (os' : List AObj) : Prop where
  run : ∀ (w : World) (R : Nat → Prop) (hdr : Nat → Hdr) (vals : List Value),
    (∀ b, R b → b < w.heap.size ∧ ∀ (i : Nat) o, os[i]? = some o → ¬ (hdr i).has b) →
    (∀ (i : Nat) o, os[i]? = some o → ObjR (fun _ => True) ⟨w, R, hdr, fun i => os[i]?⟩ o (hdr i)) →
    (∀ (i j : Nat) o o' b, os[i]? = some o → os[j]? = some o' → (hdr i).has b → (hdr j).has b → i = j) →
    VL ⟨w, R, hdr, fun i => os[i]?⟩ args vals →
    Ans P f vals.toArray w fun v w' => ∃ hdr', XRes os hdr os' r w w' hdr' v

section
variable {F : Nat → Prop} {w0 : Base} {gv : List Value} {s : St} {a : Act} {w : World} {hdr : Nat → Hdr} {R : Nat → Prop} {ids : List Nat}

end
end Go.Ab
namespace Go.Ab
open Go.RowKit
set_option linter.unusedVariables false

end Go.Ab
namespace Go.Ab
open Go.RowKit
set_option linter.unusedVariables false

section
variable {α : Type} {q : α → Bool} {xs es : List α} {i j : Nat} {x : α}

theorem idxF_some : ∀ {xs : List α} {k i : Nat}, idxF q k xs = ((k + i : Nat) : Int) → ∃ x, xs[i]? = some x ∧ q x = true ∧ ∀ y ∈ xs.take i, q y = false
  | [], k, i, h => by unfold idxF at h; omega
  | y :: ys, k, i, h => by
    unfold idxF at h
    split at h
    · rename_i hq
      have : i = 0 := by omega
      subst this
      exact ⟨y, rfl, hq, fun z hz => by simp at hz⟩
    · rename_i hq
      have hi : i ≠ 0 := by
        intro e
        subst e
        rcases Int.lt_or_le (idxF q (k + 1) ys) 0 with h1 | h1
        · omega
        · obtain ⟨_, _, _, h2⟩ := idxF_lt (q := q) (xs := ys) (k := k + 1) rfl h1
          omega
      obtain ⟨i', rfl⟩ : ∃ i', i = i' + 1 := ⟨i - 1, by omega⟩
      obtain ⟨x, h1, h2, h3⟩ := idxF_some (xs := ys) (k := k + 1) (i := i') (by rw [h]; congr 1; omega)
      refine ⟨x, by simpa using h1, h2, fun z hz => ?_⟩
      simp only [List.take_succ_cons, List.mem_cons] at hz
      rcases hz with rfl | hz
      · simpa using hq
      · exact h3 z hz
theorem idxF_bound (q : α → Bool) (xs : List α) : idxF q 0 xs = -1 ∨ (0 ≤ idxF q 0 xs ∧ idxF q 0 xs < xs.length) := by
  rcases Int.lt_or_le (idxF q 0 xs) 0 with h | h
  · left
    have : ∀ (xs : List α) (k : Nat), idxF q k xs < 0 → idxF q k xs = -1 := by
      intro xs
      induction xs with
      | nil => intro k _; rfl
      | cons y ys ih =>
        intro k hk
        unfold idxF at hk ⊢
        split
        · rename_i hq; rw [if_pos hq] at hk; omega
        · rename_i hq; rw [if_neg hq] at hk; exact ih _ hk
    exact this xs 0 h
  · right
    obtain ⟨x, h1, _⟩ := idxF_lt (q := q) (xs := xs) (k := 0) rfl h
    have := (List.getElem?_eq_some_iff.1 h1).1
    omega

def DelInv (q : α → Bool) (xs es : List α) (i j : Nat) : Prop := es.length = xs.length ∧ i < j ∧ j ≤ xs.length ∧ es.take i = (xs.take j).filter (fun y => !q y) ∧ es.drop j = xs.drop j
theorem DelInv.start (h : ¬ idxF q 0 xs = -1) : DelInv q xs xs (idxF q 0 xs).toNat ((idxF q 0 xs).toNat + 1) := by
  rcases idxF_bound q xs with h1 | ⟨h1, h2⟩
  · exact absurd h1 h
  · obtain ⟨x, e1, e2, e3⟩ := idxF_some (q := q) (xs := xs) (k := 0) (i := (idxF q 0 xs).toNat) (by omega)
    refine ⟨rfl, by omega, by omega, ?_, rfl⟩
    rw [List.take_add_one, e1, List.filter_append, List.filter_eq_self.2 (fun y hy => by rw [e3 y hy]; rfl)]
    simp [e2]
theorem DelInv.get (h : DelInv q xs es i j) (hx : es[j]? = some x) : xs[j]? = some x := by
  have h1 : (es.drop j)[0]? = some x := by simpa using hx
  rw [h.2.2.2.2] at h1
  simpa using h1
theorem DelInv.keep (h : DelInv q xs es i j) (hx : es[j]? = some x) (hq : q x = false) : DelInv q xs (es.set i x) (i + 1) (j + 1) := by
  have hx2 := h.get hx
  obtain ⟨h1, h2, h3, h4, h5⟩ := h
  have hj := (List.getElem?_eq_some_iff.1 hx2).1
  refine ⟨by simp [h1], by omega, by omega, ?_, ?_⟩
  · rw [List.take_add_one, List.take_set_of_le (Nat.le_refl _), h4, List.getElem?_set, if_pos rfl, if_pos (by omega), List.take_add_one, hx2, List.filter_append]
    simp [hq]
  · rw [List.drop_set_of_lt (by omega)]
    rw [← List.drop_drop, ← List.drop_drop, h5]
theorem DelInv.skip (h : DelInv q xs es i j) (hx : es[j]? = some x) (hq : q x = true) : DelInv q xs es i (j + 1) := by
  have hx2 := h.get hx
  obtain ⟨h1, h2, h3, h4, h5⟩ := h
  have hj := (List.getElem?_eq_some_iff.1 hx2).1
  refine ⟨h1, by omega, by omega, ?_, ?_⟩
  · rw [h4, List.take_add_one, hx2, List.filter_append]
    simp [hq]
  · rw [← List.drop_drop, ← List.drop_drop, h5]
theorem DelInv.done (h : DelInv q xs es i j) (hj : ¬ (j : Int) < xs.length) : es.take i = xs.filter (fun y => !q y) := by
  rw [h.2.2.2.1, List.take_of_length_le (by omega)]
end

end Go.Ab
namespace Go.Ab
open Go.RowKit
set_option linter.unusedVariables false

def detO (s : St) (id nid : Nat) (o1 o2 : AObj) : St :=
  match takeIn s [] id o1 with
  | ⟨e, z, ob, n, g⟩ => ⟨e, z, fun i => if i = nid then some o2 else ob i, n, g⟩
def detK (dp : Bool) (cells : List Shp) : BK := match dp with | true => .deep cells | false => .slc
def detS (s : St) (t id nid : Nat) (o1 o2 : AObj) : St :=
  match detO s id nid o1 o2 with
  | ⟨e, z, ob, n, g⟩ => ⟨upd t (.own nid) e, z, ob, n, g⟩

section
variable {F : Nat → Prop} {w0 : Base} {gv : List Value} {s : St} {a : Act} {w : World} {hdr : Nat → Hdr}
theorem Sim.detach {id nid ty esz ty' esz' idx off : Nat} {sh cells : List Shp} {es : List (List AV)} {e : List AV} {xs : List (List AV)} {v : Value} (dp : Bool) (hs : Sim F w0 gv s a w hdr)
    (ho : s.objs id = some ⟨.deep sh, ty, esz, es⟩) (he : es[idx]? = some e) (hsh : sh[off]? = some (.sl ty' esz' cells)) (hid : s.objs nid = none) (hv : VR (s.ctx F w hdr) (.cel id idx off xs) v) :
    ∃ hdr', (hdr' nid).v = v ∧ Sim F w0 gv (detO s id nid ⟨.deep sh, ty, esz, es.set idx (e.set off .any)⟩ ⟨detK dp cells, ty', esz', xs⟩) a w hdr' := by
  unfold VR at hv
  obtain ⟨o1, blk, sh1, e1, r1, r2, r3, r4, r5, r6⟩ := hv
  replace r1 : s.objs id = some o1 := r1
  rw [ho] at r1
  cases r1
  cases r2
  replace r3 : es[idx]? = some e1 := r3
  rw [he] at r3
  cases r3
  obtain ⟨hpos, hlens, ⟨n1, n2, n3⟩, cs, hrow, hone, hcl⟩ := hs.objs id _ ho
  have htree := hcl.deep rfl
  obtain ⟨S1, Se, S2, q1, q2, q3, q4⟩ := htree.at he
  obtain ⟨T1, Ta, T2, shc', v', f1, f2, f3, f4, f5, f6⟩ := q2.at r4
  rw [hsh] at f2
  cases f2
  have hlt : off < esz := by
    have h1 : e.length = esz := hlens e (List.mem_of_getElem? he)
    have h2 := (List.getElem?_eq_some_iff.1 r4).1
    omega
  have f7 : cs[idx * esz + off]? = some v' := by
    rw [List.getElem?_take, if_pos hlt, List.getElem?_drop] at f3
    exact f3
  have hc := hrow.cells r5 _ _ f7
  rw [Addr.add_lit, Nat.zero_add] at hc
  have hvv : v' = v := Option.some.inj (hc.symm.trans r6)
  subst hvv
  have hfp : (hdr id).fp = (S1 ++ T1) ++ Ta ++ (T2 ++ S2) := by rw [q1, f1]; simp [List.append_assoc]
  have hin : ∀ b ∈ Ta, b ∈ (hdr id).fp := fun b hb => by rw [hfp]; exact List.mem_append_left _ (List.mem_append_right _ hb)
  have hnd0 := n1
  rw [hfp] at hnd0
  have hTaN : Ta.Nodup := by
    have := hnd0
    rw [List.nodup_append] at this
    have := this.1
    rw [List.nodup_append] at this
    exact this.2.1
  have hsep : ∀ b ∈ Ta, b ∉ S1 ++ T1 ∧ b ∉ T2 ++ S2 := by
    intro b hb
    have h0 := hnd0
    rw [List.nodup_append] at h0
    have h1 := h0.1
    rw [List.nodup_append] at h1
    exact ⟨fun h => h1.2.2 b h b hb rfl, fun h => h0.2.2 b (List.mem_append_right _ hb) b h rfl⟩
  have hold : ∀ b, b ∈ S1 ++ T1 ∨ b ∈ T2 ++ S2 → b ∈ (hdr id).fp := fun b hb => by
    rw [hfp]
    rcases hb with hb | hb
    · exact List.mem_append_left _ (List.mem_append_left _ hb)
    · exact List.mem_append_right _ hb
  unfold TR at f4
  obtain ⟨ty2, esz2, cells2, cs2, S', g1, g2, g3, g4, g5, g6⟩ := f4
  cases g1
  have hne : id ≠ nid := fun e => by rw [← e, ho] at hid; cases hid
  have hS'in : ∀ b ∈ S', b ∈ Ta := fun b hb => by rw [g5]; exact List.mem_append_right _ hb
  have hvin : ∀ b, v'.blk = some b → b ∈ Ta := fun b hb => by rw [g5, hb]; simp
  have hS'nd : S'.Nodup := by rw [g5, List.nodup_append] at hTaN; exact hTaN.2.1
  have hvS' : ∀ b, v'.blk = some b → b ∉ S' := fun b hb hb' => by
    rw [g5, List.nodup_append] at hTaN
    exact hTaN.2.2 b (by rw [hb]; simp) b hb' rfl
  generalize hfp2 : (match dp with | true => S' | false => ([] : List Nat)) = fp2
  have hfp2in : ∀ b ∈ fp2, b ∈ S' := fun b hb => by
    rw [← hfp2] at hb
    cases dp <;> simp at hb
    exact hb
  have hfp2nd : fp2.Nodup := by rw [← hfp2]; cases dp <;> simp [hS'nd]
  generalize hH : (fun i => if i = nid then (⟨v', fp2⟩ : Hdr) else if i = id then ⟨(hdr id).v, (S1 ++ T1) ++ (T2 ++ S2)⟩ else hdr i) = hdr'
  have hHn : hdr' nid = ⟨v', fp2⟩ := by rw [← hH]; simp
  have hHi : hdr' id = ⟨(hdr id).v, (S1 ++ T1) ++ (T2 ++ S2)⟩ := by rw [← hH]; simp [hne]
  have hHo : ∀ i, i ≠ nid → i ≠ id → hdr' i = hdr i := fun i h1 h2 => by rw [← hH]; simp [h1, h2]
  have hHv : ∀ i, i ≠ nid → (hdr' i).v = (hdr i).v := fun i h1 => by
    by_cases h2 : i = id
    · subst h2; rw [hHi]
    · rw [hHo i h1 h2]
  generalize hs' : detO s id nid ⟨.deep sh, ty, esz, es.set idx (e.set off .any)⟩ ⟨detK dp cells, ty', esz', xs⟩ = s'
  have hon : s'.objs nid = some ⟨detK dp cells, ty', esz', xs⟩ := by rw [← hs']; simp [detO, takeIn]
  have hoi : s'.objs id = some ⟨.deep sh, ty, esz, es.set idx (e.set off .any)⟩ := by rw [← hs']; simp [detO, takeIn, hne]
  have hoo : ∀ i, i ≠ nid → i ≠ id → s'.objs i = (s.objs i).map (subO (killsO []) (killsP []) (killsC [id])) := fun i h1 h2 => by rw [← hs']; simp [detO, takeIn, h1, h2, inL]
  have hinid : ∀ b, (hdr' id).has b → (hdr id).has b := by
    intro b hb
    rw [hHi] at hb
    rcases hb with hb | hb
    · exact .inl hb
    · rcases List.mem_append.1 hb with hb | hb
      · exact .inr (hold b (.inl hb))
      · exact .inr (hold b (.inr hb))
  have hinn : ∀ b, (hdr' nid).has b → b ∈ Ta := by
    intro b hb
    rw [hHn] at hb
    rcases hb with hb | hb
    · exact hvin b hb
    · exact hS'in b (hfp2in b hb)
  have hsepI : ∀ b, (hdr' id).has b → b ∈ Ta → False := by
    intro b hb hbT
    rw [hHi] at hb
    rcases hb with hb | hb
    · exact n2 b hb (hin b hbT)
    · rcases List.mem_append.1 hb with hb | hb
      · exact (hsep b hbT).1 hb
      · exact (hsep b hbT).2 hb
  have hcase : ∀ i oi, s'.objs i = some oi → i = nid ∨ i = id ∨ (i ≠ nid ∧ i ≠ id ∧ ∃ o1, s.objs i = some o1 ∧ oi = subO (killsO []) (killsP []) (killsC [id]) o1) := by
    intro i oi hi
    by_cases h1 : i = nid
    · exact .inl h1
    · by_cases h2 : i = id
      · exact .inr (.inl h2)
      · refine .inr (.inr ⟨h1, h2, ?_⟩)
        rw [hoo i h1 h2] at hi
        cases hs1 : s.objs i with
        | none => rw [hs1] at hi; cases hi
        | some o1 => rw [hs1] at hi; exact ⟨o1, rfl, by simpa using hi.symm⟩
  have hO : ∀ i oi, s.objs i = some oi → ∃ o', s'.objs i = some o' ∧ o'.esz = oi.esz ∧ (hdr' i).v = (hdr i).v ∧ o'.box = oi.box := by
    intro i oi hi
    have hin' : i ≠ nid := fun e => by rw [e, hid] at hi; cases hi
    by_cases hx : i = id
    · subst hx
      rw [ho] at hi
      cases hi
      exact ⟨_, hoi, rfl, hHv i hin', rfl⟩
    · exact ⟨_, by rw [hoo i hin' hx, hi]; rfl, (subO_esz _ _ _ oi).1, hHv i hin', subO_box _ _ _ oi⟩
  have hO3 : ∀ i oi, s.objs i = some oi → ∃ o', s'.objs i = some o' ∧ o'.esz = oi.esz ∧ (hdr' i).v = (hdr i).v := fun i oi hi => by
    obtain ⟨o', k1, k2, k3, _⟩ := hO i oi hi
    exact ⟨o', k1, k2, k3⟩
  refine ⟨hdr', by rw [hHn], ?_⟩
  refine hs.recast (s' := s') (hdr' := hdr') (so := killsO []) (sp := killsP []) (sc := killsC [id]) (fun _ => False) (fun i => i = nid ∨ i = id) rfl rfl rfl (Nat.le_refl _) (fun _ _ _ => rfl) (fun _ h => h.elim)
    (fun t => by rw [← hs']; rfl) (by rw [← hs']; rfl) (by rw [← hs']; rfl) ?_
    (own_keep (c := s.ctx F w hdr) (c' := s'.ctx F w hdr') hO3) (ptr_keep (c := s.ctx F w hdr) (c' := s'.ctx F w hdr') hO3) ?_ ?_ ?_ ?_ ?_
  · intro i o b hi hb
    rcases hcase i o hi with rfl | rfl | ⟨h1, h2, o1, h3, _⟩
    · exact .inl ⟨id, _, ho, .inr (hin b (hinn b hb))⟩
    · exact .inl ⟨i, _, ho, hinid b hb⟩
    · rw [hHo i h1 h2] at hb
      exact .inl ⟨i, o1, h3, hb⟩
  · intro i x y z u hv'
    simp only [killsC]
    cases hx : inL i [id] with
    | true => exact any_ok
    | false =>
      simp only
      have hne' : i ≠ id := by
        have := inL_no.1 hx
        simpa using this
      unfold VR at hv' ⊢
      obtain ⟨o, b, sh2, e2, w1, w2, w3, w4, w5, w6⟩ := hv'
      replace w1 : s.objs i = some o := w1
      have hin' : i ≠ nid := fun e => by rw [e, hid] at w1; cases w1
      refine ⟨o, b, sh2, e2, ?_, w2, w3, w4, ?_, w6⟩
      · show s'.objs i = some o
        rw [hoo i hin' hne', w1]
        simp [subO, w2]
      · show (hdr' i).blk = some b
        rw [hHo i hin' hne']; exact w5
  · intro i j x y z lo n cp u e hv
    simp only [killsC] at e
    cases hl2 : inL i [id] with
    | true => rw [hl2] at e; cases e
    | false =>
      rw [hl2] at e
      cases e
      exact prt_keep (c := s.ctx F w hdr) (c' := s'.ctx F w hdr') hO i lo n cp u hv
  · intro i o' hi hx
    rcases hcase i o' hi with h | h | ⟨h1, h2, o1, h3, h4⟩
    · exact absurd (.inl h) hx
    · exact absurd (.inr h) hx
    · exact ⟨o1, h3, h4, hHo i h1 h2, fun _ _ h => h⟩
  · intro hR i o hi hx
    rcases hx with rfl | rfl
    · rw [hon] at hi
      cases hi
      rw [hHn]
      have hro : ∀ b ∈ S', b ∉ fp2 → roOf F w hdr' s'.objs b := by
        intro b hb hnf
        have hb1 := n3 b (hin b (hS'in b hb))
        refine ⟨hs.free b hb1.1, hb1.2, fun j oj hj hb' => ?_⟩
        rcases hcase j oj hj with rfl | rfl | ⟨h1, h2, o1, h3, _⟩
        · rw [hHn] at hb'
          rcases hb' with hb' | hb'
          · exact hvS' b hb' hb
          · exact hnf hb'
        · exact hsepI b hb' (hS'in b hb)
        · rw [hHo j h1 h2] at hb'
          exact h2 (hs.dis j id o1 _ b h3 ho hb' (.inr (hin b (hS'in b hb))))
      have hlens2 : ∀ x ∈ xs, x.length = esz' := (TEs.reads (w := w) (ro := fun _ => True) esz' cells xs cs2 S' (fun _ _ => trivial) g6).2
      refine ⟨g2, hlens2, ⟨hfp2nd, fun b hb hb' => hvS' b hb (hfp2in b hb'), fun b hb => n3 b (hin b (hS'in b (hfp2in b hb)))⟩, cs2, g3.mono (fun _ _ => rfl) (fun b hb _ => (n3 b (hin b (hvin b hb))).1), g4, ?_⟩
      cases dp with
      | true =>
        simp only at hfp2
        subst hfp2
        exact CellsR_deep (sh := cells) rfl g6
      | false =>
        simp only at hfp2
        subst hfp2
        exact CellsR_slc rfl (TEs.reads (w := w) esz' cells xs cs2 S' (fun b hb => hro b hb (by simp)) g6).1
    · rw [hoi] at hi
      cases hi
      rw [hHi]
      have hel : e.length = esz := hlens e (List.mem_of_getElem? he)
      refine ⟨hpos, ?_, ⟨?_, ?_, ?_⟩, cs, ?_, hone, CellsR_deep (sh := sh) rfl ?_⟩
      · intro x hx'
        rcases List.mem_or_eq_of_mem_set hx' with hx' | hx'
        · exact hlens x hx'
        · rw [hx', List.length_set]; exact hel
      · have := nodup_mid (M' := []) hnd0 List.nodup_nil (fun b hb => by cases hb)
        simpa using this
      · intro b hb hb'
        rcases List.mem_append.1 hb' with hb' | hb'
        · exact n2 b hb (hold b (.inl hb'))
        · exact n2 b hb (hold b (.inr hb'))
      · intro b hb
        rcases List.mem_append.1 hb with hb | hb
        · exact n3 b (hold b (.inl hb))
        · exact n3 b (hold b (.inr hb))
      · show OwnR w w0.N ty esz (hdr i).v (es.set idx (e.set off .any)).length cs
        rw [List.length_set]
        exact hrow
      · have hidx : idx < es.length := (List.getElem?_eq_some_iff.1 he).1
        have hofflt : off < e.length := (List.getElem?_eq_some_iff.1 r4).1
        have hcsl : cs.length = es.length * esz := hrow.1
        have hidx2 : idx * esz + esz ≤ es.length * esz := by
          have := Nat.mul_le_mul_right esz (show idx + 1 ≤ es.length by omega)
          simpa [Nat.add_mul] using this
        have hve : ((cs.drop (idx * esz)).take esz).length = esz := by rw [List.length_take, List.length_drop]; omega
        have hTL : TL w (e.set off .any) sh ((cs.drop (idx * esz)).take esz) (T1 ++ [] ++ T2) := by
          have e2 : e.set off .any = e.take off ++ [.any] ++ e.drop (off + 1) := by rw [List.set_eq_take_append_cons_drop, if_pos hofflt]; simp
          have e3 : sh = sh.take off ++ [Shp.sl ty' esz' cells] ++ sh.drop (off + 1) := by
            obtain ⟨hl, hg⟩ := List.getElem?_eq_some_iff.1 hsh
            have := List.take_append_drop off sh
            rw [List.drop_eq_getElem_cons hl, hg] at this
            simpa using this.symm
          have e4 : (cs.drop (idx * esz)).take esz = ((cs.drop (idx * esz)).take esz).take off ++ [v'] ++ ((cs.drop (idx * esz)).take esz).drop (off + 1) := by
            obtain ⟨hl, hg⟩ := List.getElem?_eq_some_iff.1 f3
            have := List.take_append_drop off ((cs.drop (idx * esz)).take esz)
            rw [List.drop_eq_getElem_cons hl, hg] at this
            simpa using this.symm
          rw [e2, e3, e4]
          have e5 : (sh.take off ++ [Shp.sl ty' esz' cells] ++ sh.drop (off + 1)).take off = sh.take off := by rw [← e3]
          refine (f5.append (TL_one.2 (by unfold TR; rfl))).append ?_
          exact f6
        have := TEs.set (w' := w) (esz := esz) (cells := sh) (vs := cs) hidx hve q3 hTL q4
        have e6 : cs.take (idx * esz) ++ (cs.drop (idx * esz)).take esz ++ cs.drop (idx * esz + esz) = cs := by
          rw [List.append_assoc, ← List.drop_drop, List.take_append_drop, List.take_append_drop]
        rw [e6] at this
        show TEs w esz sh (es.set idx (e.set off .any)) cs ((S1 ++ T1) ++ (T2 ++ S2))
        simpa [List.append_assoc] using this
  · have key : ∀ j oj b, j ≠ nid → j ≠ id → s.objs j = some oj → (hdr j).has b → (hdr' id).has b ∨ (hdr' nid).has b → False := by
      intro j oj b h1 h2 hj bj hb
      refine h2 (hs.dis j id oj _ b hj ho bj ?_)
      rcases hb with hb | hb
      · exact hinid b hb
      · exact .inr (hin b (hinn b hb))
    intro i j o oo b hi hj bi bj
    rcases hcase i o hi with rfl | rfl | ⟨a1, a2, o1, a3, _⟩ <;> rcases hcase j oo hj with rfl | rfl | ⟨b1, b2, o2, b3, _⟩
    · rfl
    · exact (hsepI b bj (hinn b bi)).elim
    · rw [hHo j b1 b2] at bj
      exact (key j o2 b b1 b2 b3 bj (.inr bi)).elim
    · exact (hsepI b bi (hinn b bj)).elim
    · rfl
    · rw [hHo j b1 b2] at bj
      exact (key j o2 b b1 b2 b3 bj (.inl bi)).elim
    · rw [hHo i a1 a2] at bi
      exact (key i o1 b a1 a2 a3 bi (.inr bj)).elim
    · rw [hHo i a1 a2] at bi
      exact (key i o1 b a1 a2 a3 bi (.inl bj)).elim
    · rw [hHo i a1 a2] at bi
      rw [hHo j b1 b2] at bj
      exact hs.dis i j o1 o2 b a3 b3 bi bj
end

theorem St.le_detach {s : St} {t id nid ty esz ty' esz' idx off : Nat} {sh cells : List Shp} {es : List (List AV)} {e : List AV} {xs : List (List AV)} (dp : Bool)
    (ht : s.env t = .cel id idx off xs) (ho : s.objs id = some ⟨.deep sh, ty, esz, es⟩) (he : es[idx]? = some e) (hsh : sh[off]? = some (.sl ty' esz' cells)) (hid : s.objs nid = none) :
    s.le (detS s t id nid ⟨.deep sh, ty, esz, es.set idx (e.set off .any)⟩ ⟨detK dp cells, ty', esz', xs⟩) := by
  intro F w0 gv a w ⟨hdr, hs⟩
  have hv := hs.env t
  rw [ht] at hv
  obtain ⟨hdr', h1, h2⟩ := hs.detach dp ho he hsh hid hv
  refine ⟨hdr', ?_⟩
  generalize hs' : detO s id nid ⟨.deep sh, ty, esz, es.set idx (e.set off .any)⟩ ⟨detK dp cells, ty', esz', xs⟩ = s' at h2
  have hon : s'.objs nid = some ⟨detK dp cells, ty', esz', xs⟩ := by rw [← hs']; simp [detO, takeIn]
  have hd : detS s t id nid ⟨.deep sh, ty, esz, es.set idx (e.set off .any)⟩ ⟨detK dp cells, ty', esz', xs⟩ = { s' with env := upd t (.own nid) s'.env } := by
    unfold detS
    rw [hs']
  rw [hd]
  refine ⟨fun t' => ?_, h2.sz, h2.defers, h2.gh, h2.objs, h2.dis, h2.below, h2.free⟩
  show VR _ ((upd t (.own nid) s'.env) t') _
  rw [upd_eq]
  by_cases e : t' = t
  · subst e
    simp only [if_true]
    unfold VR
    exact ⟨by show (s'.objs nid).isSome = true; rw [hon]; rfl, h1.symm⟩
  · simp only [e, if_false]
    exact h2.env t'

theorem OpOk_le {P : Program} {o : Oper} {s s' : St} {K : St → Prop} (hle : s.le s') (h : OpOk P o s' K) : OpOk P o s K :=
  fun F w0 gv a w hs next Q hn => h F w0 gv a w (hle _ _ _ _ _ hs) next Q hn

theorem hook_appC {P : Program} {s : St} {K : St → Prop} {dst : Option Tmp} {type : TypeId} {pos : String} {after : Array Edge} {guard : Option (Nat × Bool)} {nid : Nat} (dp : Bool) {t : Nat} {y : Operand} {T : TypeId} {args : Array Operand} {tys : Array TypeId} {id ty esz ty' esz' idx off : Nat} {sh cells : List Shp} {es : List (List AV)} {e : List AV} {xs : List (List AV)}
    (ha : args.toList = [.tmp t, y]) (hty : tys.toList = [T, T]) (ht : s.env t = .cel id idx off xs) (ho : s.objs id = some ⟨.deep sh, ty, esz, es⟩) (hsh : sh[off]? = some (.sl ty' esz' cells)) (hid : s.objs (nid + 1) = none) (he : es[idx]? = some e)
    (h : forceS (detS s t id (nid + 1) ⟨.deep sh, ty, esz, es.set idx (e.set off .any)⟩ ⟨detK dp cells, ty', esz', xs⟩) fun s' => appA P T (s'.val (.tmp t)) (s'.val y) s' nid dst K) :
    HookA P ⟨dst, .call ⟨.builtin .append, args, tys⟩, type, pos, after, guard⟩ nid s K := by
  rw [forceS_eq] at h
  exact hook_of (OpOk_le (St.le_detach dp ht ho he hsh hid) (ok_append ha hty h))
end Go.Ab
namespace Go.Ab
open Go.RowKit
set_option linter.unusedVariables false

end Go.Ab
