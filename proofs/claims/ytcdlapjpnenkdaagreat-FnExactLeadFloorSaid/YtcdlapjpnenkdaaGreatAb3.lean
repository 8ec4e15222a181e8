/-
  Writing into an object of the state; giving an object up; what no longer is known of it.
  No condition: lemmas over any program.
-/
import Derived.Test.YtcdlapjpnenkdaaGreatAb2
namespace Go.Ab
open Go.RowKit

theorem flatten_length {α : Type} (n : Nat) : ∀ (xs : List (List α)), (∀ e ∈ xs, e.length = n) → xs.flatten.length = xs.length * n
  | [], _ => by simp
  | x :: xs, h => by
    have h1 := h x (by simp)
    have h2 := flatten_length n xs (fun e he => h e (by simp [he]))
    simp [h1, h2, Nat.add_mul, Nat.add_comm]

theorem flatten_get {α : Type} (n : Nat) : ∀ (xs : List (List α)), (∀ e ∈ xs, e.length = n) → ∀ (i : Nat) (e : List α), xs[i]? = some e → ∀ j, j < n → xs.flatten[i * n + j]? = e[j]?
  | [], _, i, e, hi, _, _ => by simp at hi
  | x :: xs, h, 0, e, hi, j, hj => by
    simp at hi
    subst hi
    have h1 := h x (by simp)
    simp [List.getElem?_append, h1, hj]
  | x :: xs, h, i + 1, e, hi, j, hj => by
    have h1 := h x (by simp)
    have h2 := flatten_get n xs (fun e he => h e (by simp [he])) i e (by simpa using hi) j hj
    rw [List.flatten_cons, List.getElem?_append, if_neg (by rw [h1]; simp [Nat.add_mul]; omega), h1, ← h2]
    congr 1
    simp [Nat.add_mul]
    omega

theorem flatten_drop {α : Type} (n : Nat) : ∀ (xs : List (List α)), (∀ e ∈ xs, e.length = n) → ∀ (i : Nat) (e : List α), xs[i]? = some e → ∀ off, off ≤ n → ((xs.flatten.drop (i * n + off)).take (n - off)) = e.drop off
  | [], _, i, e, hi, _, _ => by simp at hi
  | x :: xs, h, 0, e, hi, off, hoff => by
    simp at hi
    subst hi
    have h1 := h x (by simp)
    simp only [Nat.zero_mul, Nat.zero_add, List.flatten_cons]
    rw [List.drop_append_of_le_length (by omega), List.take_append_of_le_length (by simp; omega), List.take_of_length_le (by simp; omega)]
  | x :: xs, h, i + 1, e, hi, off, hoff => by
    have h1 := h x (by simp)
    have h2 := flatten_drop n xs (fun e he => h e (by simp [he])) i e (by simpa using hi) off hoff
    rw [List.flatten_cons, List.drop_append, ← h2]
    have e1 : List.drop ((i + 1) * n + off) x = [] := List.drop_eq_nil_of_le (by rw [h1]; simp [Nat.add_mul]; omega)
    have e2 : (i + 1) * n + off - x.length = i * n + off := by rw [h1]; simp [Nat.add_mul]; omega
    rw [e1, e2, List.nil_append]

/-- Cells put in place of those of one element, from 'off' on. -/
def splice {α : Type} (e : List α) (off : Nat) (cs : List α) : List α := e.take off ++ cs ++ e.drop (off + cs.length)

theorem splice_length {α : Type} (e : List α) (off : Nat) (cs : List α) (h : off + cs.length ≤ e.length) : (splice e off cs).length = e.length := by
  simp [splice]
  omega

theorem flatten_splice {α : Type} (n : Nat) : ∀ (xs : List (List α)), (∀ e ∈ xs, e.length = n) → ∀ (i : Nat) (e : List α), xs[i]? = some e → ∀ (off : Nat) (cs : List α), off + cs.length ≤ n →
    (xs.set i (splice e off cs)).flatten = splice xs.flatten (i * n + off) cs
  | [], _, i, e, hi, _, _, _ => by simp at hi
  | x :: xs, h, 0, e, hi, off, cs, hoff => by
    simp at hi
    subst hi
    have h1 := h x (by simp)
    simp only [List.set_cons_zero, List.flatten_cons, Nat.zero_mul, Nat.zero_add, splice]
    rw [List.take_append_of_le_length (by omega), List.drop_append_of_le_length (by omega)]
    simp [List.append_assoc]
  | x :: xs, h, i + 1, e, hi, off, cs, hoff => by
    have h1 := h x (by simp)
    have h2 := flatten_splice n xs (fun e he => h e (by simp [he])) i e (by simpa using hi) off cs hoff
    have e2 : (i + 1) * n + off = x.length + (i * n + off) := by rw [h1]; simp [Nat.add_mul]; omega
    have e3 : x.length + (i * n + off) + cs.length = x.length + (i * n + off + cs.length) := by omega
    rw [List.set_cons_succ, List.flatten_cons, h2, List.flatten_cons, e2]
    unfold splice
    rw [e3, List.take_length_add_append, List.drop_length_add_append]
    simp [List.append_assoc]

theorem LR.length {w : World} {ro : Nat → Prop} : ∀ {as : List AV} {vs : List Value}, LR w ro as vs → as.length = vs.length
  | [], [], _ => rfl
  | a :: as, v :: vs, h => by
    unfold LR at h
    simp [LR.length h.2]
  | [], _ :: _, h => by unfold LR at h; exact h.elim
  | _ :: _, [], h => by unfold LR at h; exact h.elim

theorem LR.append {w : World} {ro : Nat → Prop} : ∀ {as : List AV} {vs : List Value} {bs : List AV} {us : List Value}, LR w ro as vs → LR w ro bs us → LR w ro (as ++ bs) (vs ++ us)
  | [], [], _, _, _, h => by simpa using h
  | a :: as, v :: vs, _, _, h, h' => by
    unfold LR at h
    simp only [List.cons_append]
    unfold LR
    exact ⟨h.1, LR.append h.2 h'⟩
  | [], _ :: _, _, _, h, _ => by unfold LR at h; exact h.elim
  | _ :: _, [], _, _, h, _ => by unfold LR at h; exact h.elim

theorem LR.take {w : World} {ro : Nat → Prop} : ∀ (n : Nat) {as : List AV} {vs : List Value}, LR w ro as vs → LR w ro (as.take n) (vs.take n)
  | 0, _, _, _ => by simp only [List.take_zero]; unfold LR; trivial
  | n + 1, [], [], _ => by simp only [List.take_nil]; unfold LR; trivial
  | n + 1, a :: as, v :: vs, h => by
    unfold LR at h
    simp only [List.take_succ_cons]
    unfold LR
    exact ⟨h.1, LR.take n h.2⟩
  | _ + 1, [], _ :: _, h => by unfold LR at h; exact h.elim
  | _ + 1, _ :: _, [], h => by unfold LR at h; exact h.elim

theorem LR.drop {w : World} {ro : Nat → Prop} : ∀ (n : Nat) {as : List AV} {vs : List Value}, LR w ro as vs → LR w ro (as.drop n) (vs.drop n)
  | 0, _, _, h => by simpa using h
  | n + 1, [], [], h => by simpa using h
  | n + 1, a :: as, v :: vs, h => by
    unfold LR at h
    simpa using LR.drop n h.2
  | _ + 1, [], _ :: _, h => by unfold LR at h; exact h.elim
  | _ + 1, _ :: _, [], h => by unfold LR at h; exact h.elim

theorem VL.splice {c : Ctx} {as : List AV} {vs : List Value} {bs : List AV} {us : List Value} (n : Nat) (h : VL c as vs) (h' : VL c bs us) : VL c (Ab.splice as n bs) (Ab.splice vs n us) := by
  unfold Ab.splice
  rw [VL.length h']
  exact ((h.take n).append h').append (h.drop _)

theorem LR.splice {w : World} {ro : Nat → Prop} {as : List AV} {vs : List Value} {bs : List AV} {us : List Value} (n : Nat) (h : LR w ro as vs) (h' : LR w ro bs us) : LR w ro (Ab.splice as n bs) (Ab.splice vs n us) := by
  unfold Ab.splice
  rw [LR.length h']
  exact ((h.take n).append h').append (h.drop _)

/-- The cells of an object of one row, as they lie. -/
theorem ownsRow_cells {w : World} {B : Nat} {e size : Nat} {v : Value} {n : Nat} {cs : List Value} (h : OwnR w B e size v n cs) {b : Nat} (hb : v.blk = some b) :
    ∃ cap cur, v = .slice (some ⟨b, 0, none⟩) n cap ∧ 0 < cap ∧ B ≤ b ∧ w.heap[b]? = some (.cells cur e (0, 0)) ∧ n ≤ cap ∧ cap ≤ maxLen ∧ cur.size = cap * size ∧ cur.toList.take (n * size) = cs := by
  rcases h.2 with ⟨base, rfl, _⟩ | ⟨g, cap, cur, rfl, h0, h1, h2, h3, h4, h5, h6⟩
  · cases base <;> simp [Value.blk] at hb
  · simp only [Value.blk] at hb
    rw [if_neg (by omega)] at hb
    cases hb
    exact ⟨cap, cur, rfl, h0, h1, h2, h3, h4, h5, h6⟩

section
variable {F : Nat → Prop} {w0 : World} {gv : List Value} {s : St} {a : Act} {w : World} {hdr : Nat → Value}

/-- Memory that is only read does not turn when a block of an object turns. -/
theorem Sim.readKept (_h : Sim F w0 gv s a w hdr) {id : Nat} {o : AObj} (ho : s.objs id = some o) {b : Nat} (hb : (hdr id).blk = some b) {w' : World}
    (hk : ∀ k, k < w.heap.size → k ≠ b → w'.heap[k]? = w.heap[k]?) : ∀ k j, roOf F w hdr s.objs k → w'.cell? ⟨k, j, none⟩ = w.cell? ⟨k, j, none⟩ := by
  intro k j ⟨hF0, h1, h2⟩
  have hne : k ≠ b := fun e => h2 id o ho (by rw [hb, e])
  exact World.cell?_of_block (w := w) (a := ⟨k, j, none⟩) (hk k h1 hne)

/-- A store into an object: cells in place of cells. -/
theorem Sim.store (h : Sim F w0 gv s a w hdr) {id : Nat} {o : AObj} (ho : s.objs id = some o) {idx off : Nat} {e : List AV} (he : o.elems[idx]? = some e)
    {cs : List AV} {vs : List Value} (hv : VL (s.ctx F w hdr) cs vs) (h1 : ∀ u ∈ vs, u.oneCell' = true) (hfit : off + cs.length ≤ o.esz) (hp : o.box = false → cs.all AV.plain = true)
    {b : Nat} (hb : (hdr id).blk = some b) :
    ∃ w', (∀ P : Program, (storeCells ⟨b, idx * o.esz + off, none⟩ vs).run P w = .ok () w') ∧
      Sim F w0 gv { s with objs := fun i => if i = id then some { o with elems := o.elems.set idx (splice e off cs) } else s.objs i } a w' hdr := by
  obtain ⟨hpos, hlens, cs0, hrow, hone, hvl, hlr⟩ := h.objs id o ho
  obtain ⟨cap, cur, hh, hc0', hBb, hg, hcap, hmax, hcur, htake⟩ := ownsRow_cells hrow hb
  have hlen : cs.length = vs.length := VL.length hv
  have hilt : idx < o.elems.length := (List.getElem?_eq_some_iff.1 he).1
  have hidx : idx * o.esz + o.esz ≤ o.elems.length * o.esz := by
    have := Nat.mul_le_mul_right o.esz (show idx + 1 ≤ o.elems.length by omega)
    simpa [Nat.add_mul] using this
  have hcap2 : o.elems.length * o.esz ≤ cap * o.esz := Nat.mul_le_mul_right _ hcap
  have hrun := fun P : Program => run_storeCells_at P b (idx * o.esz + off) o.ty vs 0 cur w hg (by rw [hcur]; omega) h1
  simp only [Nat.add_zero] at hrun
  refine ⟨_, hrun, ?_⟩
  have hw1 : ∀ k, k ≠ b → (w.setRow b ((cur.toList.take (idx * o.esz + off) ++ vs ++ cur.toList.drop (idx * o.esz + off + vs.length)).toArray)).heap[k]? = w.heap[k]? := fun k hk => setRow_other w b k _ hk
  have hw2 := setRow_heap w b cur ((cur.toList.take (idx * o.esz + off) ++ vs ++ cur.toList.drop (idx * o.esz + off + vs.length)).toArray) o.ty (0, 0) hg
  have hsz : (w.setRow b ((cur.toList.take (idx * o.esz + off) ++ vs ++ cur.toList.drop (idx * o.esz + off + vs.length)).toArray)).heap.size = w.heap.size := by simp [World.setRow]
  generalize hW : w.setRow b ((cur.toList.take (idx * o.esz + off) ++ vs ++ cur.toList.drop (idx * o.esz + off + vs.length)).toArray) = w' at *
  have hos : w'.os = w.os ∧ w'.tape = w.tape ∧ w'.output = w.output := by subst hW; exact ⟨rfl, rfl, rfl⟩
  have hro : ∀ k, roOf F w hdr s.objs k → roOf F w' hdr (fun i => if i = id then some { o with elems := o.elems.set idx (splice e off cs) } else s.objs i) k := by
    intro k ⟨hF0, k1, k2⟩
    refine ⟨hF0, by rw [hsz]; exact k1, fun i oi hi => ?_⟩
    by_cases hx : i = id
    · subst hx; exact k2 _ o ho
    · simp only [hx, if_false] at hi; exact k2 i oi hi
  have hR : ∀ x v, RR w (roOf F w hdr s.objs) x v → RR w' (roOf F w' hdr (fun i => if i = id then some { o with elems := o.elems.set idx (splice e off cs) } else s.objs i)) x v :=
    fun x v => RR.mono (h.readKept ho hb (fun k _ hk => hw1 k hk)) hro x v
  have hL : ∀ x v, LR w (roOf F w hdr s.objs) x v → LR w' (roOf F w' hdr (fun i => if i = id then some { o with elems := o.elems.set idx (splice e off cs) } else s.objs i)) x v :=
    fun x v => LR.mono (h.readKept ho hb (fun k _ hk => hw1 k hk)) hro x v
  have hO : ∀ i oi, s.objs i = some oi → ∃ o', (fun i => if i = id then some { o with elems := o.elems.set idx (splice e off cs) } else s.objs i) i = some o' ∧ o'.esz = oi.esz ∧ hdr i = hdr i := by
    intro i oi hi
    by_cases hx : i = id
    · subst hx
      rw [ho] at hi
      cases hi
      exact ⟨{ o with elems := o.elems.set idx (splice e off cs) }, by simp, rfl, rfl⟩
    · exact ⟨oi, by simp [hx, hi], rfl, rfl⟩
  have hM : ∀ x v, VR (s.ctx F w hdr) x v → VR (St.ctx { s with objs := fun i => if i = id then some { o with elems := o.elems.set idx (splice e off cs) } else s.objs i } F w' hdr) x v :=
    fun x v => VR.mono (c := s.ctx F w hdr) (c' := St.ctx { s with objs := fun i => if i = id then some { o with elems := o.elems.set idx (splice e off cs) } else s.objs i } F w' hdr) hR hO x v
  have hML : ∀ x v, VL (s.ctx F w hdr) x v → VL (St.ctx { s with objs := fun i => if i = id then some { o with elems := o.elems.set idx (splice e off cs) } else s.objs i } F w' hdr) x v :=
    fun x v => VL.mono (c := s.ctx F w hdr) (c' := St.ctx { s with objs := fun i => if i = id then some { o with elems := o.elems.set idx (splice e off cs) } else s.objs i } F w' hdr) hR hO x v
  have hel : e.length = o.esz := hlens e (List.mem_of_getElem? he)
  refine ⟨fun t => hM _ _ (h.env t), h.sz, h.defers, hML _ _ h.gh, ?_, ?_, ?_, h.free⟩
  · intro i oi hi
    by_cases hx : i = id
    · subst hx
      have hoi : { o with elems := o.elems.set idx (splice e off cs) } = oi := by simpa using hi
      subst hoi
      have hflat : (o.elems.set idx (splice e off cs)).flatten = splice o.elems.flatten (idx * o.esz + off) cs := flatten_splice o.esz o.elems hlens idx e he off cs hfit
      have hc0 : cs0.length = o.elems.length * o.esz := hrow.1
      have htk : (cur.toList.take (idx * o.esz + off) ++ vs ++ cur.toList.drop (idx * o.esz + off + vs.length)).take (o.elems.length * o.esz) = splice cs0 (idx * o.esz + off) vs := by
        unfold splice
        rw [← htake]
        have l1 : (cur.toList.take (idx * o.esz + off)).length = idx * o.esz + off := by simp [hcur]; omega
        have l2 : (cur.toList.take (idx * o.esz + off) ++ vs).length = idx * o.esz + off + vs.length := by rw [List.length_append, l1]
        rw [List.take_append, List.take_of_length_le (l := cur.toList.take (idx * o.esz + off) ++ vs) (by rw [l2]; omega), l2, List.take_take, Nat.min_eq_left (by omega), List.drop_take]
      refine ⟨hpos, ?_, splice cs0 (idx * o.esz + off) vs, ⟨?_, .inr ⟨b, cap, _, ?_, hc0', hBb, hw2, ?_, hmax, ?_, ?_⟩⟩, ?_, ?_, ?_⟩
      · intro x hx
        rcases List.mem_or_eq_of_mem_set hx with hx | hx
        · exact hlens x hx
        · rw [hx, splice_length _ _ _ (by rw [hel]; exact hfit)]; exact hel
      · rw [splice_length _ _ _ (by rw [hc0]; omega), hc0]; simp
      · simpa using hh
      · simpa using hcap
      · simp [hcur]; omega
      · simpa using htk
      · intro u hu
        unfold splice at hu
        simp only [List.mem_append] at hu
        rcases hu with (hu | hu) | hu
        · exact hone u (List.mem_of_mem_take hu)
        · exact h1 u hu
        · exact hone u (List.mem_of_mem_drop hu)
      · rw [hflat]
        exact hML _ _ (hvl.splice _ hv)
      · intro hbx
        rw [hflat]
        exact hL _ _ ((hlr hbx).splice _ (hv.readOnly (hp hbx)))
    · have hi' : s.objs i = some oi := by simpa [hx] using hi
      obtain ⟨k2, k3, cs', k4, k5, k6, k7⟩ := h.objs i oi hi'
      refine ⟨k2, k3, cs', ?_, k5, hML _ _ k6, fun hx => hL _ _ (k7 hx)⟩
      refine k4.kept (w' := w') (row := some b) ⟨hos.1, hos.2.1, hos.2.2, by rw [hsz]; exact Nat.le_refl _, fun k _ hk => hw1 k (fun e => hk (by rw [e]))⟩ ?_
      cases hy : (hdr i).blk with
      | none => exact .inl rfl
      | some y => exact .inr (fun e => hx (h.dis i id oi o b hi' ho (by rw [hy]; exact e) hb))
  · intro i j oi oj bb hi hj
    have pick : ∀ i oi, (if i = id then some { o with elems := o.elems.set idx (splice e off cs) } else s.objs i) = some oi → ∃ ox, s.objs i = some ox := by
      intro i oi hi
      by_cases hx : i = id
      · subst hx; exact ⟨o, ho⟩
      · exact ⟨oi, by simpa [hx] using hi⟩
    obtain ⟨ox, hox⟩ := pick i oi hi
    obtain ⟨oy, hoy⟩ := pick j oj hj
    exact h.dis i j ox oy bb hox hoy
  · refine h.below.trans ⟨hos.1, hos.2.1, hos.2.2, by rw [hsz]; exact Nat.le_refl _, fun k hk => hw1 k ?_⟩
    omega

end
end Go.Ab
