/-
  An object that turns as a whole (append), and an object that is given up and only read from then on.
  No condition: lemmas over any program.
-/
import Derived.Test.YtcdlapjpnenkdaaGreatAb3
namespace Go.Ab
open Go.RowKit

def subO (so : Nat → AV) (sp : Nat → Nat → Nat → AV) (o : AObj) : AObj :=
  if o.box then { o with elems := o.elems.map (AV.sub.subL so sp) } else o

theorem subL_length (so : Nat → AV) (sp : Nat → Nat → Nat → AV) : ∀ (l : List AV), (AV.sub.subL so sp l).length = l.length
  | [] => by unfold AV.sub.subL; rfl
  | a :: l => by unfold AV.sub.subL; simp [subL_length so sp l]

theorem subL_append (so : Nat → AV) (sp : Nat → Nat → Nat → AV) : ∀ (l k : List AV), AV.sub.subL so sp (l ++ k) = AV.sub.subL so sp l ++ AV.sub.subL so sp k
  | [], k => by simp [AV.sub.subL]
  | a :: l, k => by simp [AV.sub.subL, subL_append so sp l k]

theorem subL_flatten (so : Nat → AV) (sp : Nat → Nat → Nat → AV) : ∀ (xs : List (List AV)), (xs.map (AV.sub.subL so sp)).flatten = AV.sub.subL so sp xs.flatten
  | [] => by simp [AV.sub.subL]
  | x :: xs => by simp [subL_append, subL_flatten so sp xs]

theorem subO_esz (so : Nat → AV) (sp : Nat → Nat → Nat → AV) (o : AObj) : (subO so sp o).esz = o.esz ∧ (subO so sp o).ty = o.ty ∧ (subO so sp o).box = o.box ∧ (subO so sp o).elems.length = o.elems.length := by
  unfold subO
  split <;> simp

section
variable {F : Nat → Prop} {w0 : World} {gv : List Value} {s : St} {a : Act} {w : World} {hdr : Nat → Value}

def turned (s : St) (so : Nat → AV) (sp : Nat → Nat → Nat → AV) (id : Nat) (o' : Option AObj) : St :=
  match s with
  | ⟨e, z, o, n, g⟩ => ⟨fun t => (e t).sub so sp, z, fun i => if i = id then o' else (o i).map (subO so sp), n, AV.sub.subL so sp g⟩

theorem Sim.turn (h : Sim F w0 gv s a w hdr) {id : Nat} {o0 : AObj} (hid : s.objs id = some o0) {w' : World} {hdr' : Nat → Value} {o' : Option AObj} {so : Nat → AV} {sp : Nat → Nat → Nat → AV}
    (hw : w.grownBy w' (hdr id).blk) (hh : ∀ j, j ≠ id → hdr' j = hdr j)
    (hso : ∀ j, j ≠ id → so j = .own j) (hsp : ∀ j x y, j ≠ id → sp j x y = .ptr j x y)
    (hoid : ∀ v, VR (s.ctx F w hdr) (.own id) v → VR ((turned s so sp id o').ctx F w' hdr') (so id) v)
    (hpid : ∀ x y v, VR (s.ctx F w hdr) (.ptr id x y) v → VR ((turned s so sp id o').ctx F w' hdr') (sp id x y) v)
    (ho' : ∀ o, o' = some o → ObjR w0.heap.size ((turned s so sp id o').ctx F w' hdr') o (hdr' id))
    (hb' : ∀ o b, o' = some o → (hdr' id).blk = some b → (hdr id).blk = some b ∨ w.heap.size ≤ b) :
    Sim F w0 gv (turned s so sp id o') a w' hdr' := by
  have hob : ∀ i o, (turned s so sp id o').objs i = some o → i ≠ id → ∃ o1, s.objs i = some o1 ∧ o = subO so sp o1 := by
    intro i o hi hne
    simp only [turned, hne, if_false] at hi
    cases hs : s.objs i with
    | none => simp [hs] at hi
    | some o1 => exact ⟨o1, rfl, by simpa [hs] using hi.symm⟩
  have hro : ∀ b, roOf F w hdr s.objs b → roOf F w' hdr' (turned s so sp id o').objs b := by
    intro b ⟨hF0, h1, h2⟩
    refine ⟨hF0, Nat.lt_of_lt_of_le h1 hw.size, fun i o hi e => ?_⟩
    by_cases hx : i = id
    · subst hx
      have e1 : o' = some o := by simpa [turned] using hi
      rcases hb' o b e1 e with e2 | e2
      · exact h2 i o0 hid e2
      · omega
    · obtain ⟨o1, ho1, _⟩ := hob i o hi hx
      rw [hh i hx] at e
      exact h2 i o1 ho1 e
  have hcell : ∀ k j, roOf F w hdr s.objs k → w'.cell? ⟨k, j, none⟩ = w.cell? ⟨k, j, none⟩ := by
    intro k j ⟨hF0, h1, h2⟩
    exact World.cell?_of_block (w := w) (a := ⟨k, j, none⟩) (hw.block k h1 (fun e => h2 id o0 hid e.symm))
  have hR : ∀ x v, RR w (roOf F w hdr s.objs) x v → RR w' (roOf F w' hdr' (turned s so sp id o').objs) x v := fun x v => RR.mono hcell hro x v
  have hL : ∀ x v, LR w (roOf F w hdr s.objs) x v → LR w' (roOf F w' hdr' (turned s so sp id o').objs) x v := fun x v => LR.mono hcell hro x v
  have hsoV : ∀ j v, VR (s.ctx F w hdr) (.own j) v → VR ((turned s so sp id o').ctx F w' hdr') (so j) v := by
    intro j v hv
    by_cases hx : j = id
    · subst hx; exact hoid v hv
    · rw [hso j hx]
      unfold VR at hv ⊢
      obtain ⟨h1, h2⟩ := hv
      obtain ⟨o1, ho1⟩ := Option.isSome_iff_exists.1 h1
      replace ho1 : s.objs j = some o1 := ho1
      refine ⟨?_, ?_⟩
      · show ((turned s so sp id o').objs j).isSome = true
        simp [turned, hx, ho1]
      · show v = hdr' j
        rw [hh j hx]; exact h2
  have hspV : ∀ j x y v, VR (s.ctx F w hdr) (.ptr j x y) v → VR ((turned s so sp id o').ctx F w' hdr') (sp j x y) v := by
    intro j x y v hv
    by_cases hx : j = id
    · subst hx; exact hpid x y v hv
    · rw [hsp j x y hx]
      unfold VR at hv ⊢
      obtain ⟨o1, b, h1, h2, h3⟩ := hv
      replace h1 : s.objs j = some o1 := h1
      refine ⟨subO so sp o1, b, ?_, ?_, ?_⟩
      · show (turned s so sp id o').objs j = _
        simp [turned, hx, h1]
      · show (hdr' j).blk = some b
        rw [hh j hx]; exact h2
      · rw [(subO_esz so sp o1).1]; exact h3
  refine ⟨fun t => VR.sub (c := s.ctx F w hdr) (c' := (turned s so sp id o').ctx F w' hdr') hR hsoV hspV _ _ (h.env t), h.sz, h.defers, VL.sub (c := s.ctx F w hdr) (c' := (turned s so sp id o').ctx F w' hdr') hR hsoV hspV _ _ h.gh, ?_, ?_, ?_, h.free⟩
  · intro i o hi
    by_cases hx : i = id
    · subst hx
      have e1 : o' = some o := by simpa [turned] using hi
      exact ho' o e1
    · obtain ⟨o1, ho1, rfl⟩ := hob i o hi hx
      obtain ⟨k2, k3, cs, k4, k5, k6, k7⟩ := h.objs i o1 ho1
      obtain ⟨s1, s2, s3, s4⟩ := subO_esz so sp o1
      have hrow : OwnR w' w0.heap.size o1.ty o1.esz (hdr' i) o1.elems.length cs := by
        rw [hh i hx]
        refine k4.kept hw ?_
        cases hy : (hdr i).blk with
        | none => exact .inl rfl
        | some y => exact .inr (fun e => hx (h.dis i id o1 o0 y ho1 hid hy e.symm))
      refine ⟨by rw [s1]; exact k2, ?_, cs, by rw [s1, s2, s4]; exact hrow, k5, ?_, ?_⟩
      · intro e he
        rw [s1]
        unfold subO at he
        split at he
        · simp at he
          obtain ⟨e0, he0, rfl⟩ := he
          rw [subL_length]; exact k3 e0 he0
        · exact k3 e he
      · by_cases hbx : o1.box = true
        · have : (subO so sp o1).elems.flatten = AV.sub.subL so sp o1.elems.flatten := by simp [subO, hbx, subL_flatten]
          rw [this]
          exact VL.sub (c := s.ctx F w hdr) (c' := (turned s so sp id o').ctx F w' hdr') hR hsoV hspV _ _ k6
        · have hbf : o1.box = false := by simpa using hbx
          have : (subO so sp o1).elems = o1.elems := by simp [subO, hbf]
          rw [this]
          exact RR.value.values (c := (turned s so sp id o').ctx F w' hdr') _ _ (hL _ _ (k7 hbf))
      · intro hbx
        rw [s3] at hbx
        have : (subO so sp o1).elems = o1.elems := by simp [subO, hbx]
        rw [this]
        exact hL _ _ (k7 hbx)
  · have key : ∀ i j o oo b, (turned s so sp id o').objs i = some o → (turned s so sp id o').objs j = some oo → i = id → j ≠ id → (hdr' i).blk = some b → (hdr' j).blk = some b → False := by
      intro i j o oo b hi hj ei ej bi bj
      subst ei
      have e1 : o' = some o := by simpa [turned] using hi
      obtain ⟨o1, ho1, _⟩ := hob j oo hj ej
      rw [hh j ej] at bj
      rcases hb' o b e1 bi with e2 | e2
      · exact ej (h.dis j i o1 o0 b ho1 hid bj e2)
      · have := (h.ge ho1 bj).2; omega
    intro i j o oo b hi hj bi bj
    by_cases ei : i = id
    · by_cases ej : j = id
      · rw [ei, ej]
      · exact (key i j o oo b hi hj ei ej bi bj).elim
    · by_cases ej : j = id
      · exact (key j i oo o b hj hi ej ei bj bi).elim
      · obtain ⟨o1, ho1, _⟩ := hob i o hi ei
        obtain ⟨o2, ho2, _⟩ := hob j oo hj ej
        rw [hh i ei] at bi
        rw [hh j ej] at bj
        exact h.dis i j o1 o2 b ho1 ho2 bi bj
  · refine h.below.trans ⟨hw.os, hw.tape, hw.output, hw.size, fun k hk => hw.block k (Nat.lt_of_lt_of_le hk h.below.size) (fun e => ?_)⟩
    have := (h.ge hid (b := k) e.symm).1
    omega

/-! Append. -/
def killO (id : Nat) : Nat → AV := fun j => if j = id then .any else .own j
def killP (id : Nat) : Nat → Nat → Nat → AV := fun j x y => if j = id then .any else .ptr j x y

theorem Sim.appended (h : Sim F w0 gv s a w hdr) {id : Nat} {o : AObj} (ho : s.objs id = some o) {w' : World} {v' : Value} {ys : List (List AV)} {cs news : List Value}
    (hown0 : OwnR w w0.heap.size o.ty o.esz (hdr id) o.elems.length cs) (hlr : LR w (roOf F w hdr s.objs) o.elems.flatten cs) (hcs : ∀ u ∈ cs, u.oneCell' = true)
    (hys : ∀ e ∈ ys, e.length = o.esz) (hnews : LR w (roOf F w hdr s.objs) ys.flatten news) (hone : ∀ u ∈ news, u.oneCell' = true)
    (hown : OwnR w' w0.heap.size o.ty o.esz v' (o.elems.length + ys.length) (cs ++ news)) (hg : w.grownBy w' (hdr id).blk)
    (hb' : ∀ b, v'.blk = some b → (hdr id).blk = some b ∨ w.heap.size ≤ b) :
    Sim F w0 gv (turned s (killO id) (killP id) id (some { o with elems := o.elems ++ ys })) a w' (fun i => if i = id then v' else hdr i) := by
  have hpos := (h.objs id o ho).pos
  have hlens := (h.objs id o ho).lens
  have _ := hown0
  refine h.turn (o0 := o) ho hg (fun j hj => by simp [hj]) (fun j hj => by simp [killO, hj]) (fun j x y hj => by simp [killP, hj]) (fun v _ => by simp only [killO, if_true]; unfold VR; trivial) (fun x y v _ => by simp only [killP, if_true]; unfold VR; trivial) ?_ ?_
  · intro o1 e1
    cases e1
    have hro : ∀ b, roOf F w hdr s.objs b → roOf F w' (fun i => if i = id then v' else hdr i) (turned s (killO id) (killP id) id (some { o with elems := o.elems ++ ys })).objs b := by
      intro b ⟨hF0, h1, h2⟩
      refine ⟨hF0, Nat.lt_of_lt_of_le h1 hg.size, fun i oi hi e => ?_⟩
      by_cases hx : i = id
      · subst hx
        simp only [if_true] at e
        rcases hb' b e with e2 | e2
        · exact h2 i o ho e2
        · omega
      · simp only [hx, if_false] at e
        simp only [turned, hx, if_false] at hi
        cases hs : s.objs i with
        | none => simp [hs] at hi
        | some o1 => exact h2 i o1 hs e
    have hcell : ∀ k j, roOf F w hdr s.objs k → w'.cell? ⟨k, j, none⟩ = w.cell? ⟨k, j, none⟩ := by
      intro k j ⟨hF0, h1, h2⟩
      exact World.cell?_of_block (w := w) (a := ⟨k, j, none⟩) (hg.block k h1 (fun e => h2 id o ho e.symm))
    have hall : LR w' (roOf F w' (fun i => if i = id then v' else hdr i) (turned s (killO id) (killP id) id (some { o with elems := o.elems ++ ys })).objs) (o.elems ++ ys).flatten (cs ++ news) := by
      rw [List.flatten_append]
      exact LR.mono hcell hro _ _ (hlr.append hnews)
    refine ⟨hpos, ?_, cs ++ news, ?_, ?_, RR.value.values (c := (turned s (killO id) (killP id) id (some { o with elems := o.elems ++ ys })).ctx F w' (fun i => if i = id then v' else hdr i)) _ _ hall, fun _ => hall⟩
    · intro e he
      simp only [List.mem_append] at he
      rcases he with he | he
      · exact hlens e he
      · exact hys e he
    · show OwnR w' w0.heap.size o.ty o.esz (if id = id then v' else hdr id) (o.elems ++ ys).length (cs ++ news)
      rw [if_pos rfl, List.length_append]
      exact hown
    · intro u hu
      simp only [List.mem_append] at hu
      rcases hu with hu | hu
      · exact hcs u hu
      · exact hone u hu
  · intro o1 b _ e
    simp only [if_true] at e
    exact hb' b e

/-! An object given up: from then on it is only read. -/
def frzO (id : Nat) (xs : List (List AV)) : Nat → AV := fun j => if j = id then .sl xs else .own j

theorem EsR_of_row {w : World} {ro : Nat → Prop} (esz : Nat) : ∀ (xs : List (List AV)) (cs : List Value) (rd : Nat → Option Value), (∀ e ∈ xs, e.length = esz) → (∀ j u, cs[j]? = some u → rd j = some u) → LR w ro xs.flatten cs → EsR w ro esz xs rd
  | [], _, _, _, _, _ => by unfold EsR; trivial
  | x :: xs, cs, rd, hl, hrd, h => by
    have hx := hl x (by simp)
    have h1 := LR.take esz h
    have h2 := LR.drop esz h
    rw [List.flatten_cons, List.take_append_of_le_length (by omega), List.take_of_length_le (by omega)] at h1
    rw [List.flatten_cons, List.drop_append_of_le_length (by omega), List.drop_eq_nil_of_le (by omega), List.nil_append] at h2
    unfold EsR
    refine ⟨hx, CsR_of_row x (cs.take esz) rd (fun j u hj => hrd j u ?_) h1, EsR_of_row esz xs (cs.drop esz) _ (fun e he => hl e (by simp [he])) (fun j u hj => ?_) h2⟩
    · rw [List.getElem?_take] at hj
      split at hj
      · exact hj
      · cases hj
    · rw [List.getElem?_drop] at hj
      rw [Nat.add_comm]
      exact hrd _ u hj
where CsR_of_row {w : World} {ro : Nat → Prop} : ∀ (x : List AV) (cs : List Value) (rd : Nat → Option Value), (∀ j u, cs[j]? = some u → rd j = some u) → LR w ro x cs → CsR w ro x rd
  | [], _, _, _, _ => by unfold CsR; trivial
  | a :: x, v :: cs, rd, hrd, h => by
    unfold LR at h
    unfold CsR
    exact ⟨⟨v, hrd 0 v rfl, h.1⟩, CsR_of_row x cs _ (fun j u hj => hrd (j + 1) u (by simpa using hj)) h.2⟩
  | _ :: _, [], _, _, h => by unfold LR at h; exact h.elim

/-- The header of an object that is a slice's reads as its elements. -/
theorem own_reads {B : Nat} {c : Ctx} {o : AObj} {v : Value} (h : ObjR B c o v) (hbox : o.box = false) (ro' : Nat → Prop)
    (hro : ∀ b, c.ro b → ro' b) (hb : ∀ b, v.blk = some b → ro' b) : RR c.w ro' (.sl o.elems) v := by
  obtain ⟨hpos, hlens, cs, h1, h2, h3, h4⟩ := h
  unfold RR
  rcases h1.2 with ⟨base, e, e2⟩ | ⟨g, cap, cur, e, e0, e1, e2, e3, e4, e5, e6⟩
  · exact ⟨base, 0, by rw [e, e2], by omega, .inl (List.length_eq_zero_iff.1 e2)⟩
  · refine ⟨some ⟨g, 0, none⟩, cap, e, e3, .inr ⟨g, 0, o.esz, rfl, hb g (by rw [e]; simp only [Value.blk]; rw [if_neg (by omega)]), ?_⟩⟩
    refine EsR.mono (w := c.w) (w' := c.w) (ro := c.ro) (fun _ _ _ => rfl) hro o.esz o.elems _ _ (fun j => ?_) (EsR_of_row o.esz o.elems cs (fun j => c.w.cell? ⟨g, j, none⟩) hlens ?_ (h4 hbox))
    · show c.w.cell? ⟨g, 0 + j, none⟩ = c.w.cell? ⟨g, j, none⟩
      rw [Nat.zero_add]
    · intro j u hj
      have hc := h1.cells (g := g) (by rw [e]; simp only [Value.blk]; rw [if_neg (by omega)]) j u hj
      simpa [Addr.add_lit] using hc

theorem Sim.freeze (h : Sim F w0 gv s a w hdr) {id : Nat} {o : AObj} (ho : s.objs id = some o) (hbox : o.box = false) :
    Sim F w0 gv (turned s (frzO id o.elems) (killP id) id none) a w hdr := by
  refine h.turn (o0 := o) ho ⟨rfl, rfl, rfl, Nat.le_refl _, fun _ _ _ => rfl⟩ (fun _ _ => rfl) (fun j hj => by simp [frzO, hj]) (fun j x y hj => by simp [killP, hj]) ?_ (fun x y v _ => by simp only [killP, if_true]; unfold VR; trivial) (fun _ e => by cases e) (fun _ _ e => by cases e)
  intro v hv
  unfold VR at hv
  obtain ⟨_, hv⟩ := hv
  subst hv
  simp only [frzO, if_true]
  unfold VR
  refine own_reads (h.objs id o ho) hbox _ ?_ ?_
  · intro b ⟨hF0, h1, h2⟩
    refine ⟨hF0, h1, fun i oi hi e => ?_⟩
    by_cases hx : i = id
    · subst hx; simp [turned] at hi
    · simp only [turned, hx, if_false] at hi
      cases hs : s.objs i with
      | none => simp [hs] at hi
      | some o1 => exact h2 i o1 hs e
  · intro b hb
    refine ⟨h.free b (h.ge ho hb).1, (h.ge ho hb).2, fun i oi hi e => ?_⟩
    by_cases hx : i = id
    · subst hx; simp [turned] at hi
    · simp only [turned, hx, if_false] at hi
      cases hs : s.objs i with
      | none => simp [hs] at hi
      | some o1 => exact hx (h.dis i id o1 o b hs ho e hb)

end
end Go.Ab
