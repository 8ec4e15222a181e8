/-
  The abstract state, how it stands to a frame and a world, and the steps that keep it so.
  No condition: definitions and lemmas over any program.
-/
import Derived.Test.YtcdlapjpnenkdaaGreatAb1
namespace Go.Ab
open Go.RowKit

/-- What a header owns: nothing (its capacity is 0), or a row of cells in a block of its own. -/
def OwnR (w : World) (B e size : Nat) (v : Value) (n : Nat) (xs : List Value) : Prop :=
  xs.length = n * size ∧
  ((∃ base, v = .slice base 0 0 ∧ n = 0) ∨
   ∃ g cap cur, v = .slice (some ⟨g, 0, none⟩) n cap ∧ 0 < cap ∧ B ≤ g ∧ w.heap[g]? = some (.cells cur e (0, 0)) ∧ n ≤ cap ∧ cap ≤ maxLen ∧ cur.size = cap * size ∧ cur.toList.take (n * size) = xs)

section
variable {w : World} {B e size : Nat} {v : Value} {n : Nat} {xs : List Value}

theorem OwnR.lt (h : OwnR w B e size v n xs) : ∀ k, v.blk = some k → B ≤ k ∧ k < w.heap.size := by
  intro k hk
  rcases h.2 with ⟨base, rfl, _⟩ | ⟨g, cap, cur, rfl, hc, hb, hg, _⟩
  · cases base <;> simp [Value.blk] at hk
  · simp only [Value.blk] at hk
    rw [if_neg (by omega)] at hk
    cases hk
    exact ⟨hb, (Array.getElem?_eq_some_iff.1 hg).1⟩

theorem OwnR.kept {w' : World} {row : Option Nat} (h : OwnR w B e size v n xs) (hg : w.grownBy w' row) (hne : v.blk = none ∨ v.blk ≠ row) : OwnR w' B e size v n xs := by
  refine ⟨h.1, ?_⟩
  rcases h.2 with hn | ⟨g, cap, cur, rfl, hc, hb, hgg, rest⟩
  · exact .inl hn
  · refine .inr ⟨g, cap, cur, rfl, hc, hb, ?_, rest⟩
    have hbl : Value.blk (.slice (some ⟨g, 0, none⟩) n cap) = some g := by simp only [Value.blk]; rw [if_neg (by omega)]
    rw [hg.block g (Array.getElem?_eq_some_iff.1 hgg).1 (by rw [hbl] at hne; simpa using hne)]
    exact hgg

theorem OwnR.row (h : OwnR w B e size v n xs) {g : Nat} (hg : v.blk = some g) : w.ownsRow B e size v n xs := by
  refine ⟨h.1, ?_⟩
  rcases h.2 with ⟨base, rfl, _⟩ | ⟨g, cap, cur, rfl, hc, rest⟩
  · cases base <;> simp [Value.blk] at hg
  · exact .inr ⟨g, cap, cur, rfl, rest⟩

theorem OwnR.cells (h : OwnR w B e size v n xs) {g : Nat} (hg : v.blk = some g) : ∀ j u, xs[j]? = some u → w.cell? ((⟨g, 0, none⟩ : Addr).add j) = some u := by
  refine (h.row hg).cells ?_
  rcases h.2 with ⟨base, rfl, _⟩ | ⟨g, cap, cur, rfl, hc, rest⟩
  · cases base <;> simp [Value.blk] at hg
  · simp only [Value.blk] at hg
    rw [if_neg (by omega)] at hg
    exact hg

theorem OwnR.of_row (h : w.ownsRow B e size v n xs) : OwnR w B e size v n xs := by
  refine ⟨h.1, ?_⟩
  rcases h.2 with ⟨rfl, hn⟩ | ⟨g, cap, cur, rfl, h1, h2, h3, h4⟩
  · exact .inl ⟨none, rfl, hn⟩
  · by_cases hc : cap = 0
    · subst hc
      have : n = 0 := by omega
      subst this
      exact .inl ⟨_, rfl, rfl⟩
    · exact .inr ⟨g, cap, cur, rfl, by omega, h1, h2, h3, h4⟩
end

/-! Lists. -/
theorem VL.length {c : Ctx} : ∀ {as : List AV} {vs : List Value}, VL c as vs → as.length = vs.length
  | [], [], _ => rfl
  | a :: as, v :: vs, h => by
    unfold VL at h
    simp [VL.length h.2]
  | [], _ :: _, h => by unfold VL at h; exact h.elim
  | _ :: _, [], h => by unfold VL at h; exact h.elim

theorem VL.nil {c : Ctx} : VL c [] [] := by unfold VL; trivial
theorem VL.cons {c : Ctx} {a : AV} {v : Value} {as : List AV} {vs : List Value} (h : VR c a v) (hs : VL c as vs) : VL c (a :: as) (v :: vs) := by
  unfold VL; exact ⟨h, hs⟩

theorem VL.append {c : Ctx} : ∀ {as : List AV} {vs : List Value} {bs : List AV} {us : List Value}, VL c as vs → VL c bs us → VL c (as ++ bs) (vs ++ us)
  | [], [], _, _, _, h => by simpa using h
  | a :: as, v :: vs, _, _, h, h' => by
    unfold VL at h
    exact VL.cons h.1 (VL.append h.2 h')
  | [], _ :: _, _, _, h, _ => by unfold VL at h; exact h.elim
  | _ :: _, [], _, _, h, _ => by unfold VL at h; exact h.elim

theorem VL.take {c : Ctx} : ∀ (n : Nat) {as : List AV} {vs : List Value}, VL c as vs → VL c (as.take n) (vs.take n)
  | 0, _, _, _ => by simpa using VL.nil
  | n + 1, [], [], _ => by simpa using VL.nil
  | n + 1, a :: as, v :: vs, h => by
    unfold VL at h
    exact VL.cons h.1 (VL.take n h.2)
  | _ + 1, [], _ :: _, h => by unfold VL at h; exact h.elim
  | _ + 1, _ :: _, [], h => by unfold VL at h; exact h.elim

theorem VL.drop {c : Ctx} : ∀ (n : Nat) {as : List AV} {vs : List Value}, VL c as vs → VL c (as.drop n) (vs.drop n)
  | 0, _, _, h => by simpa using h
  | n + 1, [], [], _ => by simpa using VL.nil
  | n + 1, a :: as, v :: vs, h => by
    unfold VL at h
    simpa using VL.drop n h.2
  | _ + 1, [], _ :: _, h => by unfold VL at h; exact h.elim
  | _ + 1, _ :: _, [], h => by unfold VL at h; exact h.elim

theorem VL.get {c : Ctx} : ∀ {as : List AV} {vs : List Value}, VL c as vs → ∀ (i : Nat) (a : AV), as[i]? = some a → ∃ v, vs[i]? = some v ∧ VR c a v
  | [], _, _, i, a, h => by simp at h
  | a :: as, v :: vs, h, 0, b, hb => by
    unfold VL at h
    simp at hb
    subst hb
    exact ⟨v, rfl, h.1⟩
  | a :: as, v :: vs, h, i + 1, b, hb => by
    unfold VL at h
    simpa using VL.get h.2 i b (by simpa using hb)
  | _ :: _, [], h, _, _, _ => by unfold VL at h; exact h.elim

/-- What is only read is a value of any state in which it may be read. -/
theorem RR.value {c : Ctx} : ∀ (a : AV) (v : Value), RR c.w c.ro a v → VR c a v
  | .any, _, _ => by unfold VR; trivial
  | .int .., _, h => by unfold RR at h; unfold VR; exact h
  | .bool _, _, h => by unfold RR at h; unfold VR; exact h
  | .str _, _, h => by unfold RR at h; unfold VR; exact h
  | .nil, _, h => by unfold RR at h; unfold VR; exact h
  | .sl _, _, h => by unfold VR; exact h
  | .rp _, _, h => by unfold VR; exact h
  | .own _, _, h => by unfold RR at h; exact h.elim
  | .ptr _ _ _, _, h => by unfold RR at h; exact h.elim
  | .agg cs, _, h => by
    unfold RR at h
    unfold VR
    obtain ⟨vs, h1, h2⟩ := h
    exact ⟨vs, h1, values cs _ h2⟩
  | .tup cs, _, h => by
    unfold RR at h
    unfold VR
    obtain ⟨vs, h1, h2⟩ := h
    exact ⟨vs, h1, values cs _ h2⟩
  | .fn _ cs, _, h => by
    unfold RR at h
    unfold VR
    obtain ⟨vs, h1, h2⟩ := h
    exact ⟨vs, h1, values cs _ h2⟩
where values {c : Ctx} : ∀ (as : List AV) (vs : List Value), LR c.w c.ro as vs → VL c as vs
  | [], [], _ => VL.nil
  | a :: as, v :: vs, h => by
    unfold LR at h
    exact VL.cons (RR.value a v h.1) (values as vs h.2)
  | [], _ :: _, h => by unfold LR at h; exact h.elim
  | _ :: _, [], h => by unfold LR at h; exact h.elim

/-- A value of one cell. -/
def AV.one : AV → Bool
  | .any | .agg _ | .tup _ => false
  | _ => true

def AV.cells : AV → List AV
  | .agg cs => cs
  | a => [a]

/-- A value that can lie in an object that is a slice's: it names no object. -/
def AV.plain : AV → Bool
  | .int _ _ | .bool _ | .str _ | .nil | .sl _ => true
  | _ => false

theorem VR.oneCell {c : Ctx} {a : AV} {v : Value} (h : VR c a v) (h1 : a.one = true) (hh : ∀ id, (c.objs id).isSome = true → (c.hdr id).oneCell' = true) : v.oneCell' = true := by
  cases a <;> simp [AV.one] at h1 <;> unfold VR at h
  case int => subst h; rfl
  case bool => subst h; rfl
  case str => subst h; rfl
  case nil => obtain ⟨_, h⟩ := h; subst h; rfl
  case sl => unfold RR at h; obtain ⟨_, _, h, _⟩ := h; subst h; rfl
  case rp => unfold RR at h; obtain ⟨_, _, h, _⟩ := h; subst h; rfl
  case own id => obtain ⟨h1, h⟩ := h; subst h; exact hh id h1
  case ptr => obtain ⟨_, _, _, _, h⟩ := h; subst h; rfl
  case fn => obtain ⟨_, h, _⟩ := h; subst h; rfl

theorem plain_one {a : AV} (h : a.plain = true) : a.one = true := by cases a <;> simp_all [AV.plain, AV.one]

theorem VR.readOnly {c : Ctx} {a : AV} {v : Value} (h : VR c a v) (h1 : a.plain = true) : RR c.w c.ro a v := by
  cases a <;> simp [AV.plain] at h1 <;> unfold VR at h <;> first | exact h | (unfold RR; exact h)

theorem VL.readOnly {c : Ctx} : ∀ {as : List AV} {vs : List Value}, VL c as vs → as.all AV.plain = true → LR c.w c.ro as vs
  | [], [], _, _ => by unfold LR; trivial
  | a :: as, v :: vs, h, hp => by
    unfold VL at h
    simp at hp
    unfold LR
    exact ⟨h.1.readOnly hp.1, VL.readOnly h.2 (by simpa using hp.2)⟩
  | [], _ :: _, h, _ => by unfold VL at h; exact h.elim
  | _ :: _, [], h, _ => by unfold VL at h; exact h.elim

/-! The state. -/
structure St where
  env : Nat → AV
  sz : Nat
  objs : Nat → Option AObj
  nxt : Nat
  gh : List AV

def roOf (F : Nat → Prop) (w : World) (hdr : Nat → Value) (objs : Nat → Option AObj) : Nat → Prop :=
  fun b => F b ∧ b < w.heap.size ∧ ∀ id o, objs id = some o → (hdr id).blk ≠ some b

def St.ctx (s : St) (F : Nat → Prop) (w : World) (hdr : Nat → Value) : Ctx := ⟨w, roOf F w hdr s.objs, hdr, s.objs⟩

/-- An object and the header of the slice (or of the variable, as a slice of one element) that holds it. -/
structure ObjR (B : Nat) (c : Ctx) (o : AObj) (v : Value) : Prop where
  pos : 0 < o.esz
  lens : ∀ e ∈ o.elems, e.length = o.esz
  row : ∃ cs, OwnR c.w B o.ty o.esz v o.elems.length cs ∧ (∀ u ∈ cs, u.oneCell' = true) ∧ VL c o.elems.flatten cs ∧ (o.box = false → LR c.w c.ro o.elems.flatten cs)

structure Sim (F : Nat → Prop) (w0 : World) (gv : List Value) (s : St) (a : Act) (w : World) (hdr : Nat → Value) : Prop where
  env : ∀ t, VR (s.ctx F w hdr) (s.env t) (a.eval (.tmp t))
  sz : a.tmps.size = s.sz
  defers : a.defers = []
  gh : VL (s.ctx F w hdr) s.gh gv
  objs : ∀ id o, s.objs id = some o → ObjR w0.heap.size (s.ctx F w hdr) o (hdr id)
  dis : ∀ i j o o' b, s.objs i = some o → s.objs j = some o' → (hdr i).blk = some b → (hdr j).blk = some b → i = j
  below : Below w0.heap.size w0 w
  free : ∀ b, w0.heap.size ≤ b → F b

def SimE (F : Nat → Prop) (w0 : World) (gv : List Value) (s : St) (a : Act) (w : World) : Prop := ∃ hdr, Sim F w0 gv s a w hdr

section
variable {F : Nat → Prop} {w0 : World} {gv : List Value} {s : St} {a : Act} {w : World} {hdr : Nat → Value}

theorem Sim.ge (h : Sim F w0 gv s a w hdr) {id : Nat} {o : AObj} (ho : s.objs id = some o) {b : Nat} (hb : (hdr id).blk = some b) : w0.heap.size ≤ b ∧ b < w.heap.size := by
  obtain ⟨cs, h1, _⟩ := (h.objs id o ho).row
  exact h1.lt b hb

theorem Sim.hdrOne (h : Sim F w0 gv s a w hdr) (id : Nat) (hi : (s.objs id).isSome = true) : (hdr id).oneCell' = true := by
  obtain ⟨o, ho⟩ := Option.isSome_iff_exists.1 hi
  obtain ⟨cs, h1, _⟩ := (h.objs id o ho).row
  rcases h1.2 with ⟨_, e, _⟩ | ⟨g, cap, cur, e, _⟩ <;> rw [e] <;> rfl

def St.put (s : St) (d : Option Nat) (v : AV) : St :=
  match d with
  | none => s
  | some d => { s with env := fun t => if t = d then v else s.env t }

def St.fits (s : St) (d : Option Nat) : Bool :=
  match d with
  | none => true
  | some d => decide (d < s.sz)

theorem Act.eval_put (a : Act) (d : Nat) (v : Value) (t : Nat) (hd : d < a.tmps.size) : (a.put (some d) v).eval (.tmp t) = if t = d then v else a.eval (.tmp t) := by
  simp only [Act.put, Act.eval]
  by_cases h : t = d
  · subst h; simp [hd]
  · simp [h, Array.getD_eq_getD_getElem?, Ne.symm h]

theorem Sim.put (h : Sim F w0 gv s a w hdr) {d : Option Nat} {x : AV} {v : Value} (hd : s.fits d = true) (hv : VR (s.ctx F w hdr) x v) : Sim F w0 gv (s.put d x) (a.put d v) w hdr := by
  cases d with
  | none => simpa [St.put, Act.put] using h
  | some d =>
    simp [St.fits] at hd
    refine ⟨fun t => ?_, ?_, h.defers, h.gh, h.objs, h.dis, h.below, h.free⟩
    · rw [Act.eval_put a d v t (by rw [h.sz]; exact hd)]
      simp only [St.put]
      by_cases ht : t = d
      · simp only [ht, if_true]; exact hv
      · simp only [ht, if_false]; exact h.env t
    · simp [Act.put, St.put, h.sz]

/-- New objects: the old world, with blocks behind it. -/
theorem Sim.grow (h : Sim F w0 gv s a w hdr) {w' : World} {hdr' : Nat → Value} {objs' : Nat → Option AObj} 
    (hb : Below w.heap.size w w') (hold : ∀ id o, s.objs id = some o → objs' id = some o ∧ hdr' id = hdr id) 
    (hnew : ∀ id o, objs' id = some o → s.objs id = none → ObjR w.heap.size ⟨w', roOf F w' hdr' objs', hdr', objs'⟩ o (hdr' id))
    (hdis : ∀ i j o o' b, objs' i = some o → objs' j = some o' → s.objs i = none → s.objs j = none → (hdr' i).blk = some b → (hdr' j).blk = some b → i = j) :
    Sim F w0 gv { s with objs := objs' } a w' hdr' := by
  have hB : w0.heap.size ≤ w.heap.size := h.below.size
  have hnb : ∀ id o b, objs' id = some o → s.objs id = none → (hdr' id).blk = some b → w.heap.size ≤ b := by
    intro id o b h1 h2 h3
    obtain ⟨cs, h4, _⟩ := (hnew id o h1 h2).row
    exact (h4.lt b h3).1
  have hro : ∀ b, roOf F w hdr s.objs b → roOf F w' hdr' objs' b := by
    intro b ⟨hF0, h1, h2⟩
    refine ⟨hF0, Nat.lt_of_lt_of_le h1 hb.size, fun id o ho e => ?_⟩
    cases hs : s.objs id with
    | none => have := hnb id o b ho hs e; omega
    | some o0 =>
      obtain ⟨e1, e2⟩ := hold id o0 hs
      rw [e2] at e
      exact h2 id o0 hs e
  have hcell : ∀ b o, b < w.heap.size → w'.cell? ⟨b, o, none⟩ = w.cell? ⟨b, o, none⟩ := fun b o hlt => hb.cell (p := ⟨b, o, none⟩) hlt
  have hR : ∀ x v, RR w (roOf F w hdr s.objs) x v → RR w' (roOf F w' hdr' objs') x v := fun x v => RR.mono (fun b o hr => hcell b o hr.2.1) hro x v
  have hO : ∀ id o, s.objs id = some o → ∃ o', objs' id = some o' ∧ o'.esz = o.esz ∧ hdr' id = hdr id := fun id o ho => ⟨o, (hold id o ho).1, rfl, (hold id o ho).2⟩
  refine ⟨fun t => VR.mono (c := s.ctx F w hdr) (c' := ⟨w', roOf F w' hdr' objs', hdr', objs'⟩) hR hO _ _ (h.env t), h.sz, h.defers, VL.mono (c := s.ctx F w hdr) (c' := ⟨w', roOf F w' hdr' objs', hdr', objs'⟩) hR hO _ _ h.gh, ?_, ?_, h.below.trans (hb.mono hB), h.free⟩
  · intro id o ho
    replace ho : objs' id = some o := ho
    cases hs : s.objs id with
    | none =>
      obtain ⟨h2, h3, cs, h4, h5⟩ := hnew id o ho hs
      refine ⟨h2, h3, cs, ⟨h4.1, ?_⟩, h5⟩
      rcases h4.2 with h4 | ⟨g, cap, cur, e1, e0, e2, e3⟩
      · exact .inl h4
      · exact .inr ⟨g, cap, cur, e1, e0, Nat.le_trans hB e2, e3⟩
    | some o0 =>
      obtain ⟨e1, e2⟩ := hold id o0 hs
      have : o = o0 := by rw [e1] at ho; exact (Option.some.inj ho).symm
      subst this
      obtain ⟨h2, h3, cs, h4, h5, h6, h7⟩ := h.objs id o hs
      refine ⟨h2, h3, cs, ?_, h5, VL.mono (c := s.ctx F w hdr) (c' := ⟨w', roOf F w' hdr' objs', hdr', objs'⟩) hR hO _ _ h6, fun hx => LR.mono (fun b o hr => hcell b o hr.2.1) hro _ _ (h7 hx)⟩
      show OwnR w' w0.heap.size o.ty o.esz (hdr' id) o.elems.length cs
      rw [e2]
      exact h4.kept (w' := w') (row := none) ⟨hb.os, hb.tape, hb.output, hb.size, fun k hk _ => hb.block k hk⟩ (by cases hx : (hdr id).blk <;> simp)
  · intro i j o o' b hi hj bi bj
    cases hsi : s.objs i with
    | none =>
      cases hsj : s.objs j with
      | none => exact hdis i j o o' b hi hj hsi hsj bi bj
      | some o2 =>
        have h1 := hnb i o b hi hsi bi
        rw [(hold j o2 hsj).2] at bj
        have h2 := (h.ge hsj bj).2
        omega
    | some o1 =>
      rw [(hold i o1 hsi).2] at bi
      cases hsj : s.objs j with
      | none =>
        have h1 := hnb j o' b hj hsj bj
        have h2 := (h.ge hsi bi).2
        omega
      | some o2 =>
        rw [(hold j o2 hsj).2] at bj
        exact h.dis i j o1 o2 b hsi hsj bi bj

end
end Go.Ab
