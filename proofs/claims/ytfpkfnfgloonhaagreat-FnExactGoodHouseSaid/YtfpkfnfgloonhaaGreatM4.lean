/-
  Binary search over a list; objects that are given up at an end.
  Calls of the library that turn a slice of the caller's own: Sort, Compact.
  A nil slice as an empty list that is only read.
  Plain laws: lists that rise, searched and collected.
  Calls of the library that turn a slice of numbers of the caller's own: Sort, Compact.
  An object takes another's name.
  Objects that own what they reach: flat ones turned into such; functions that write marks through all that is reached.
  Calls of functions that mark, and what such a function is out of its code.
  What a function that marks is, out of its code; such a function at what lies in a cell.
  Small steps for objects that own what they reach; marks through lists.
  No condition: definitions and lemmas over any program.
-/
import Derived.Test.YtfpkfnfgloonhaaGreatM3
import Derived.Sort.OwnSorted
import Derived.Lib.SlicesCompact
import Derived.Sort.Walk0
namespace Go.Ab
set_option linter.unusedVariables false

/-- Where the search of slices.BinarySearchFunc ends, from the bounds i and j. -/
def bsGo {α : Type} (c : α → Int) (xs : List α) (i j : Nat) : Nat :=
  if h : i < j then
    match xs[(i + j) / 2]? with
    | some x => if c x < 0 then bsGo c xs ((i + j) / 2 + 1) j else bsGo c xs i ((i + j) / 2)
    | none => i
  else i
termination_by j - i
decreasing_by all_goals omega
section
variable {α : Type} {c : α → Int} {xs : List α} {i j : Nat} {x : α}
def bsPos (c : α → Int) (xs : List α) : Nat := bsGo c xs 0 xs.length
def bsHit (c : α → Int) (xs : List α) : Bool := match xs[bsPos c xs]? with | some x => c x == 0 | none => false
end

theorem one_lenC {L : List (List AV)} {e : List AV} {n : Nat} (hL : L = [e]) (he : e.length = n) : ∀ z ∈ L, z.length = n := by
  subst hL
  intro z hz
  simp at hz
  rw [hz]
  exact he
theorem app_boundC {L M : List (List AV)} {b : Nat} (hM : M.length = 1) (hL : L.length ≤ 2097152) (hb : b ≤ 64) : L.length + M.length ≤ 70368744177664 ∧ (L.length + M.length) * b ≤ 140737488355328 := by
  rw [hM]
  refine ⟨by omega, ?_⟩
  have : (L.length + 1) * b ≤ (L.length + 1) * 64 := Nat.mul_le_mul_left _ hb
  omega

/-! Objects given up. -/
theorem St.le_frz (s : St) (ids : List Nat) : s.le (frzIds s ids) := by
  intro F w0 gv a w ⟨hdr, h⟩
  exact ⟨hdr, (frzIds_ok ids s h).1⟩
theorem OutA_frz {P : Program} {sh : Bool} {rs : List ResultVar} {r : AV} {os : List AObj} {s : St} (ids : List Nat) (h : OutA P sh rs r os (frzIds s ids)) : OutA P sh rs r os s :=
  OutA_le (St.le_frz s ids) h
end Go.Ab
namespace Go.Ab
open Go.Sort Go.Proofs
set_option linter.unusedVariables false

theorem turned_id (s : St) (id : Nat) (o' : AObj) : turned s (fun j => .own j) (fun j x y => .ptr j x y) (fun j x y z => .cel j x y z) id (some o') = setObj s id o' := by
  cases s with
  | mk e z o n g =>
    simp only [turned, setObj]
    congr 1
    · funext t; exact AV.sub_id _
    · funext i
      by_cases h : i = id
      · simp [h]
      · simp only [h, if_false]
        cases o i with
        | none => rfl
        | some x => simp [subO_id]
    · exact AV.subL_id g

section
variable {F : Nat → Prop} {w0 : Base} {gv : List Value} {s : St} {a : Act} {w : World} {hdr : Nat → Hdr}

end

/-- Cells of a list of strings. -/
def sortS (ss : List (List UInt8)) : List (List UInt8) := ss.mergeSort fun x y => decide (x ≤ y)

def compS (ss : List (List UInt8)) : List (List UInt8) := Lib.compact ss
end Go.Ab
namespace Go.Ab
set_option linter.unusedVariables false

theorem VR_nilS {c : Ctx} {v : Value} (h : VR c .nil v) : VR c (.sl []) v := by
  unfold VR at h
  obtain ⟨base, rfl⟩ := h
  unfold VR RR
  exact ⟨base, 0, rfl, Nat.le_refl _, .inl rfl⟩
theorem St.le_nilS {e : Nat → AV} {z : Nat} {o : Nat → Option AObj} {n : Nat} {g : List AV} (t : Nat) (ht : e t = .nil) : St.le ⟨e, z, o, n, g⟩ ⟨upd t (.sl []) e, z, o, n, g⟩ := by
  intro F w0 gv a w ⟨hdr, h⟩
  refine ⟨hdr, fun t' => ?_, h.sz, h.defers, h.gh, h.objs, h.dis, h.below, h.free⟩
  rw [upd_eq]
  by_cases e1 : t' = t
  · subst e1
    have hv := h.env t'
    have ht2 : St.env ⟨e, z, o, n, g⟩ t' = .nil := ht
    rw [ht2] at hv
    show VR _ (if t' = t' then AV.sl [] else e t') _
    rw [if_pos rfl]
    exact VR_nilS (c := St.ctx ⟨e, z, o, n, g⟩ F w hdr) hv
  · show VR _ (if t' = t then AV.sl [] else e t') _
    rw [if_neg e1]
    exact h.env t'
theorem OutA_nilS {P : Program} {sh : Bool} {rs : List ResultVar} {r : AV} {os : List AObj} {e : Nat → AV} {z : Nat} {o : Nat → Option AObj} {n : Nat} {g : List AV} (t : Nat) (ht : e t = .nil)
    (h : OutA P sh rs r os ⟨upd t (.sl []) e, z, o, n, g⟩) : OutA P sh rs r os ⟨e, z, o, n, g⟩ := OutA_le (St.le_nilS t ht) h

theorem ix_at {α : Type} {f : α → List AV} {xs : List α} {n : Int} {m : Nat} {x : α} {Q : List AV → Prop} (e : n = (m : Int)) (hx : xs[m]? = some x) (hQ : Q (f x)) : 0 ≤ n ∧ ∃ y, (xs.map f)[n.toNat]? = some y ∧ Q y := by
  subst e
  exact ⟨by omega, f x, by simp [hx], hQ⟩
end Go.Ab
namespace Go.Ab
open Go.Proofs
set_option linter.unusedVariables false

section
variable {α : Type} {c : α → Int} {xs : List α}
end

/-! Lists that are collected. -/
end Go.Ab
namespace Go.Ab
open Go.Sort Go.Proofs
set_option linter.unusedVariables false

section
abbrev encI : Int → Value := Value.int .i64
end
def sortI (ss : List Int) : List Int := ss.mergeSort fun x y => decide (x ≤ y)
def compI (ss : List Int) : List Int := Lib.compact ss
end Go.Ab
namespace Go.Ab
set_option linter.unusedVariables false

def renO (a b : Nat) : Nat → AV := fun j => if j = a then .own b else if j = b then .any else .own j
def renP (a b : Nat) : Nat → Nat → Nat → AV := fun j x y => if j = a then .ptr b x y else if j = b then .any else .ptr j x y
def renC (a b : Nat) : SC := fun j x y z => if j = a then .cel b x y z else if j = b then .any else .cel j x y z
/-- The state in which object a bears the name b; what bore it is given up. -/
def renS (s : St) (a b : Nat) : St :=
  match s with
  | ⟨e, z, o, n, g⟩ => ⟨fun t => (e t).sub (renO a b) (renP a b) (renC a b), z, fun i => if i = b then (o a).map (subO (renO a b) (renP a b) (renC a b)) else if i = a then none else (o i).map (subO (renO a b) (renP a b) (renC a b)), n, AV.sub.subL (renO a b) (renP a b) (renC a b) g⟩

end Go.Ab
namespace Go.Ab
open Go.RowKit
set_option linter.unusedVariables false

theorem St.le_prom (s : St) (l : List (Nat × List Shp)) (hp : PromAll s l) : s.le (promS s l) := fun F w0 gv a w ⟨hdr, h⟩ => ⟨hdr, (h.prom hp).1⟩
theorem Loop_prom {body : (Exit → St → Prop) → St → Prop} {K : Exit → St → Prop} {s : St} (l : List (Nat × List Shp)) (hp : PromAll s l) (h : Loop body K (promS s l)) : Loop body K s := by
  unfold Loop at h ⊢
  obtain ⟨J, I, m, j0, h0, hb⟩ := h
  exact ⟨J, I, m, j0, St.le_trans (St.le_prom s l hp) h0, hb⟩
structure MOut (w w' : World) (shs : List Shp) (al' : List AV) (vs : List Value) (S : List Nat) : Prop where
  tl : ∃ S', TL w' al' shs vs S' ∧ S'.Nodup ∧ ∀ b ∈ S', b ∈ S ∨ w.heap.size ≤ b
  os : w'.os = w.os
  tape : w'.tape = w.tape
  output : w'.output = w.output
  size : w.heap.size ≤ w'.heap.size
  block : ∀ k, k < w.heap.size → k ∉ S → w'.heap[k]? = w.heap[k]?

def argV (b : Bool) (vs : List Value) : Value :=
  match b with
  | true => .agg vs.toArray
  | false => vs.headD undef
def argA (b : Bool) (cs : List AV) : AV :=
  match b with
  | true => .agg cs
  | false => cs.headD .any

/-- A function that marks: on a value that owns what it reaches, and a number. -/
structure MC (P : Program) (f : Nat) (b : Bool) (al : List AV) (shs : List Shp) (k : Int) (al' : List AV) (k' : Int) : Prop where
  one : b = false → al.length = 1
  run : ∀ (w : World) (vs : List Value) (S : List Nat), TL w al shs vs S → S.Nodup → Ans P f #[argV b vs, .int .i64 k] w fun r w' => r = .int .i64 k' ∧ MOut w w' shs al' vs S

/-! The objects of a value that is handed over, named from n on. -/
def numC : Nat → List AV → List Shp → List AV
  | n, a :: al, sh :: shs =>
    match a with
    | .sl _ => .own n :: numC (n + 1) al shs
    | a => a :: numC n al shs
  | _, _, _ => []
def numO : List AV → List Shp → List AObj
  | a :: al, sh :: shs =>
    match a with
    | .sl es =>
      match sh with
      | .sl ty esz cells => ⟨.deep cells, ty, esz, es⟩ :: numO al shs
      | .leaf => numO al shs
    | _ => numO al shs
  | _, _ => []

end Go.Ab
namespace Go.Ab
open Go.RowKit
set_option linter.unusedVariables false

/-- The object of name j among the cells that are handed over. -/
def lookC : List AV → List AV → List Shp → Nat → Option AObj
  | c :: cs, a :: al, sh :: shs, j =>
    match c with
    | .own i =>
      match Nat.beq j i with
      | true =>
        match a with
        | .sl es =>
          match sh with
          | .sl ty esz cells => some ⟨.deep cells, ty, esz, es⟩
          | .leaf => none
        | _ => none
      | false => lookC cs al shs j
    | _ => lookC cs al shs j
  | _, _, _, _ => none
def matchC : List AV → List AV → List Shp → Bool
  | c :: cs, a :: al, sh :: shs =>
    (match c with
    | .own _ =>
      match a with
      | .sl _ => true
      | _ => false
    | _ => flatA sh a) && matchC cs al shs
  | [], [], [] => true
  | _, _, _ => false
def OwnV (hdr : Nat → Hdr) : List AV → List Value → Prop
  | c :: cs, v :: vs => (∀ j, c = .own j → (hdr j).v = v) ∧ OwnV hdr cs vs
  | _, _ => True

theorem OwnV.congr {hdr hdr' : Nat → Hdr} : ∀ {cs : List AV} {vs : List Value}, (∀ j, inL j (ownsOf cs) = true → hdr' j = hdr j) → OwnV hdr cs vs → OwnV hdr' cs vs
  | [], _, _, _ => by unfold OwnV; trivial
  | _ :: _, [], _, _ => by unfold OwnV; trivial
  | c :: cs, v :: vs, he, h => by
    unfold OwnV at h ⊢
    refine ⟨fun j hj => ?_, OwnV.congr (fun j hj => he j ?_) h.2⟩
    · rw [he j (inL_mem.2 (by rw [ownsOf_cons, hj]; simp))]
      exact h.1 j hj
    · exact inL_mem.2 (by rw [ownsOf_cons]; exact List.mem_append_right _ (inL_mem.1 hj))

def updM (s : St) (cs al : List AV) (shs : List Shp) : St :=
  match s with
  | ⟨e, z, o, n, g⟩ => ⟨fun t => (e t).sub (fun i => .own i) (fun i x y => .ptr i x y) (killsC (ownsOf cs)), z,
      fun i => match inL i (ownsOf cs) with | true => lookC cs al shs i | false => (o i).map (subO (fun i => .own i) (fun i x y => .ptr i x y) (killsC (ownsOf cs))), n, AV.sub.subL (fun i => .own i) (fun i x y => .ptr i x y) (killsC (ownsOf cs)) g⟩

section
variable {F : Nat → Prop} {w0 : Base} {gv : List Value} {s : St} {a : Act} {w : World} {hdr : Nat → Hdr}

end

end Go.Ab
namespace Go.Ab
open Go.RowKit
set_option linter.unusedVariables false

@[irreducible] def OutM (P : Program) (rs : List ResultVar) (cs al' : List AV) (shs : List Shp) (k' : Int) (s : St) : Prop :=
  ∃ s', s.le s' ∧ resA P s' rs = some (.int .i64 k') ∧ s'.gh = cs ∧ fitL s' shs cs = true ∧ cs.map (absA s') = al'
end Go.Ab
namespace Go.Ab
set_option linter.unusedVariables false

theorem StoreD_of {s : St} {id idx off : Nat} {ob : AObj} {sh : List Shp} {cs e : List AV} {K : St → Prop} (h1 : fitL s ((sh.drop off).take cs.length) cs = true) (h2 : inL id (ownsOf cs) = false) (h3 : dupL (ownsOf cs) = false)
    (h : forceS (takeIn s (ownsOf cs) id { ob with elems := ob.elems.set idx (splice e off (cs.map (absA s))) }) K) : StoreD s id idx off ob sh cs e K := by
  unfold StoreD
  rw [forceS_eq] at h
  exact ⟨h1, ⟨h2, h3⟩, _, fun _ _ _ _ _ h => h, h⟩
/-- The same, the state behind it written out. -/
theorem BuildD_of {s : St} {nid ty esz : Nat} {r : List AV} {d : Option Nat} {K : St → Prop} (sh : List Shp) (h1 : fitL s sh r = true) (h2 : dupL (ownsOf r) = false) (h3 : inL nid (ownsOf r) = false)
    (h : forceS (takeIn s (ownsOf r) nid ⟨.deep sh, ty, esz, [r.map (absA s)]⟩) fun s' => s'.putK d (.own nid) K) : BuildD s nid ty esz 1 r d K := by
  unfold BuildD
  refine ⟨[], trivial, sh, rfl, ?_⟩
  rw [promS_nil]
  exact ⟨⟨h1, h2, h3⟩, h⟩
/-- The same, of flat objects that from now on own what they reach. -/
theorem AppD_of {P : Program} {e : TypeId} {i : TypeInfo} {s : St} {id j : Nat} {o : AObj} {sh : List Shp} {d : Option Nat} {K : St → Prop} {ty esz : Nat} {es : List (List AV)} (hj : s.objs j = some ⟨.deep sh, ty, esz, es⟩)
    (h1 : j ≠ id ∧ esz = i.size ∧ o.ty = e ∧ o.esz = i.size ∧ i.zero.isSome = true ∧ (i.zero.map (·.cells.size)) = some i.size) (h2 : o.elems.length + es.length ≤ 70368744177664 ∧ (o.elems.length + es.length) * i.bytes ≤ 140737488355328)
    (h : forceS (takeIn s [id, j] id { o with elems := o.elems ++ es }) fun s' => s'.putK d (.own id) K) : AppD P e i s id o sh (.own j) d K := by
  unfold AppD
  exact ⟨j, _, rfl, hj, ⟨h1.1, rfl, h1.2.1, h1.2.2.1, h1.2.2.2.1, h1.2.2.2.2.1, h1.2.2.2.2.2⟩, h2, h⟩
theorem AppN_of {P : Program} {e : TypeId} {i : TypeInfo} {s : St} {nid j : Nat} {d : Option Nat} {K : St → Prop} {sh : List Shp} {ty esz : Nat} {es : List (List AV)} (hj : s.objs j = some ⟨.deep sh, ty, esz, es⟩) (hn : s.objs nid = none)
    (h1 : esz = i.size ∧ i.zero.isSome = true ∧ (i.zero.map (·.cells.size)) = some i.size) (h2 : es.length ≤ 70368744177664 ∧ es.length * i.bytes ≤ 140737488355328)
    (h : forceS (takeIn s [j] nid ⟨.deep sh, e, i.size, es⟩) fun s' => s'.putK d (.own nid) K) : AppN P e i s nid j d K := by
  unfold AppN
  exact ⟨_, sh, hj, hn, ⟨rfl, h1.1, h1.2.1, h1.2.2⟩, h2, h⟩

/-- A call of a function that marks, at an object. -/
theorem prom_map {α : Type} {f : α → List AV} {sh : List Shp} (h : ∀ x, flatFit sh (f x) = true) {xs : List α} : ∀ e ∈ xs.map f, flatFit sh e = true := fun e he => by
  obtain ⟨x, _, rfl⟩ := List.mem_map.1 he
  exact h x
theorem prom_nil {sh : List Shp} : ∀ e ∈ ([] : List (List AV)), flatFit sh e = true := fun e he => by cases he
theorem prom_one {sh : List Shp} {x : List AV} (h : flatFit sh x = true) : ∀ e ∈ [x], flatFit sh e = true := fun e he => by
  simp at he
  rw [he]; exact h
theorem prom_rep {sh : List Shp} {x : List AV} {n : Nat} (h : flatFit sh x = true) : ∀ e ∈ List.replicate n x, flatFit sh e = true := fun e he => by
  rw [List.eq_of_mem_replicate he]; exact h

/-! Marks through lists: what is written into each element, and how many numbers that takes. -/
def cntL {α : Type} (cnt : α → Nat) (xs : List α) : Nat := (xs.map cnt).sum
def mkL {α : Type} (mk : α → Int → α) (cnt : α → Nat) : List α → Int → List α
  | [], _ => []
  | x :: xs, k => mk x k :: mkL mk cnt xs (k + (cnt x : Int))
def cnt1 {α : Type} (_ : α) : Nat := 1
def mkInt (_ : Int) (k : Int) : Int := k
def mkStr (_ : List UInt8) (k : Int) : List UInt8 := mText k
def mkBool (_ : Bool) (k : Int) : Bool := k.tmod 3 == 0
section
variable {α : Type} {mk : α → Int → α} {cnt : α → Nat} {xs : List α} {k : Int} {i : Nat} {x : α}
theorem mkL_length : ∀ {xs : List α} {k : Int}, (mkL mk cnt xs k).length = xs.length
  | [], _ => rfl
  | x :: xs, k => by simp [mkL, mkL_length (xs := xs)]
def midL (mk : α → Int → α) (cnt : α → Nat) (xs : List α) (k : Int) (i : Nat) : List α := mkL mk cnt (xs.take i) k ++ xs.drop i
end
theorem midL_len {α : Type} {mk : α → Int → α} {cnt : α → Nat} {xs : List α} {k : Int} {i : Nat} : (midL mk cnt xs k i).length = min i xs.length + (xs.length - i) := by
  simp only [midL, List.length_append, mkL_length, List.length_take, List.length_drop]
theorem lensC : (∀ {α β : Type} {xs : List α} {f : α → β}, (xs.map f).length = xs.length) ∧ (∀ {α : Type} {xs ys : List α}, (xs ++ ys).length = xs.length + ys.length) ∧ (∀ {α : Type} {i : Nat} {xs : List α}, (xs.take i).length = min i xs.length) ∧ (∀ {α : Type} {a : α} {xs : List α}, (a :: xs).length = xs.length + 1) ∧ (∀ {α : Type}, ([] : List α).length = 0) :=
  ⟨List.length_map .., List.length_append, List.length_take, List.length_cons, List.length_nil⟩
theorem lensB : (∀ {α β : Type} {xs : List α} {f : α → β}, (xs.map f).length = xs.length) ∧ (∀ {α : Type} {i : Nat} {xs : List α}, (xs.take i).length = min i xs.length) ∧ (∀ {α : Type} {xs ys : List α}, (xs ++ ys).length = xs.length + ys.length) ∧ (∀ {α : Type} {i : Nat} {xs : List α}, (xs.drop i).length = xs.length - i) ∧ (∀ {α : Type} {xs : List α} {i : Nat} {a : α}, (xs.set i a).length = xs.length) ∧ (∀ {α : Type} {c : Int} {f : Int → α} {k : Int} {n : Nat}, (markList c f k n).length = n) :=
  ⟨List.length_map .., List.length_take, List.length_append, List.length_drop, List.length_set, markList_length⟩
theorem i64w {e : Int} (h : 0 ≤ e) (h' : e ≤ 2305843009213693952) : IntKind.i64.wrap e = e := i64_wrap (by omega) (by omega)
theorem cntL_w100 {α : Type} {cnt w : α → Nat} (h : ∀ x, cnt x ≤ 100 * (1 + w x)) (xs : List α) : cntL cnt xs ≤ 100 * wL w xs := by
  induction xs with
  | nil => exact Nat.zero_le _
  | cons x xs ih =>
    simp only [cntL, wL, List.map_cons, List.sum_cons, List.length_cons] at ih ⊢
    have := h x
    omega
theorem cntL_l100 {α : Type} {cnt : α → Nat} (h : ∀ x, cnt x ≤ 100) (xs : List α) : cntL cnt xs ≤ 100 * xs.length := by
  induction xs with
  | nil => exact Nat.zero_le _
  | cons x xs ih =>
    simp only [cntL, List.map_cons, List.sum_cons, List.length_cons] at ih ⊢
    have := h x
    omega
theorem one_w100 {α : Type} {x : α} {n : Nat} : cnt1 x ≤ 100 * (1 + n) := by show 1 ≤ _; omega
end Go.Ab
