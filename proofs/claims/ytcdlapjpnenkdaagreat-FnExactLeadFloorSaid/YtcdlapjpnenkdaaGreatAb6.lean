/-
  The operations, one by one: what each needs and what it leaves, as a statement on abstract states.
  No condition: definitions and lemmas over any program.
-/
import Derived.Test.YtcdlapjpnenkdaaGreatAb5
import Derived.Great.BuildSlice
import Derived.Laws.StructEq
namespace Go.Ab
open Go.RowKit

/-! Cells of a value that is stored. -/
def AV.cells? : AV → Option (List AV)
  | .agg cs => if cs.all AV.one then some cs else none
  | a => if a.one then some [a] else none

theorem cells_of_one {v : Value} (h : v.oneCell' = true) : v.cells.toList = [v] := by
  cases v <;> simp_all [Value.oneCell', Value.cells]

theorem VL.ones {c : Ctx} (hh : ∀ id, (c.objs id).isSome = true → (c.hdr id).oneCell' = true) : ∀ {as : List AV} {vs : List Value}, VL c as vs → as.all AV.one = true → ∀ u ∈ vs, u.oneCell' = true
  | [], [], _, _, u, hu => by simp at hu
  | a :: as, v :: vs, h, ho, u, hu => by
    unfold VL at h
    simp only [List.all_cons, Bool.and_eq_true] at ho
    simp only [List.mem_cons] at hu
    rcases hu with hu | hu
    · rw [hu]; exact h.1.oneCell ho.1 hh
    · exact VL.ones hh h.2 ho.2 u hu
  | [], _ :: _, h, _, _, _ => by unfold VL at h; exact h.elim
  | _ :: _, [], h, _, _, _ => by unfold VL at h; exact h.elim

theorem cells?_ok {c : Ctx} (hh : ∀ id, (c.objs id).isSome = true → (c.hdr id).oneCell' = true) {x : AV} {v : Value} (h : VR c x v) {cs : List AV} (hc : x.cells? = some cs) :
    VL c cs v.cells.toList ∧ ∀ u ∈ v.cells.toList, u.oneCell' = true := by
  have one : ∀ y : AV, y.one = true → VR c y v → cs = [y] → VL c cs v.cells.toList ∧ ∀ u ∈ v.cells.toList, u.oneCell' = true := by
    intro y hy hv e
    have h1 := hv.oneCell hy hh
    rw [cells_of_one h1, e]
    refine ⟨VL.cons hv VL.nil, fun u hu => ?_⟩
    simp at hu; rw [hu]; exact h1
  cases x
  case agg as =>
    simp only [AV.cells?] at hc
    split at hc
    · rename_i ho
      cases hc
      unfold VR at h
      obtain ⟨vs, rfl, h2⟩ := h
      exact ⟨h2, VL.ones hh h2 ho⟩
    · cases hc
  all_goals
    simp only [AV.cells?, AV.one, if_true] at hc
    first
      | (simp at hc; done)
      | (refine one _ rfl h ?_; simpa using hc.symm)

/-! Zero values; parts put together. -/
def zeroA (P : Program) (T : TypeId) : Option (List AV) :=
  match P.info? T with
  | some i =>
    match i.zero with
    | some z => some (z.cells.toList.map ofVal1)
    | none => none
  | none => none

def fillA (place : Nat → Option (Nat × Nat)) (cells : List AV) : List (Nat × AV) → Option (List AV)
  | [] => some cells
  | (i, x) :: rest =>
    match place i with
    | some (off, size) =>
      match x.cells? with
      | some cs => if cs.length = size ∧ off + size ≤ cells.length then fillA place (splice cells off cs) rest else none
      | none => none
    | none => none

theorem foldl_set_splice (off : Nat) : ∀ (vs : List Value) (k : Nat) (cells : Array Value), off + k + vs.length ≤ cells.size →
    ((vs.zipIdx k).foldl (fun cs (c, j) => cs.setIfInBounds (off + j) c) cells).toList = splice cells.toList (off + k) vs
  | [], k, cells, _ => by simp [splice]
  | v :: vs, k, cells, h => by
    simp only [List.length_cons] at h
    simp only [List.zipIdx_cons, List.foldl_cons]
    rw [foldl_set_splice off vs (k + 1) _ (by simp; omega)]
    unfold splice
    rw [Array.toList_setIfInBounds]
    have hk : off + k < cells.toList.length := by simp; omega
    have e1 : List.take (off + (k + 1)) (cells.toList.set (off + k) v) = List.take (off + k) cells.toList ++ [v] := by
      rw [← Nat.add_assoc, List.take_succ_eq_append_getElem (by simpa using hk), List.take_set_of_le (Nat.le_refl _)]
      simp
    have e2 : List.drop (off + (k + 1) + vs.length) (cells.toList.set (off + k) v) = List.drop (off + k + (v :: vs).length) cells.toList := by
      rw [List.drop_set_of_lt (by omega)]
      congr 1
      simp only [List.length_cons]
      omega
    rw [e1, e2]
    simp only [List.append_assoc, List.cons_append, List.nil_append]

theorem fillA_ok {c : Ctx} (hh : ∀ id, (c.objs id).isSome = true → (c.hdr id).oneCell' = true) (place : Nat → Option (Nat × Nat)) :
    ∀ (parts : List (Nat × AV)) (parts' : List (Nat × Value)) (cells : List AV) (cells' : Array Value) (r : List AV),
      parts.length = parts'.length → (∀ (j : Nat) (p : Nat × AV) (q : Nat × Value), parts[j]? = some p → parts'[j]? = some q → p.1 = q.1 ∧ VR c p.2 q.2) → VL c cells cells'.toList → fillA place cells parts = some r →
      ∃ r', Instr.fill place cells' parts' = some r' ∧ VL c r r'.toList
  | [], [], cells, cells', r, _, _, h, hf => by
    simp only [fillA, Option.some.injEq] at hf
    subst hf
    exact ⟨cells', rfl, h⟩
  | (i, x) :: parts, (i', v) :: parts', cells, cells', r, hl, hp, h, hf => by
    obtain ⟨e1, e2⟩ := hp 0 (i, x) (i', v) rfl rfl
    simp only at e1 e2
    subst e1
    simp only [fillA] at hf
    cases hpl : place i with
    | none => simp [hpl] at hf
    | some os =>
      obtain ⟨off, size⟩ := os
      cases hc : x.cells? with
      | none => simp [hpl, hc] at hf
      | some cs =>
        simp only [hpl, hc] at hf
        split at hf
        · rename_i hcond
          obtain ⟨k1, _⟩ := cells?_ok hh e2 hc
          have hlen : cs.length = v.cells.toList.length := k1.length
          have hcl : cells.length = cells'.size := by simpa using h.length
          have hvs : v.cells.size = size := by simpa [hcond.1] using hlen.symm
          have hsp := foldl_set_splice off v.cells.toList 0 cells' (by simp; omega)
          have h2 : VL c (splice cells off cs) (splice cells'.toList off v.cells.toList) := h.splice off k1
          simp only [Nat.add_zero] at hsp
          rw [← hsp] at h2
          obtain ⟨r', q1, q2⟩ := fillA_ok hh place parts parts' (splice cells off cs) _ r (by simpa using hl) (fun j p q hj hj' => hp (j + 1) p q hj hj') h2 hf
          refine ⟨r', ?_, q2⟩
          simp only [Instr.fill, hpl]
          rw [if_neg (by simp [hvs]; omega)]
          rw [← q1]
          congr 1
          rw [← Array.toList_zipIdx, Array.foldl_toList]
        · cases hf
  | [], _ :: _, _, _, _, hl, _, _, _ => by simp at hl
  | _ :: _, [], _, _, _, hl, _, _, _ => by simp at hl

/-- The places of a struct's fields. -/
def placesOf (P : Program) (T : TypeId) : Option (List (Nat × Nat)) :=
  match P.underlying T with
  | some (.struct fields) => fields.toList.mapM (fun f => (P.info? f.type).map fun i => (f.offset, i.size))
  | _ => none

def buildA (P : Program) (T : TypeId) (parts : List (Nat × AV)) : Option (List AV) :=
  match zeroA P T with
  | some z =>
    match placesOf P T with
    | some pl => fillA (pl.toArray[·]?) z parts
    | none => none
  | none => none

theorem zeroA_ok {P : Program} {T : TypeId} {z : List AV} (h : zeroA P T = some z) : ∃ i v, P.info? T = some i ∧ i.zero = some v ∧ ∀ c, VL c z v.cells.toList := by
  unfold zeroA at h
  cases hi : P.info? T with
  | none => simp [hi] at h
  | some i =>
    cases hz : i.zero with
    | none => simp [hi, hz] at h
    | some v =>
      simp [hi, hz] at h
      subst h
      exact ⟨i, v, rfl, hz, fun c => ofVals_ok c _⟩

theorem buildA_ok {c : Ctx} (hh : ∀ id, (c.objs id).isSome = true → (c.hdr id).oneCell' = true) {P : Program} {T : TypeId} {parts : List (Nat × AV)} {parts' : List (Nat × Value)} {r : List AV}
    (hl : parts.length = parts'.length) (hp : ∀ (j : Nat) (p : Nat × AV) (q : Nat × Value), parts[j]? = some p → parts'[j]? = some q → p.1 = q.1 ∧ VR c p.2 q.2) (h : buildA P T parts = some r) :
    ∃ r', P.built T parts' = some r' ∧ VL c r r'.toList := by
  unfold buildA at h
  cases hz : zeroA P T with
  | none => simp [hz] at h
  | some z =>
    cases hpl : placesOf P T with
    | none => simp [hz, hpl] at h
    | some pl =>
      simp only [hz, hpl] at h
      obtain ⟨i, v, e1, e2, e3⟩ := zeroA_ok hz
      obtain ⟨r', q1, q2⟩ := fillA_ok hh _ parts parts' z v.cells r hl hp (e3 c) h
      refine ⟨r', ?_, q2⟩
      unfold placesOf at hpl
      cases hu : P.underlying T with
      | none => simp [hu] at hpl
      | some d =>
        cases d <;> simp only [hu] at hpl <;> try (cases hpl; done)
        unfold Program.built
        simp only [e1, hu, e2, hpl]
        exact q1

/-! Numbers, strings, bools. -/
def intBin (op : BinOp) (k : IntKind) (x y : Int) : Option (Option Prop × AV) :=
  match op with
  | .add => some (none, .int k (k.wrap (x + y)))
  | .sub => some (none, .int k (k.wrap (x - y)))
  | .mul => some (none, .int k (k.wrap (x * y)))
  | .quo => some (some (y ≠ 0), .int k (k.wrap (x.tdiv y)))
  | .rem => some (some (y ≠ 0), .int k (x.tmod y))
  | .eql => some (none, .bool (x == y))
  | .neq => some (none, .bool (x != y))
  | .lss => some (none, .bool (decide (x < y)))
  | .leq => some (none, .bool (decide (x ≤ y)))
  | .gtr => some (none, .bool (decide (x > y)))
  | .geq => some (none, .bool (decide (x ≥ y)))
  | .and => some (none, .int k (k.wrap (BitVec.ofInt k.bits x &&& BitVec.ofInt k.bits y).toNat))
  | .or => some (none, .int k (k.wrap (BitVec.ofInt k.bits x ||| BitVec.ofInt k.bits y).toNat))
  | .xor => some (none, .int k (k.wrap (BitVec.ofInt k.bits x ^^^ BitVec.ofInt k.bits y).toNat))
  | _ => none

def strBin (op : BinOp) (x y : List UInt8) : Option (Option Prop × AV) :=
  match op with
  | .add => some (some (x.length + y.length ≤ 4611686018427387904), .str (x ++ y))
  | .eql => some (none, .bool (x == y))
  | .neq => some (none, .bool (!(x == y)))
  | .lss => some (none, .bool (Op.bytesLess x y))
  | .leq => some (none, .bool (Op.bytesLess x y || x == y))
  | .gtr => some (none, .bool (!(Op.bytesLess x y || x == y)))
  | .geq => some (none, .bool (!Op.bytesLess x y))
  | _ => none

def isBoolT (P : Program) (T : TypeId) : Bool :=
  match P.underlying T with
  | some .bool => true
  | _ => false

/-! Structs of numbers, bools and strings. -/
def leafB (P : Program) (t : TypeId) (x y : AV) : Option Bool :=
  match x with
  | .int k a =>
    match y with
    | .int k' b =>
      match P.underlying t with
      | some (.int _) => if k = k' then some (a == b) else none
      | _ => none
    | _ => none
  | .str a =>
    match y with
    | .str b =>
      match P.underlying t with
      | some .string => some (a == b)
      | _ => none
    | _ => none
  | .bool a =>
    match y with
    | .bool b =>
      match P.underlying t with
      | some .bool => some (a == b)
      | _ => none
    | _ => none
  | _ => none

def eqF (P : Program) (xs ys : List AV) : List Field → Option Bool
  | [] => some true
  | f :: fs =>
    match xs[f.offset]? with
    | some x =>
      match ys[f.offset]? with
      | some y =>
        match leafB P f.type x y with
        | some b =>
          match fs with
          | [] => some b
          | _ :: _ =>
            match eqF P xs ys fs with
            | some r => some (b && r)
            | none => none
        | none => none
      | none => none
    | none => none

def structOk (P : Program) (T : TypeId) : Bool :=
  match P.underlying T with
  | some (.struct fs) => fs.toList.all (fun f => f.name != "_") && (!P.stoodInHeld T && !P.eqGuardType P.depth T)
  | _ => false

def binA (P : Program) (op : BinOp) (T : TypeId) (x y : AV) : Option (Option Prop × AV) :=
  match x with
  | .int k a =>
    match y with
    | .int k' b =>
      match op with
      | .shl => some (some (0 ≤ b), .int k (k.wrap (a * 2 ^ (min b.toNat k.bits))))
      | .shr => some (some (0 ≤ b), .int k (a.fdiv (2 ^ (min b.toNat k.bits))))
      | _ => if k = k' then intBin op k a b else none
    | _ => none
  | .str a =>
    match y with
    | .str b => strBin op a b
    | _ => none
  | .bool a =>
    match y with
    | .bool b =>
      match isBoolT P T with
      | true =>
        match op with
        | .eql => some (none, .bool (a == b))
        | .neq => some (none, .bool (!(a == b)))
        | _ => none
      | false => none
    | _ => none
  | .agg xs =>
    match y with
    | .agg ys =>
      match P.underlying T with
      | some (.struct fs) =>
        match eqF P xs ys fs.toList with
        | some b =>
          match op with
          | .eql => some (some (structOk P T = true), .bool b)
          | .neq => some (some (structOk P T = true), .bool (!b))
          | _ => none
        | none => none
      | _ => none
    | _ => none
  | _ => none

theorem toList_mk (l : List UInt8) : (ByteArray.mk l.toArray).toList = l := by
  rw [ByteArray.toList_eq]

end Go.Ab
