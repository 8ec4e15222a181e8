/-
  What an operation needs and leaves, on abstract states; contracts of functions.
  No condition: definitions and lemmas over any program.
-/
import Derived.Test.YtcdlapjpnenkdaaGreatAb6
namespace Go.Ab
open Go.RowKit

/-! Contracts: on values that are only read, the function gives r, with the new objects os. With 'sh' the result may share what was read. -/
def resCtx (R : Nat → Prop) (sh : Bool) (w w' : World) (hdr : Nat → Value) (os : List AObj) : Ctx :=
  ⟨w', fun b => ((sh = true ∧ R b) ∨ w.heap.size ≤ b) ∧ b < w'.heap.size ∧ ∀ id o, os[id]? = some o → (hdr id).blk ≠ some b, hdr, fun id => os[id]?⟩

structure ResR (R : Nat → Prop) (sh : Bool) (w w' : World) (hdr : Nat → Value) (r : AV) (os : List AObj) (v : Value) : Prop where
  val : VR (resCtx R sh w w' hdr os) r v
  slc : ∀ o ∈ os, o.box = false
  objs : ∀ (id : Nat) o, os[id]? = some o → ObjR w.heap.size (resCtx R sh w w' hdr os) o (hdr id)
  dis : ∀ (i j : Nat) o o' b, os[i]? = some o → os[j]? = some o' → (hdr i).blk = some b → (hdr j).blk = some b → i = j

/-- A call gives a value: by the function's code, or by what stands in for it. -/
def Ans (P : Program) (f : Nat) (args : Array Value) (w : World) (R : Value → World → Prop) : Prop :=
  match (callFunc f args).run P w with
  | .ok (.value v) w' => R v w'
  | .ok (.enter f' args') w' => Calls P f' args' w' fun e w'' => ∃ v, e = .returned v ∧ R v w''
  | _ => False

theorem run_callFunc_body {P : Program} {f : Nat} {fn : Func} {c : Code} (hf : P.funcs[f]? = some fn) (hname : (fn.name == "runtime.NumGoroutine") = false) (hb : fn.body = some c) (args : Array Value) (w : World) :
    (callFunc f args).run P w = .ok (.enter f args) w := by
  have hn2 : ¬ fn.name = "runtime.NumGoroutine" := by simpa using hname
  simp [callFunc, hf, hn2, hb]

theorem Ans_body {P : Program} {f : Nat} {fn : Func} {c : Code} {args : Array Value} {w : World} {R : Value → World → Prop} (hf : P.funcs[f]? = some fn) (hname : (fn.name == "runtime.NumGoroutine") = false) (hb : fn.body = some c) :
    Ans P f args w R ↔ Calls P f args w fun e w'' => ∃ v, e = .returned v ∧ R v w'' := by
  unfold Ans
  rw [run_callFunc_body hf hname hb]

theorem Ans.upon {P : Program} {f : Nat} {args : Array Value} {w : World} {R : Value → World → Prop} {o : Oper} {a : Act} {next : Act → World → Prop} {Q : Exit → Act → World → Prop} (h : Ans P f args w R)
    (hn : ∀ v w', R v w' → next (a.put o.dst v) w') : o.upon P a next Q ((callFunc f args).run P w) := by
  unfold Ans at h
  split at h
  · rename_i e; rw [e]; exact hn _ _ h
  · rename_i e
    rw [e]
    refine h.mono fun e w' hq => ?_
    obtain ⟨v, rfl, hq⟩ := hq
    exact hn _ _ hq
  · exact h.elim

structure PC (P : Program) (sh : Bool) (f : Nat) (args : List AV) (r : AV) (os : List AObj) : Prop where
  run : ∀ (w : World) (R : Nat → Prop) (vals : List Value), (∀ b, R b → b < w.heap.size) → LR w R args vals →
    Ans P f vals.toArray w fun v w' => ∃ hdr, Below w.heap.size w w' ∧ ResR R sh w w' hdr r os v

/-! A value as a callee may read it. -/
def rf0 (s : St) : AV → AV
  | .own id =>
    match s.objs id with
    | some o => if o.box then .any else .sl o.elems
    | none => .any
  | .ptr _ _ _ => .any
  | .agg _ => .any
  | .tup _ => .any
  | .fn _ _ => .any
  | a => a
def rf1 (s : St) : AV → AV
  | .agg cs => .agg (cs.map (rf0 s))
  | .ptr id idx off =>
    match s.objs id with
    | some o =>
      match o.box with
      | true =>
        match s.cellsAt (.ptr id idx off) with
        | some cs => .rp (cs.map (rf0 s))
        | none => .any
      | false => .any
    | none => .any
  | a => rf0 s a
def rf (s : St) : AV → AV
  | .fn f caps => .fn f (caps.map (rf1 s))
  | a => rf1 s a

/-- Every object that the value names is there. -/
def known0 (s : St) : AV → Bool
  | .own id => (s.objs id).isSome
  | .ptr id _ _ => (s.objs id).isSome
  | _ => true
def known1 (s : St) : AV → Bool
  | .agg cs => cs.all (known0 s)
  | .ptr id idx off =>
    match s.objs id with
    | some o =>
      match o.box with
      | true =>
        match s.cellsAt (.ptr id idx off) with
        | some cs => cs.all (known0 s)
        | none => false
      | false => false
    | none => false
  | a => known0 s a
def known (s : St) : AV → Bool
  | .fn _ caps => caps.all (known1 s)
  | a => known1 s a

/-- A value of which a callee that shares may keep a part. -/
def AV.ro1 : AV → Bool
  | .int _ _ | .bool _ | .str _ | .nil | .sl _ | .rp _ => true
  | _ => false
def AV.ro2 : AV → Bool
  | .agg cs => cs.all AV.ro1
  | a => a.ro1

/-! The names of a result's objects, moved. -/
def AV.shift (d : Nat) (a : AV) : AV := a.sub (fun id => .own (d + id)) (fun id x y => .ptr (d + id) x y)

def addObjs (d : Nat) (os : List AObj) (objs : Nat → Option AObj) : Nat → Option AObj :=
  match os with
  | [] => objs
  | o :: os => addObjs (d + 1) os (fun i => if i = d then some o else objs i)

def freeFrom (d : Nat) (os : List AObj) (objs : Nat → Option AObj) : Bool :=
  match os with
  | [] => true
  | _ :: os =>
    match objs d with
    | none => freeFrom (d + 1) os objs
    | some _ => false

/-! Objects given up before their headers are stored in a slice's object. -/
def frzIds (s : St) : List Nat → St
  | [] => s
  | id :: ids =>
    match s.objs id with
    | some o => if o.box then frzIds s ids else frzIds (turned s (frzO id o.elems) (killP id) id none) ids
    | none => frzIds s ids
def ownsOf : List AV → List Nat
  | [] => []
  | .own id :: as => id :: ownsOf as
  | _ :: as => ownsOf as
def frzL (s : St) (cs : List AV) : St × List AV := (frzIds s (ownsOf cs), cs.map (rf0 s))

/-! Steps. -/
@[irreducible] def splitB (b : Bool) (A B : Prop) : Prop := (b = true → A) ∧ (b = false → B)
theorem splitB_intro {b : Bool} {A B : Prop} (h : b = true → A) (h' : b = false → B) : splitB b A B := by unfold splitB; exact ⟨h, h'⟩
theorem splitB_true {A B : Prop} (h : A) : splitB true A B := splitB_intro (fun _ => h) (fun e => by cases e)
theorem splitB_false {A B : Prop} (h : B) : splitB false A B := splitB_intro (fun e => by cases e) (fun _ => h)
theorem splitB_elim {b : Bool} {A B : Prop} (h : splitB b A B) : (b = true → A) ∧ (b = false → B) := by unfold splitB at h; exact h

def force0 (v : AV) (K : AV → Prop) : Prop :=
  match v with
  | .any => K .any
  | .int k n => K (.int k n)
  | .bool b => K (.bool b)
  | .str l => K (.str l)
  | .nil => K .nil
  | .sl xs => K (.sl xs)
  | .rp cs => K (.rp cs)
  | .own id => K (.own id)
  | .ptr id x y => K (.ptr id x y)
  | .agg cs => K (.agg cs)
  | .tup cs => K (.tup cs)
  | .fn f cs => K (.fn f cs)
theorem force0_eq (v : AV) (K : AV → Prop) : force0 v K = K v := by cases v <;> rfl
def forceL0 (l : List AV) : (List AV → Prop) → Prop :=
  List.rec (motive := fun _ => (List AV → Prop) → Prop) (fun K => K []) (fun a _ ih K => force0 a fun a => ih fun as => K (a :: as)) l
theorem forceL0_eq : ∀ (l : List AV) (K : List AV → Prop), forceL0 l K = K l
  | [], _ => rfl
  | a :: as, K => by
    show force0 a (fun a => forceL0 as fun as => K (a :: as)) = _
    rw [force0_eq, forceL0_eq as]
def force1 (v : AV) (K : AV → Prop) : Prop :=
  match v with
  | .agg cs => forceL0 cs fun cs => K (.agg cs)
  | v => force0 v K
theorem force1_eq (v : AV) (K : AV → Prop) : force1 v K = K v := by cases v <;> first | rfl | exact forceL0_eq _ _
def forceL1 (l : List AV) : (List AV → Prop) → Prop :=
  List.rec (motive := fun _ => (List AV → Prop) → Prop) (fun K => K []) (fun a _ ih K => force1 a fun a => ih fun as => K (a :: as)) l
theorem forceL1_eq : ∀ (l : List AV) (K : List AV → Prop), forceL1 l K = K l
  | [], _ => rfl
  | a :: as, K => by
    show force1 a (fun a => forceL1 as fun as => K (a :: as)) = _
    rw [force1_eq, forceL1_eq as]
def force (v : AV) (K : AV → Prop) : Prop :=
  match v with
  | .tup cs => forceL1 cs fun cs => K (.tup cs)
  | v => force1 v K
theorem force_eq (v : AV) (K : AV → Prop) : force v K = K v := by
  cases v <;> first | rfl | exact forceL1_eq _ _ | exact forceL0_eq _ _
def forceLL (l : List (List AV)) : (List (List AV) → Prop) → Prop :=
  List.rec (motive := fun _ => (List (List AV) → Prop) → Prop) (fun K => K []) (fun r _ ih K => ih fun rs => K (r :: rs)) l
theorem forceLL_eq : ∀ (l : List (List AV)) (K : List (List AV) → Prop), forceLL l K = K l
  | [], _ => rfl
  | a :: as, K => by
    show forceLL as (fun rs => K (a :: rs)) = _
    rw [forceLL_eq as]

def forceS (s : St) (K : St → Prop) : Prop :=
  match s with
  | ⟨e, z, o, n, g⟩ => K ⟨e, z, o, n, g⟩
theorem forceS_eq (s : St) (K : St → Prop) : forceS s K = K s := by cases s; rfl

def upd (d : Nat) (v : AV) (e : Nat → AV) : Nat → AV := fun t => match Nat.beq t d with | true => v | false => e t
theorem upd_eq (d : Nat) (v : AV) (e : Nat → AV) : upd d v e = fun t => if t = d then v else e t := by
  funext t
  unfold upd
  cases h : Nat.beq t d with
  | true => rw [if_pos (Nat.eq_of_beq_eq_true h)]
  | false => rw [if_neg (Nat.ne_of_beq_eq_false h)]
def putS (s : St) (d : Option Nat) (v : AV) (K : St → Prop) : Prop :=
  match s with
  | ⟨e, z, o, n, g⟩ =>
    match d with
    | none => K ⟨e, z, o, n, g⟩
    | some d => K ⟨upd d v e, z, o, n, g⟩
theorem putS_eq (s : St) (d : Option Nat) (v : AV) (K : St → Prop) : putS s d v K = K (s.put d v) := by
  cases s
  cases d with
  | none => rfl
  | some d => simp only [putS, upd_eq]; rfl
def St.fitsZ (s : St) (d : Option Nat) : Bool :=
  match d with
  | none => true
  | some d => Nat.blt d s.sz
theorem fitsZ_eq (s : St) (d : Option Nat) : s.fitsZ d = s.fits d := by
  cases d with
  | none => rfl
  | some d =>
    simp only [St.fitsZ, St.fits, Nat.blt]
    cases h : Nat.ble (d + 1) s.sz with
    | true => have := Nat.le_of_ble_eq_true h; simp; omega
    | false =>
      have : ¬ (d + 1 ≤ s.sz) := fun hle => by rw [Nat.ble_eq_true_of_le hle] at h; cases h
      simp; omega
def St.putK (s : St) (d : Option Nat) (v : AV) (K : St → Prop) : Prop :=
  match s.fitsZ d with
  | true => force v fun v => putS s d v K
  | false => False
theorem putK_elim {s : St} {d : Option Nat} {v : AV} {K : St → Prop} (h : s.putK d v K) : s.fits d = true ∧ K (s.put d v) := by
  unfold St.putK at h
  split at h
  · rename_i hf
    rw [force_eq, putS_eq] at h
    exact ⟨by rw [← fitsZ_eq]; exact hf, h⟩
  · exact h.elim

/-- A truth value gets a name. -/
def Named (b x : Bool) : Prop := b = x
@[irreducible] def nameB (b : Bool) (K : Bool → Prop) : Prop := ∀ x, Named b x → K x
theorem nameB_intro {b : Bool} {K : Bool → Prop} (h : ∀ x, Named b x → K x) : nameB b K := by unfold nameB; exact h
theorem nameB_true {K : Bool → Prop} (h : K true) : nameB true K := nameB_intro fun x hx => by cases hx; exact h
theorem nameB_false {K : Bool → Prop} (h : K false) : nameB false K := nameB_intro fun x hx => by cases hx; exact h
theorem nameB_elim {b : Bool} {K : Bool → Prop} (h : nameB b K) : K b := by unfold nameB at h; exact h b rfl

def nameV (v : AV) (K : AV → Prop) : Prop :=
  match v with
  | .bool b => nameB b fun x => K (.bool x)
  | .tup l =>
    match l with
    | [x, y] =>
      match x with
      | .bool a =>
        match y with
        | .bool b => nameB a fun a' => nameB b fun b' => K (.tup [.bool a', .bool b'])
        | y => nameB a fun a' => K (.tup [.bool a', y])
      | x =>
        match y with
        | .bool b => nameB b fun b' => K (.tup [x, .bool b'])
        | y => K (.tup [x, y])
    | l => K (.tup l)
  | v => K v
theorem nameV_elim {v : AV} {K : AV → Prop} (h : nameV v K) : K v := by
  unfold nameV at h
  split at h
  · exact nameB_elim h
  · split at h
    · split at h
      · split at h
        · exact nameB_elim (nameB_elim h)
        · exact nameB_elim h
      · split at h
        · exact nameB_elim h
        · exact h
    · exact h
  · exact h

def St.putN (s : St) (d : Option Nat) (v : AV) (K : St → Prop) : Prop := nameV v fun v => s.putK d v K
theorem putN_elim {s : St} {d : Option Nat} {v : AV} {K : St → Prop} (h : s.putN d v K) : s.putK d v K := nameV_elim (K := fun v => s.putK d v K) h

def addBox (s : St) (id ty : Nat) (cs : List AV) : St :=
  match s with
  | ⟨e, z, o, n, g⟩ => ⟨e, z, fun i => if i = id then some ⟨true, ty, cs.length, [cs]⟩ else o i, n, g⟩
def addSlc (s : St) (id ty esz : Nat) (es : List (List AV)) : St :=
  match s with
  | ⟨e, z, o, n, g⟩ => ⟨e, z, fun i => if i = id then some ⟨false, ty, esz, es⟩ else o i, n, g⟩
/-- An object put in the place of another. -/
def setObj (s : St) (id : Nat) (ob : AObj) : St :=
  match s with
  | ⟨e, z, o, n, g⟩ => ⟨e, z, fun i => if i = id then some ob else o i, n, g⟩

def storeK (s : St) (id : Nat) (ob : AObj) (idx : Nat) (e' : List AV) (K : St → Prop) : Prop :=
  match ob with
  | ⟨b, ty, esz, es⟩ => forceL0 e' fun e' => forceLL (es.set idx e') fun es' => forceS (setObj s id ⟨b, ty, esz, es'⟩) K
theorem storeK_eq (s : St) (id : Nat) (ob : AObj) (idx : Nat) (e' : List AV) (K : St → Prop) : storeK s id ob idx e' K = K (setObj s id { ob with elems := ob.elems.set idx e' }) := by
  cases ob
  simp only [storeK, forceL0_eq, forceLL_eq, forceS_eq]
def boxK (s : St) (nid T : Nat) (cs : List AV) (K : St → Prop) : Prop := forceL0 cs fun cs => forceS (addBox s nid T cs) K
theorem boxK_eq (s : St) (nid T : Nat) (cs : List AV) (K : St → Prop) : boxK s nid T cs K = K (addBox s nid T cs) := by
  simp only [boxK, forceL0_eq, forceS_eq]

/-- A call by what it does to the caller's state. -/
def CallS (P : Program) (f : Nat) (args : List AV) (s : St) (d : Option Nat) (K : St → Prop) : Prop :=
  ∀ (F : Nat → Prop) (w0 : World) (gv : List Value) (a : Act) (w : World) (hdr : Nat → Value), Sim F w0 gv s a w hdr → ∀ vals : List Value, VL (s.ctx F w hdr) args vals →
    Ans P f vals.toArray w fun v w' => ∃ s', K s' ∧ SimE F w0 gv s' (a.put d v) w'

/-- A call: its contract is to be named, or it is walked. -/
@[irreducible] def CallA (P : Program) (f : Nat) (args : List AV) (s : St) (nid : Nat) (d : Option Nat) (K : St → Prop) : Prop :=
  CallS P f args s d K ∨ ∃ sh r os, PC P sh f (args.map (rf s)) r os ∧ (sh = true → args.all AV.ro2 = true) ∧ (freeFrom nid os s.objs = true ∧ os.length ≤ 16) ∧ args.all (known s) = true ∧
    St.putN { s with objs := addObjs nid os s.objs } d (r.shift nid) K

def chunk {α : Type} (size : Nat) : Nat → List α → List (List α)
  | 0, _ => []
  | n + 1, l => l.take size :: chunk size n (l.drop size)

/-- The elements of a value that is appended. -/
def elemsOf (s : St) : AV → Option (List (List AV))
  | .sl xs => some xs
  | .own id =>
    match s.objs id with
    | some o => if o.box then none else some o.elems
    | none => none
  | .nil => some []
  | _ => none

def appA (P : Program) (T : TypeId) (x y : AV) (s : St) (nid : Nat) (d : Option Nat) (K : St → Prop) : Prop :=
  match elemOf? P T with
  | some e =>
    match P.info? e with
    | some i =>
      match elemsOf s y with
      | some ys =>
        match x with
        | .own id =>
          match s.objs id with
          | some o =>
            (o.box = false ∧ o.ty = e ∧ o.esz = i.size ∧ y ≠ .own id ∧ i.zero.isSome = true ∧ (i.zero.map (·.cells.size)) = some i.size) ∧ (∀ z ∈ ys, z.length = i.size) ∧ ys.flatten.all AV.one = true ∧
            (o.elems.length + ys.length ≤ 70368744177664 ∧ (o.elems.length + ys.length) * i.bytes ≤ 140737488355328) ∧
            forceS (turned s (killO id) (killP id) id (some { o with elems := o.elems ++ ys })) fun s' => s'.putK d (.own id) K
          | none => False
        | .nil =>
          match s.objs nid with
          | none =>
            (0 < i.size ∧ i.zero.isSome = true ∧ (i.zero.map (·.cells.size)) = some i.size) ∧ (∀ z ∈ ys, z.length = i.size) ∧ ys.flatten.all AV.one = true ∧
            (ys.length ≤ 70368744177664 ∧ ys.length * i.bytes ≤ 140737488355328) ∧
            forceS (addSlc s nid e i.size ys) fun s' => s'.putK d (.own nid) K
          | some _ => False
        | _ => False
      | none => False
    | none => False
  | none => False

def strOf (x : AV) : Option (List UInt8) := match x with | .str l => some l | _ => none

def sliceA (P : Program) (T : TypeId) (x : AV) (lo hi : Int) (s : St) (d : Option Nat) (K : St → Prop) : Prop :=
  match x with
  | .str l =>
    match P.underlying T with
    | some .string => (0 ≤ lo ∧ lo ≤ hi ∧ hi ≤ l.length) ∧ s.putK d (.str ((l.take hi.toNat).drop lo.toNat)) K
    | _ => False
  | .sl xs =>
    match elemOf? P T with
    | some e =>
      match sizeOf? P e with
      | some esz => (0 ≤ lo ∧ lo ≤ hi ∧ hi ≤ xs.length) ∧ (∀ z ∈ xs, z.length = esz) ∧ s.putK d (.sl ((xs.take hi.toNat).drop lo.toNat)) K
      | none => False
    | none => False
  | _ => False

def lenA (s : St) : AV → Option Nat
  | .str l => some l.length
  | .sl xs => some xs.length
  | .nil => some 0
  | .own id =>
    match s.objs id with
    | some o => if o.box then none else some o.elems.length
    | none => none
  | _ => none

def intA : AV → Option (IntKind × Int)
  | .int k n => some (k, n)
  | _ => none

def AV.isStr : AV → Bool
  | .str _ => true
  | _ => false
def lenT (P : Program) (T : TypeId) (x : AV) : Bool :=
  match P.underlying T with
  | some .string => x.isStr
  | some (.slice _) => !x.isStr
  | _ => false

/-- A load off an element that is named only now. -/
@[irreducible] def LoadK (P : Program) (T : TypeId) (cs : List AV) (K : AV → Prop) : Prop := ∃ v, takeA P T cs = some v ∧ cs.all AV.plain = true ∧ K v

/-- A slice is compared with nil. -/
def nilC (op : BinOp) (y : Operand) : Bool :=
  match op with
  | .eql =>
    match y with
    | .const v =>
      match v with
      | .slice a n c =>
        match a with
        | none => n == 0 && c == 0
        | some _ => false
      | _ => false
    | _ => false
  | _ => false
theorem nilC_eq {op : BinOp} {y : Operand} (h : nilC op y = true) : op = .eql ∧ y = .const (.slice none 0 0) := by
  unfold nilC at h
  split at h
  · split at h
    · split at h
      · split at h
        · simp at h
          obtain ⟨rfl, rfl⟩ := h
          exact ⟨rfl, rfl⟩
        · cases h
      · cases h
    · cases h
  · cases h
@[irreducible] def nilB (n : Nat) (K : Bool → Prop) : Prop := ∀ b : Bool, (b = true → n = 0) → K b
theorem nilB_intro {n : Nat} {K : Bool → Prop} (h : n = 0 → K true) (h' : K false) : nilB n K := by
  unfold nilB
  intro b hb
  cases b with
  | true => exact h (hb rfl)
  | false => exact h'
theorem nilB_elim {n : Nat} {K : Bool → Prop} (h : nilB n K) (b : Bool) (hb : b = true → n = 0) : K b := by
  unfold nilB at h
  exact h b hb

/-- What operation o needs, and what it leaves. -/
def opA (P : Program) (o : Oper) (nid : Nat) (s : St) (K : St → Prop) : Prop :=
  match o.op with
  | .move x => s.putK o.dst (s.val x) K
  | .assign x => s.putK o.dst (s.val x) K
  | .pick c a b =>
    match s.val c with
    | .bool t => splitB t (s.putK o.dst (s.val a) K) (s.putK o.dst (s.val b) K)
    | _ => False
  | .alloc T =>
    match zeroA P T with
    | some cs =>
      match s.objs nid with
      | none => (0 < cs.length ∧ cs.all AV.one = true) ∧ boxK s nid T cs fun s' => s'.putK o.dst (.ptr nid 0 0) K
      | some _ => False
    | none => False
  | .box T x =>
    match (s.val x).cells? with
    | some cs =>
      match s.objs nid with
      | none => 0 < cs.length ∧ boxK s nid T cs fun s' => s'.putK o.dst (.ptr nid 0 0) K
      | some _ => False
    | none => False
  | .build T parts =>
    match buildA P T (parts.toList.map fun p => (p.1, s.val p.2)) with
    | some cs => s.putK o.dst (.agg cs) K
    | none => False
  | .load T x =>
    match s.val x with
    | .ptr id idx off =>
      match s.objs id with
      | some ob =>
        match ob.box with
        | true =>
          match ob.elems[idx]? with
          | some e =>
            match takeA P T (e.drop off) with
            | some v => s.putN o.dst v K
            | none => False
          | none => False
        | false => ∃ e, ob.elems[idx]? = some e ∧ LoadK P T (e.drop off) fun v => s.putN o.dst v K
      | none => False
    | .rp cs =>
      match takeA P T cs with
      | some v => s.putN o.dst v K
      | none => False
    | _ => False
  | .fieldAddr T x f =>
    match fieldOff P T f with
    | some (off, _) =>
      match moveP (s.val x) off with
      | some p => s.putK o.dst p K
      | none => False
    | none => False
  | .field T x f =>
    match fieldOff P T f with
    | some (off, t) =>
      match s.val x with
      | .agg cs =>
        match takeA P t (cs.drop off) with
        | some v => s.putN o.dst v K
        | none => False
      | _ => False
    | none => False
  | .indexAddr T x i =>
    match elemOf? P T with
    | some e =>
      match sizeOf? P e with
      | some esz =>
        match intA (s.val i) with
        | some (_, n) =>
          match s.val x with
          | .own id =>
            match s.objs id with
            | some ob =>
              match ob.box with
              | true => False
              | false => ob.esz = esz ∧ (0 ≤ n ∧ n < ob.elems.length) ∧ s.putK o.dst (.ptr id n.toNat 0) K
            | none => False
          | .sl xs => 0 ≤ n ∧ ∃ y, xs[n.toNat]? = some y ∧ y.length = esz ∧ s.putK o.dst (.rp y) K
          | _ => False
        | none => False
      | none => False
    | none => False
  | .extract x i =>
    match s.val x with
    | .tup vs =>
      match vs[i]? with
      | some v => s.putK o.dst v K
      | none => False
    | _ => False
  | .binOp op T x y _ =>
    match nilC op y with
    | true =>
      match elemOf? P T with
      | some _ =>
        match elemsOf s (s.val x) with
        | some l => nilB l.length fun b => s.putK o.dst (.bool b) K
        | none => False
      | none => False
    | false =>
    match binA P op T (s.val x) (s.val y) with
    | some (none, v) => s.putN o.dst v K
    | some (some c, v) => c ∧ s.putN o.dst v K
    | none => False
  | .unOp op _ x =>
    match op with
    | .not =>
      match s.val x with
      | .bool b => s.putN o.dst (.bool (!b)) K
      | _ => False
    | .neg =>
      match s.val x with
      | .int k n => s.putK o.dst (.int k (k.wrap (0 - n))) K
      | _ => False
    | _ => False
  | .nilCheck x =>
    match s.val x with
    | .ptr id a b => s.putK o.dst (.ptr id a b) K
    | .rp cs => s.putK o.dst (.rp cs) K
    | .fn f cs => s.putK o.dst (.fn f cs) K
    | _ => False
  | .makeFunc fn first captured =>
    match fn with
    | .func f =>
      match first.toList with
      | [] => s.putK o.dst (.fn f (captured.toList.map s.val)) K
      | _ => False
    | _ => False
  | .call c =>
    match c.callee with
    | .value x =>
      match s.val x with
      | .fn f caps => CallA P f (c.args.toList.map s.val ++ caps) s nid o.dst K
      | _ => False
    | .builtin .len =>
      match c.args.toList with
      | [x] =>
        match c.argTypes.toList with
        | [T] =>
          match lenT P T (s.val x) with
          | true =>
            match lenA s (s.val x) with
            | some n => s.putK o.dst (.int .i64 (n : Int)) K
            | none => False
          | false => False
        | _ => False
      | _ => False
    | .builtin .max =>
      match c.args.toList with
      | [x, y] =>
        match s.val x with
        | .int k a =>
          match s.val y with
          | .int _ b => s.putK o.dst (.int k (if b > a then b else a)) K
          | _ => False
        | _ => False
      | [x, y, z] =>
        match s.val x with
        | .int k a =>
          match s.val y with
          | .int _ b =>
            match s.val z with
            | .int _ c => s.putK o.dst (.int k (if c > (if b > a then b else a) then c else (if b > a then b else a))) K
            | _ => False
          | _ => False
        | _ => False
      | _ => False
    | .builtin .min =>
      match c.args.toList with
      | [x, y] =>
        match s.val x with
        | .int k a =>
          match s.val y with
          | .int _ b => s.putK o.dst (.int k (if b < a then b else a)) K
          | _ => False
        | _ => False
      | _ => False
    | .builtin .append =>
      match c.args.toList with
      | [x, y] =>
        match c.argTypes.toList with
        | [T, T'] => T' = T ∧ appA P T (s.val x) (s.val y) s nid o.dst K
        | _ => False
      | _ => False
    | _ => False
  | .store T x y =>
    match s.val x with
    | .ptr id idx off =>
      match s.objs id with
      | some ob =>
        match o.dst with
        | none =>
          match (s.val y).cells? with
          | some cs0 =>
            match sizeOf? P T with
            | some n =>
              if ob.box then
                match ob.elems[idx]? with
                | some e => (cs0.length = n ∧ off + n ≤ ob.esz) ∧ storeK s id ob idx (splice e off cs0) K
                | none => False
              else
                match (frzL s cs0).1.objs id with
                | some ob' => ∃ e, ob'.elems[idx]? = some e ∧ (ob'.box = false ∧ cs0.length = n ∧ off + n ≤ ob'.esz ∧ (frzL s cs0).2.all AV.plain = true) ∧ forceS (setObj (frzL s cs0).1 id { ob' with elems := ob'.elems.set idx (splice e off (frzL s cs0).2) }) K
                | none => False
            | none => False
          | none => False
        | some _ => False
      | none => False
    | _ => False
  | .buildSlice T n parts =>
    match elemOf? P T with
    | some e =>
      match P.info? e with
      | some i =>
        match zeroA P e with
        | some z =>
          match n with
          | 0 => (0 < i.size ∧ parts.toList = []) ∧ s.putK o.dst .nil K
          | n' + 1 =>
          match fillA (fun j => some (j * i.size, i.size)) (List.replicate (n' + 1) z).flatten (parts.toList.map fun p => (p.1, s.val p.2)) with
          | some r =>
            match s.objs nid with
            | none =>
              (0 < i.size ∧ z.length = i.size ∧ n' + 1 ≤ 100000 ∧ (n' + 1) * i.size ≤ 16777216 ∧ (frzL s r).2.all AV.plain = true ∧ (frzL s r).1.objs nid = none) ∧
              forceS (addSlc (frzL s r).1 nid e i.size (chunk i.size (n' + 1) (frzL s r).2)) fun s' => s'.putK o.dst (.own nid) K
            | some _ => False
          | none => False
        | none => False
      | none => False
    | none => False
  | .makeSlice T l c =>
    match elemOf? P T with
    | some e =>
      match P.info? e with
      | some i =>
        match zeroA P e with
        | some z =>
          match intA (s.val l) with
          | some (_, n) =>
            match intA (s.val c) with
            | some (_, m) =>
              match s.objs nid with
              | none =>
                (0 < i.size ∧ z.length = i.size ∧ z.all AV.plain = true) ∧ (0 ≤ n ∧ m = n ∧ n ≤ 70368744177664 ∧ (i.bytes : Int) * n ≤ 281474976710656) ∧
                forceS (addSlc s nid e i.size (List.replicate n.toNat z)) fun s' => s'.putK o.dst (.own nid) K
              | some _ => False
            | none => False
          | none => False
        | none => False
      | none => False
    | none => False
  | .slice T x lo hi mx =>
    match mx with
    | none =>
      match lo with
      | none =>
        match hi with
        | none => False
        | some h =>
          match intA (s.val h) with
          | some (_, n) => sliceA P T (s.val x) 0 n s o.dst K
          | none => False
      | some l =>
        match intA (s.val l) with
        | some (_, m) =>
          match hi with
          | none =>
            match lenA s (s.val x) with
            | some n => sliceA P T (s.val x) m n s o.dst K
            | none => False
          | some h =>
            match intA (s.val h) with
            | some (_, n) => sliceA P T (s.val x) m n s o.dst K
            | none => False
        | none => False
    | some m3 =>
      match lo with
      | some l =>
        match hi with
        | some h =>
          match intA (s.val l) with
          | some (_, l0) =>
            match intA (s.val h) with
            | some (_, h0) =>
              match intA (s.val m3) with
              | some (_, m0) =>
                match elemOf? P T with
                | some e =>
                  match sizeOf? P e with
                  | some _ =>
                    match lenA s (s.val x) with
                    | some _ => (l0 = 0 ∧ h0 = 0 ∧ m0 = 0 ∧ (s.val x).isStr = false) ∧ s.putK o.dst .nil K
                    | none => False
                  | none => False
                | none => False
              | none => False
            | none => False
          | none => False
        | none => False
      | none => False
  | .index T x i =>
    match P.underlying T with
    | some .string =>
      match s.val x with
      | .str l =>
        match intA (s.val i) with
        | some (_, n) => (0 ≤ n ∧ n < l.length) ∧ s.putK o.dst (.int .u8 ((l.getD n.toNat 0).toNat : Int)) K
        | none => False
      | _ => False
    | _ => False
  | .convert S T x =>
    match P.underlying S with
    | some dS =>
      match P.underlying T with
      | some (.int k) =>
        match s.val x with
        | .int _ n => s.putK o.dst (.int k (k.wrap n)) K
        | _ => False
      | some .string =>
        match s.val x with
        | .str l => s.putK o.dst (.str l) K
        | y =>
          match dS with
          | .slice e =>
            match P.underlying e with
            | some (.int .u8) =>
              match elemsOf s y with
              | some xs => ∃ l : List UInt8, xs = l.map (fun b => [.int .u8 (b.toNat : Int)]) ∧ s.putK o.dst (.str l) K
              | none => False
            | _ => False
          | _ => False
      | _ => False
    | none => False
  | _ => False

end Go.Ab
