/-
  Loops with named invariants, elements of lists, ends with objects: small steps for walks by evaluation.
  No condition: definitions and lemmas over any program.
-/
import Derived.Test.YtcdlapjpnenkdaaGreatAb16
namespace Go.Ab

/-- Slots that a loop keeps, with what stands in them. -/
def keepE (e : Nat → AV) (ks : List Nat) : (List (Nat × AV) → Prop) → Prop :=
  List.rec (motive := fun _ => (List (Nat × AV) → Prop) → Prop) (fun K => K []) (fun k _ ih K => force (e k) fun v => ih fun l => K ((k, v) :: l)) ks
theorem keepE_elim {s : St} : ∀ {ks : List Nat} {K : List (Nat × AV) → Prop}, keepE s.env ks K → ∃ el, EnvAll s el ∧ K el
  | [], K, h => ⟨[], trivial, h⟩
  | k :: ks, K, h => by
    have h' : force (s.env k) fun v => keepE s.env ks fun l => K ((k, v) :: l) := h
    rw [force_eq] at h'
    obtain ⟨el, h1, h2⟩ := keepE_elim h'
    exact ⟨(k, s.env k) :: el, ⟨rfl, h1⟩, h2⟩

def keepO (o : Nat → Option AObj) (ids : List Nat) : (List (Nat × AObj) → Prop) → Prop :=
  List.rec (motive := fun _ => (List (Nat × AObj) → Prop) → Prop) (fun K => K []) (fun k _ ih K =>
    match o k with
    | some ob =>
      match ob with
      | ⟨b, ty, esz, es⟩ => ih fun l => K ((k, ⟨b, ty, esz, es⟩) :: l)
    | none => ih K) ids
theorem keepO_elim {s : St} : ∀ {ids : List Nat} {K : List (Nat × AObj) → Prop}, keepO s.objs ids K → ∃ ol, ObjAll s ol ∧ K ol
  | [], K, h => ⟨[], trivial, h⟩
  | k :: ks, K, h => by
    have h' : (match s.objs k with
    | some ob =>
      match ob with
      | ⟨b, ty, esz, es⟩ => keepO s.objs ks fun l => K ((k, ⟨b, ty, esz, es⟩) :: l)
    | none => keepO s.objs ks K) := h
    cases ho : s.objs k with
    | none =>
      simp only [ho] at h'
      exact keepO_elim h'
    | some ob =>
      simp only [ho] at h'
      obtain ⟨ol, h1, h2⟩ := keepO_elim h'
      exact ⟨(k, ob) :: ol, ⟨ho, h1⟩, h2⟩

theorem EnvAll.append {s : St} : ∀ {l l' : List (Nat × AV)}, EnvAll s l → EnvAll s l' → EnvAll s (l ++ l')
  | [], _, _, h' => h'
  | (_, _) :: _, _, h, h' => ⟨h.1, EnvAll.append h.2 h'⟩
theorem ObjAll.append {s : St} : ∀ {l l' : List (Nat × AObj)}, ObjAll s l → ObjAll s l' → ObjAll s (l ++ l')
  | [], _, _, h' => h'
  | (_, _) :: _, _, h, h' => ⟨h.1, ObjAll.append h.2 h'⟩

/-- The state at the head of a loop. -/
def headS {J : Type} (mods : J → List (Nat × AV)) (omods : J → List (Nat × AObj)) (el : List (Nat × AV)) (ol : List (Nat × AObj)) (z n : Nat) (g : List AV) (j : J) : St :=
  ⟨envOf (mods j ++ el), z, objsOf (omods j ++ ol), n, g⟩
def headOk {J : Type} (mods : J → List (Nat × AV)) (omods : J → List (Nat × AObj)) (el : List (Nat × AV)) (ol : List (Nat × AObj)) (g : List AV) (j : J) : Bool :=
  closedE (omods j ++ ol) (mods j ++ el) && closedO (omods j ++ ol) (omods j ++ ol) && closedL (omods j ++ ol) g

/-- A next round of a loop. -/
@[irreducible] def Again {J : Type} (p : J → Prop) (mods : J → List (Nat × AV)) (omods : J → List (Nat × AObj)) (m : J → Nat) (j : J) (el : List (Nat × AV)) (ol : List (Nat × AObj)) (z n : Nat) (g : List AV) (s : St) : Prop :=
  (∀ j, headOk mods omods el ol g j = true) → ∃ j' : {j : J // p j}, m j'.1 < m j ∧ s.le (headS mods omods el ol z n g j'.1)

theorem Again_of {J : Type} {p : J → Prop} {mods : J → List (Nat × AV)} {omods : J → List (Nat × AObj)} {m : J → Nat} {j : J} {el : List (Nat × AV)} {ol : List (Nat × AObj)} {z n : Nat} {g : List AV} {s : St} (j' : J)
    (h3 : EnvAll s (mods j')) (h4 : ObjAll s (omods j')) (h5 : EnvAll s el) (h6 : ObjAll s ol) (h7 : s.sz = z) (h8 : s.nxt = n) (h9 : s.gh = g) (h1 : p j') (h2 : m j' < m j) : Again p mods omods m j el ol z n g s := by
  subst h7 h8 h9
  unfold Again
  exact fun hc => ⟨⟨j', h1⟩, h2, St.le_list (h3.append h5) (h4.append h6) (hc j')⟩

theorem Again_le {J : Type} {p : J → Prop} {mods : J → List (Nat × AV)} {omods : J → List (Nat × AObj)} {m : J → Nat} {j : J} {el : List (Nat × AV)} {ol : List (Nat × AObj)} {z n : Nat} {g : List AV} {s s' : St} (hle : s.le s') (h : Again p mods omods m j el ol z n g s') : Again p mods omods m j el ol z n g s := by
  unfold Again at h ⊢
  intro hc
  obtain ⟨j', h1, h2⟩ := h hc
  exact ⟨j', h1, St.le_trans hle h2⟩

/-- A loop: what it changes, and what it keeps. -/
theorem Loop_at {body : (Exit → St → Prop) → St → Prop} {K : Exit → St → Prop} {e : Nat → AV} {z : Nat} {o : Nat → Option AObj} {n : Nat} {g : List AV} (ks ids : List Nat) (J : Type) (p : J → Prop) (mods : J → List (Nat × AV)) (omods : J → List (Nat × AObj)) (m : J → Nat) (j0 : J)
    (h0 : EnvAll ⟨e, z, o, n, g⟩ (mods j0)) (h1 : ObjAll ⟨e, z, o, n, g⟩ (omods j0)) (h2 : p j0)
    (h : keepE e ks fun el => keepO o ids fun ol => (∀ j, headOk mods omods el ol g j = true) ∧
      ∀ j, p j → body (fun ex s' => match ex with
        | .normal => Again p mods omods m j el ol z n g s'
        | ex => K ex s') ⟨envOf (mods j ++ el), z, objsOf (omods j ++ ol), n, g⟩) : Loop body K ⟨e, z, o, n, g⟩ := by
  obtain ⟨el, he, h⟩ := keepE_elim (s := ⟨e, z, o, n, g⟩) h
  obtain ⟨ol, ho, hcl, h⟩ := keepO_elim (s := ⟨e, z, o, n, g⟩) h
  refine Loop_intro {j : J // p j} (fun j => headS mods omods el ol z n g j.1) (fun j => m j.1) ⟨j0, h2⟩ (St.le_list (s := ⟨e, z, o, n, g⟩) (h0.append he) (h1.append ho) (hcl j0)) fun j => ?_
  have hb := h j.1 j.2
  have e0 : (fun (ex : Exit) (s' : St) => match ex with
    | .normal => ∃ j' : {j : J // p j}, m j'.1 < m j.1 ∧ s'.le (headS mods omods el ol z n g j'.1)
    | ex => K ex s') = (fun ex s' => match ex with
        | .normal => Again p mods omods m j.1 el ol z n g s'
        | ex => K ex s') := by
    funext ex s'
    cases ex
    case normal => exact propext ⟨fun h => by unfold Again; exact fun _ => h, fun h => by unfold Again at h; exact h hcl⟩
    all_goals rfl
  show body (fun (ex : Exit) (s' : St) => match ex with
    | .normal => ∃ j' : {j : J // p j}, m j'.1 < m j.1 ∧ s'.le (headS mods omods el ol z n g j'.1)
    | ex => K ex s') _
  rw [e0]
  exact hb

/-- A nil slice becomes an object with no element, ahead of a loop. -/
theorem Loop_nil {body : (Exit → St → Prop) → St → Prop} {K : Exit → St → Prop} {e : Nat → AV} {z : Nat} {o : Nat → Option AObj} {n : Nat} {g : List AV} (t nid ty esz : Nat) (ht : e t = .nil) (hid : o nid = none) (hpos : 0 < esz)
    (h : Loop body K ⟨upd t (.own nid) e, z, fun i => if i = nid then some ⟨false, ty, esz, []⟩ else o i, n, g⟩) : Loop body K ⟨e, z, o, n, g⟩ := by
  unfold Loop at h ⊢
  obtain ⟨J, I, m, j0, h0, hb⟩ := h
  refine ⟨J, I, m, j0, St.le_trans ?_ h0, hb⟩
  rw [upd_eq]
  exact St.le_promote (s := ⟨e, z, o, n, g⟩) ht hid hpos

theorem OutA_nil {P : Program} {sh : Bool} {rs : List ResultVar} {r : AV} {os : List AObj} {e : Nat → AV} {z : Nat} {o : Nat → Option AObj} {n : Nat} {g : List AV} (t nid ty esz : Nat) (ht : e t = .nil) (hid : o nid = none) (hpos : 0 < esz)
    (h : OutA P sh rs r os ⟨upd t (.own nid) e, z, fun i => if i = nid then some ⟨false, ty, esz, []⟩ else o i, n, g⟩) : OutA P sh rs r os ⟨e, z, o, n, g⟩ := by
  rw [upd_eq] at h
  exact OutA_le (St.le_promote (s := ⟨e, z, o, n, g⟩) ht hid hpos) h

/-- A truth value is split where it is made. -/
theorem nameB_dec {p : Prop} {d : Decidable p} {K : Bool → Prop} (h1 : p → K true) (h2 : ¬ p → K false) : nameB (@decide p d) K := by
  cases d with
  | isTrue hp => exact nameB_true (h1 hp)
  | isFalse hp => exact nameB_false (h2 hp)
theorem nameB_cases {b : Bool} {K : Bool → Prop} (h1 : b = true → K true) (h2 : b = false → K false) : nameB b K := by
  cases b with
  | true => exact nameB_true (h1 rfl)
  | false => exact nameB_false (h2 rfl)
theorem nameB_yes {b : Bool} {K : Bool → Prop} (h : b = true) (k : K true) : nameB b K := nameB_intro fun x hx => by cases hx; rw [h]; exact k
theorem nameB_no {b : Bool} {K : Bool → Prop} (h : b = false) (k : K false) : nameB b K := nameB_intro fun x hx => by cases hx; rw [h]; exact k
theorem nameB_dyes {p : Prop} {d : Decidable p} {K : Bool → Prop} (h : p) (k : K true) : nameB (@decide p d) K := nameB_yes (decide_eq_true h) k
theorem nameB_dno {p : Prop} {d : Decidable p} {K : Bool → Prop} (h : ¬ p) (k : K false) : nameB (@decide p d) K := nameB_no (decide_eq_false h) k
theorem nameB_self {b : Bool} {K : Bool → Prop} (h : K b) : nameB b K := nameB_intro fun _ hx => hx ▸ h
theorem i64_next {k : Nat} (h : (k : Int) < 9223372036854775807) : AV.int .i64 (IntKind.i64.wrap ((k : Int) + 1)) = AV.int .i64 ((k + 1 : Nat) : Int) := by
  rw [i64_wrap (by omega) (by omega)]
  congr 1

/-- An element of a list of encoded values. -/
theorem ix_map {α : Type} {f : α → List AV} {xs : List α} {n : Int} {Q : List AV → Prop} (h0 : 0 ≤ n) (h : n < xs.length) (hQ : ∀ x, xs[n.toNat]? = some x → Q (f x)) : 0 ≤ n ∧ ∃ y, (xs.map f)[n.toNat]? = some y ∧ Q y := by
  have hlt : n.toNat < xs.length := by omega
  refine ⟨h0, f xs[n.toNat], by simp [hlt], hQ _ (by simp [hlt])⟩

theorem ix_as {α : Type} {f : α → List AV} {xs : List α} {n : Int} {m : Nat} {Q : List AV → Prop} (e : n = (m : Int)) (h : m < xs.length) (hQ : ∀ x, xs[m]? = some x → Q (f x)) : 0 ≤ n ∧ ∃ y, (xs.map f)[n.toNat]? = some y ∧ Q y := by
  subst e
  exact ix_map (by omega) (by omega) hQ
theorem ix_map2 {p : Prop} {α : Type} {f : α → List AV} {xs : List α} {n : Int} {Q : List AV → Prop} (_ : p) (h0 : 0 ≤ n) (h : n < xs.length) (hQ : ∀ x, xs[n.toNat]? = some x → Q (f x)) : 0 ≤ n ∧ ∃ y, (xs.map f)[n.toNat]? = some y ∧ Q y := ix_map h0 h hQ

/-- What a closure carries, when it is passed on as it is. -/
structure Caps (caps : List AV) : Prop where
  same : ∀ s, caps.map (rf s) = caps
  known : ∀ s, caps.all (Ab.known s) = true
  closed : ∀ ol, closedL ol caps = true
  same1 : ∀ s, caps.map (rf1 s) = caps
  known1 : ∀ s, caps.all (Ab.known1 s) = true

/-- The place of the first element that serves, from place k on. -/
def idxF {α : Type} (q : α → Bool) (k : Nat) : List α → Int
  | [] => -1
  | x :: xs => if q x = true then (k : Int) else idxF q (k + 1) xs
theorem idxF_pos {α : Type} {q : α → Bool} : ∀ {xs : List α} {k : Nat}, 0 ≤ idxF q k xs ↔ xs.any q = true
  | [], k => by simp [idxF]
  | x :: xs, k => by
    have ih := idxF_pos (q := q) (xs := xs) (k := k + 1)
    unfold idxF
    by_cases h : q x = true
    · rw [if_pos h]; simp [h]
    · rw [if_neg h, ih]; simp [h]

/-- A place of a list that is being filled. -/
theorem ix_rep {A : List (List AV)} {m : Nat} {z : List AV} {i : Int} {Q : List AV → Prop} (hA : A.length = i.toNat) (hm : 0 < m) (hQ : Q z) : ∃ e, (A ++ List.replicate m z)[i.toNat]? = some e ∧ Q e := by
  refine ⟨z, ?_, hQ⟩
  rw [List.getElem?_append_right (by omega), hA]
  simp [hm]

theorem set_rep {α : Type} {f : α → List AV} {xs : List α} {k : Nat} {x : α} {z : List AV} (hx : xs[k]? = some x) :
    ((xs.take k).map f ++ List.replicate (xs.length - k) z).set k (f x) = (xs.take (k + 1)).map f ++ List.replicate (xs.length - (k + 1)) z := by
  obtain ⟨hlt, rfl⟩ := List.getElem?_eq_some_iff.1 hx
  rw [List.set_append_right _ _ (by simp; omega)]
  have e1 : k - ((xs.take k).map f).length = 0 := by simp; omega
  rw [e1, List.take_add_one, List.getElem?_eq_getElem hlt]
  obtain ⟨m, hm⟩ : ∃ m, xs.length - k = m + 1 := ⟨xs.length - k - 1, by omega⟩
  have e2 : xs.length - (k + 1) = m := by omega
  rw [hm, e2, List.replicate_succ]
  simp only [List.set_cons_zero, Option.toList_some, List.map_append, List.map_cons, List.map_nil, List.append_assoc, List.cons_append, List.nil_append]

theorem start_rep {α : Type} {f : α → List AV} {xs : List α} {z : List AV} : List.replicate ((xs.map f).length : Int).toNat z = (xs.take 0).map f ++ List.replicate (xs.length - 0) z := by simp

theorem bytes_ok {b : Nat} {n : Int} (hb : b ≤ 1048576) (h0 : 0 ≤ n) (hn : n ≤ 1048576) : (b : Int) * n ≤ 281474976710656 := by
  have h1 : (b : Int) * n ≤ 1048576 * n := Int.mul_le_mul_of_nonneg_right (by omega) h0
  omega
theorem bytes_okN {b n : Nat} (hb : b ≤ 64) (hn : n ≤ 1048576) : n * b ≤ 140737488355328 := by
  have h1 : n * b ≤ n * 64 := Nat.mul_le_mul_left _ hb
  omega

theorem full_rep {α : Type} {f : α → List AV} {xs : List α} {k : Nat} {z : List AV} (h : xs.length ≤ k) : (xs.take k).map f ++ List.replicate (xs.length - k) z = xs.map f := by
  rw [List.take_of_length_le h, show xs.length - k = 0 by omega]
  simp

theorem flat_map {α : Type} {f : α → List AV} (h : ∀ x, (f x).all AV.flat = true) : ∀ (xs : List α), (xs.map f).flatten.all AV.flat = true
  | [] => rfl
  | x :: xs => by
    simp only [List.map_cons, List.flatten_cons, List.all_append, Bool.and_eq_true]
    exact ⟨h x, flat_map h xs⟩

theorem flat_one {ty esz : Nat} {es : List (List AV)} (h : es.flatten.all AV.flat = true) : ∀ o ∈ [AObj.mk false ty esz es], o.elems.flatten.all AV.flat = true := by
  intro o ho
  simp at ho
  subst ho
  exact h

theorem take_all_eq {α : Type} {xs ys : List α} {k : Nat} (h : xs.take k = ys.take k) (h1 : xs.length ≤ k) (h2 : ys.length ≤ k) : xs = ys := by
  rw [List.take_of_length_le h1, List.take_of_length_le h2] at h
  exact h

theorem take_next {α : Type} {xs ys : List α} {k : Nat} {x y : α} (h : xs.take k = ys.take k) (hx : xs[k]? = some x) (hy : ys[k]? = some y) (e : x = y) : xs.take (k + 1) = ys.take (k + 1) := by
  rw [List.take_add_one, List.take_add_one, h, hx, hy, e]

theorem get_ne {α : Type} {xs ys : List α} {k : Nat} {x y : α} (hx : xs[k]? = some x) (hy : ys[k]? = some y) (e : ¬ x = y) : ¬ xs = ys := by
  rintro rfl
  rw [hx] at hy
  cases hy
  exact e rfl
theorem len_ne {α : Type} {xs ys : List α} (h : ¬ (xs.length : Int) = ys.length) : ¬ xs = ys := by
  rintro rfl
  exact h rfl
theorem bool_no {p : Prop} [Decidable p] (h : ¬ p) : AV.bool false = AV.bool (decide p) := by rw [decide_eq_false h]
theorem bool_yes {p : Prop} [Decidable p] (h : p) : AV.bool true = AV.bool (decide p) := by rw [decide_eq_true h]

theorem drop_get {α : Type} {xs : List α} {k : Nat} {x : α} (h : xs[k]? = some x) : xs.drop k = x :: xs.drop (k + 1) := by
  obtain ⟨hlt, rfl⟩ := List.getElem?_eq_some_iff.1 h
  exact List.drop_eq_getElem_cons hlt

theorem take_get {α : Type} {xs : List α} {k : Nat} {x : α} (h : xs[k]? = some x) : xs.take (k + 1) = xs.take k ++ [x] := by
  rw [List.take_add_one, h]
  rfl

theorem i64_succ {k : Nat} (h : (k : Int) < 9223372036854775807) : IntKind.i64.wrap ((k : Int) + 1) = ((k + 1 : Nat) : Int) := by
  rw [i64_wrap (by omega) (by omega)]
  omega

theorem drop_getD {α : Type} {xs : List α} {k : Nat} {d : α} (h : k < xs.length) : xs.drop k = xs.getD k d :: xs.drop (k + 1) := by
  rw [List.drop_eq_getElem_cons h, List.getD_eq_getElem?_getD, List.getElem?_eq_getElem h]
  rfl

theorem ix_map_at {α : Type} {f : α → List AV} {xs : List α} {k : Nat} {x : α} {Q : List AV → Prop} (hx : xs[k]? = some x) (hQ : Q (f x)) : 0 ≤ (k : Int) ∧ ∃ y, (xs.map f)[(k : Int).toNat]? = some y ∧ Q y :=
  ⟨by omega, f x, by simp [hx], hQ⟩

/-- Parts of a list of encoded values. -/
theorem sl_pre {α : Type} {f : α → List AV} {xs : List α} {m esz : Nat} {s : St} {d : Option Nat} {K : St → Prop} (h : m ≤ xs.length) (hf : ∀ x, (f x).length = esz) (hK : s.putK d (.sl ((xs.take m).map f)) K) :
    (0 ≤ (0 : Int) ∧ (0 : Int) ≤ (m : Int) ∧ (m : Int) ≤ ((xs.map f).length : Int)) ∧ (∀ z ∈ xs.map f, z.length = esz) ∧ s.putK d (.sl (((xs.map f).take (m : Int).toNat).drop (0 : Int).toNat)) K := by
  refine ⟨⟨by omega, by omega, by simp; omega⟩, fun z hz => ?_, ?_⟩
  · obtain ⟨x, _, rfl⟩ := List.mem_map.1 hz
    exact hf x
  · rw [List.map_take] at hK
    exact hK
theorem sl_suf {α : Type} {f : α → List AV} {xs : List α} {m esz : Nat} {s : St} {d : Option Nat} {K : St → Prop} (h : m ≤ xs.length) (hf : ∀ x, (f x).length = esz) (hK : s.putK d (.sl ((xs.drop m).map f)) K) :
    (0 ≤ (m : Int) ∧ (m : Int) ≤ ((xs.map f).length : Int) ∧ ((xs.map f).length : Int) ≤ ((xs.map f).length : Int)) ∧ (∀ z ∈ xs.map f, z.length = esz) ∧ s.putK d (.sl (((xs.map f).take ((xs.map f).length : Int).toNat).drop (m : Int).toNat)) K := by
  refine ⟨⟨by omega, by simp; omega, by omega⟩, fun z hz => ?_, ?_⟩
  · obtain ⟨x, _, rfl⟩ := List.mem_map.1 hz
    exact hf x
  · rw [List.map_drop] at hK
    rw [Int.toNat_natCast, Int.toNat_natCast, List.take_length]
    exact hK

/-- The first place of a byte, as what stands in for IndexByteString counts it. -/
def byteIdx (l : List UInt8) (c : UInt8) : Int := firstIdx ⟨l.toArray⟩ c
theorem byteIdx_neg {l : List UInt8} {c : UInt8} : byteIdx l c < 0 ↔ l.any (fun b => b == c) = false := by
  unfold byteIdx firstIdx
  have hsz : (ByteArray.mk l.toArray).size = l.length := by simp [ByteArray.size]
  have hget : ∀ i, i < l.length → (ByteArray.mk l.toArray)[i]! = l.getD i 0 := by
    intro i hi
    have h1 : i < (ByteArray.mk l.toArray).size := by rw [hsz]; exact hi
    rw [getElem!_pos _ i h1, List.getD_eq_getElem?_getD, List.getElem?_eq_getElem hi]
    rfl
  split
  · rename_i i h
    have h1 := List.find?_some h
    have h2 := List.mem_of_find?_eq_some h
    rw [hsz, List.mem_range] at h2
    rw [hget i h2] at h1
    constructor
    · intro h; omega
    · intro h3
      exfalso
      rw [List.any_eq_false] at h3
      have hm : l.getD i 0 ∈ l := by
        rw [List.getD_eq_getElem?_getD, List.getElem?_eq_getElem h2]
        exact List.getElem_mem h2
      exact h3 _ hm h1
  · rename_i h
    refine ⟨fun _ => ?_, fun _ => by omega⟩
    rw [List.find?_eq_none] at h
    rw [List.any_eq_false]
    intro b hb
    obtain ⟨i, hi, rfl⟩ := List.getElem_of_mem hb
    have := h i (by rw [hsz, List.mem_range]; exact hi)
    rw [hget i hi, List.getD_eq_getElem?_getD, List.getElem?_eq_getElem hi] at this
    exact this

theorem run_byteIdx {P : Program} {l : List UInt8} {c : UInt8} (w : World) : (Extern.BytealgIndexByte.indexByte #[.string ⟨l.toArray⟩, .int .u8 (c.toNat : Int)]).run P w = .ok (.int .i64 (byteIdx l c)) w := by
  rw [run_indexByte_string]
  unfold byteIdx
  simp

theorem LR_two {w : World} {ro : Nat → Prop} {a b : AV} {vals : List Value} (h : LR w ro [a, b] vals) : ∃ v u, vals = [v, u] ∧ RR w ro a v ∧ RR w ro b u := by
  match vals, h with
  | [], h => unfold LR at h; exact h.elim
  | [v], h => unfold LR at h; have h2 := h.2; unfold LR at h2; exact h2.elim
  | [v, u], h => unfold LR at h; have h2 := h.2; unfold LR at h2; exact ⟨v, u, rfl, h.1, h2.1⟩
  | v :: u :: x :: l, h => unfold LR at h; have h2 := h.2; unfold LR at h2; have h3 := h2.2; unfold LR at h3; exact h3.elim

theorem pc_indexByte {P : Program} {f : Nat} {fn : Func} (hf : P.funcs[f]? = some fn) (hname : (fn.name == "runtime.NumGoroutine") = false) (hb : fn.body.isNone = true) (hn : Extern.findNext fn = none) (he : Extern.find fn = some Extern.BytealgIndexByte.indexByte) (l : List UInt8) (c : UInt8) :
    PC P false f [.str l, .int .u8 (c.toNat : Int)] (.int .i64 (byteIdx l c)) [] := by
  refine pc_ext hf hname hb hn he fun w ro vals h => ?_
  obtain ⟨v, u, rfl, h1, h2⟩ := LR_two h
  unfold RR at h1 h2
  subst h1 h2
  exact ⟨_, run_byteIdx w, fun c => by unfold VR; rfl⟩

theorem bl_leq : ∀ (x y : List UInt8), (Op.bytesLess x y || x == y) = !Op.bytesLess y x
  | [], [] => by simp [Op.bytesLess]
  | [], b :: y => by simp [Op.bytesLess]
  | a :: x, [] => by simp [Op.bytesLess]
  | a :: x, b :: y => by
    have ih := bl_leq x y
    simp only [Op.bytesLess]
    rcases Nat.lt_trichotomy a.toNat b.toNat with h | h | h
    · have h1 : a < b := h
      have h2 : ¬ b < a := fun hc => absurd (UInt8.lt_iff_toNat_lt.1 hc) (by omega)
      have h3 : ¬ a = b := by rintro rfl; omega
      have h4 : ¬ b = a := fun e => h3 e.symm
      simp [h1, h2, h4]
    · have h3 : a = b := UInt8.toNat_inj.1 h
      subst h3
      simpa using ih
    · have h1 : b < a := h
      have h2 : ¬ a < b := fun hc => absurd (UInt8.lt_iff_toNat_lt.1 hc) (by omega)
      have h3 : ¬ a = b := by rintro rfl; omega
      simp [h1, h2, h3]

theorem fact_byte {a b : UInt8} : ((a.toNat : Int) = b.toNat) ↔ a = b := by
  rw [Int.natCast_inj, UInt8.toNat_inj]

/-! Calls in drawn regions. -/
theorem CallDF {P : Program} {f : Nat} {args args' : List AV} {ro kn : Bool} {nid : Nat} {K : AV → List AObj → Prop} {r : AV} {os : List AObj} (hpc : PC P false f args' r os) (he : args = args') (hk : kn = true) (hr : r.fine true os.length = true ∧ os.all (fun o => !o.box) = true)
    (h : nameV (r.shift nid) fun v => K v os) : CallD P f args ro kn nid K := by
  unfold CallD
  exact ⟨false, r, os, by rw [he]; exact hpc, (fun e => by cases e), hk, hr, h⟩
theorem CallDT {P : Program} {f : Nat} {args args' : List AV} {ro kn : Bool} {nid : Nat} {K : AV → List AObj → Prop} {r : AV} {os : List AObj} (hpc : PC P true f args' r os) (he : args = args') (hk : kn = true) (hro : ro = true) (hr : r.fine true os.length = true ∧ os.all (fun o => !o.box) = true)
    (h : nameV (r.shift nid) fun v => K v os) : CallD P f args ro kn nid K := by
  unfold CallD
  exact ⟨true, r, os, by rw [he]; exact hpc, fun _ => hro, hk, hr, h⟩
theorem CallD0 {P : Program} {f : Nat} {args args' : List AV} {ro kn : Bool} {nid : Nat} {K : AV → List AObj → Prop} {r : AV} (hpc : PC P false f args' r []) (he : args = args') (hk : kn = true) (hr : r.fine true 0 = true)
    (h : nameV (r.shift nid) fun v => K v []) : CallD P f args ro kn nid K := CallDF hpc he hk ⟨hr, rfl⟩ h

end Go.Ab
