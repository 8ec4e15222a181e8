/-
  The operations that make no memory: what each gives, as an abstract value, and that it is so.
  No condition: definitions and lemmas over any program.
-/
import Derived.Test.YtcdlapjpnenkdaaGreatAb4
import Derived.WalkKit
import Derived.WalkLawsBesides
namespace Go.Ab
open Go.RowKit

/-! Constants and operands. -/
def ofVal1 : Value → AV
  | .bool b => .bool b
  | .int k n => .int k n
  | .string s => .str s.data.toList
  | .slice none 0 0 => .nil
  | _ => .any
def ofVal : Value → AV
  | .agg cs => .agg (cs.toList.map ofVal1)
  | v => ofVal1 v

theorem ofVal1_ok (c : Ctx) (v : Value) : VR c (ofVal1 v) v := by
  unfold ofVal1
  split <;> unfold VR <;> simp

theorem ofVals_ok (c : Ctx) : ∀ l : List Value, VL c (l.map ofVal1) l
  | [] => VL.nil
  | v :: l => VL.cons (ofVal1_ok c v) (ofVals_ok c l)

theorem ofVal_ok (c : Ctx) (v : Value) : VR c (ofVal v) v := by
  unfold ofVal
  split
  · unfold VR; exact ⟨_, rfl, ofVals_ok c _⟩
  · exact ofVal1_ok c _

def St.val (s : St) : Operand → AV
  | .tmp t => s.env t
  | .const v => ofVal v
  | .global _ => .any
  | .func f => .fn f []

section
variable {F : Nat → Prop} {w0 : World} {gv : List Value} {s : St} {a : Act} {w : World} {hdr : Nat → Value}

theorem Sim.val (h : Sim F w0 gv s a w hdr) (x : Operand) : VR (s.ctx F w hdr) (s.val x) (a.eval x) := by
  cases x with
  | tmp t => exact h.env t
  | const v => exact ofVal_ok _ v
  | global g => unfold St.val VR; trivial
  | func f => unfold St.val VR; exact ⟨#[], rfl, by simpa using VL.nil⟩

/-! Cells behind a pointer. -/
def St.cellsAt (s : St) : AV → Option (List AV)
  | .ptr id idx off =>
    match s.objs id with
    | some o =>
      match o.elems[idx]? with
      | some e => some (e.drop off)
      | none => none
    | none => none
  | .rp cs => some cs
  | _ => none

theorem CsR.list {w : World} {ro : Nat → Prop} {c : Ctx} (hw : c.w = w) (hr : c.ro = ro) : ∀ (cs : List AV) (rd : Nat → Option Value), CsR w ro cs rd → ∃ vs, VL c cs vs ∧ ∀ j u, vs[j]? = some u → rd j = some u
  | [], _, _ => ⟨[], VL.nil, fun j u h => by simp at h⟩
  | a :: cs, rd, h => by
    unfold CsR at h
    obtain ⟨⟨v, h1, h2⟩, h3⟩ := h
    obtain ⟨vs, k1, k2⟩ := CsR.list hw hr cs _ h3
    refine ⟨v :: vs, VL.cons (RR.value a v (by rw [hw, hr]; exact h2)) k1, fun j u hj => ?_⟩
    cases j with
    | zero => simp at hj; subst hj; exact h1
    | succ j => exact k2 j u (by simpa using hj)

theorem Sim.cellsAt (h : Sim F w0 gv s a w hdr) {p : AV} {v : Value} (hv : VR (s.ctx F w hdr) p v) {cs : List AV} (hc : s.cellsAt p = some cs) :
    ∃ b o vs, v = .pointer (some ⟨b, o, none⟩) ∧ VL (s.ctx F w hdr) cs vs ∧ ∀ j u, vs[j]? = some u → w.cell? ((⟨b, o, none⟩ : Addr).add j) = some u := by
  cases p <;> simp only [St.cellsAt] at hc <;> try (cases hc; done)
  case ptr id idx off =>
    unfold VR at hv
    obtain ⟨o, b, h1, h2, h3⟩ := hv
    replace h1 : s.objs id = some o := h1
    rw [h1] at hc
    simp only at hc
    cases he : o.elems[idx]? with
    | none => simp [he] at hc
    | some e =>
      simp only [he, Option.some.injEq] at hc
      subst hc
      obtain ⟨hpos, hlens, cs0, hrow, hone, hvl, _⟩ := h.objs id o h1
      obtain ⟨cap, cur, hh, _, hBb, hg, hcap, hmax, hcur, htake⟩ := ownsRow_cells hrow h2
      have hel : e.length = o.esz := hlens e (List.mem_of_getElem? he)
      by_cases hoff : off ≤ o.esz
      · refine ⟨b, idx * o.esz + off, (cs0.drop (idx * o.esz + off)).take (o.esz - off), h3, ?_, ?_⟩
        · have := flatten_drop o.esz o.elems hlens idx e he off hoff
          rw [← this]
          exact (hvl.drop _).take _
        · intro j u hj
          rw [List.getElem?_take] at hj
          split at hj
          · rw [List.getElem?_drop] at hj
            have := hrow.cells (g := b) h2 _ u hj
            rw [Addr.add_lit] at this ⊢
            rw [Nat.zero_add] at this
            exact this
          · cases hj
      · rw [List.drop_eq_nil_of_le (by omega)]
        exact ⟨b, idx * o.esz + off, [], h3, VL.nil, fun j u hj => by simp at hj⟩
  case rp cs' =>
    simp only [Option.some.injEq] at hc
    subst hc
    unfold VR RR at hv
    obtain ⟨b, o, h1, h2, h3⟩ := hv
    obtain ⟨vs, k1, k2⟩ := CsR.list (c := s.ctx F w hdr) rfl rfl cs' _ h3
    exact ⟨b, o, vs, h1, k1, fun j u hj => by rw [Addr.add_lit]; exact k2 j u hj⟩

def isAggD : TypeDesc → Bool
  | .struct _ | .array _ _ => true
  | _ => false

/-- A variable of type T read off cells. -/
def takeA (P : Program) (T : TypeId) (cs : List AV) : Option AV :=
  match P.info? T with
  | some i =>
    match P.underlying T with
    | some d => if isAggD d then (if i.size ≤ cs.length then some (.agg (cs.take i.size)) else none) else cs.head?
    | none => none
  | none => none

theorem run_isAgg {P : Program} {T : TypeId} {d : TypeDesc} (h : P.underlying T = some d) (w : World) : (isAgg T).run P w = .ok (isAggD d) w := by
  cases d <;> simp [isAgg, run_underlying h, isAggD]

theorem Sim.load (h : Sim F w0 gv s a w hdr) {P : Program} {T : TypeId} {p : AV} {v : Value} (hv : VR (s.ctx F w hdr) p v) {cs : List AV} (hc : s.cellsAt p = some cs) {x : AV} (hx : takeA P T cs = some x) :
    ∃ u, (Instr.loadAt T v).run P w = .ok u w ∧ VR (s.ctx F w hdr) x u := by
  obtain ⟨b, o, vs, h1, h2, h3⟩ := h.cellsAt hv hc
  subst h1
  unfold takeA at hx
  cases hi : P.info? T with
  | none => simp [hi] at hx
  | some i =>
    cases hd : P.underlying T with
    | none => simp [hi, hd] at hx
    | some d =>
      simp only [hi, hd] at hx
      by_cases hg : isAggD d = true
      · simp only [hg, if_true] at hx
        split at hx
        · rename_i hle
          simp only [Option.some.injEq] at hx
          subst hx
          have hl : vs.length = cs.length := h2.length.symm
          have hr := run_loadCells_list (P := P) w ⟨b, o, none⟩ (vs.take i.size) (fun j u hj => h3 j u (by
            rw [List.getElem?_take] at hj
            split at hj
            · exact hj
            · cases hj))
          rw [List.length_take, Nat.min_eq_left (by omega)] at hr
          refine ⟨.agg (vs.take i.size).toArray, ?_, ?_⟩
          · simp [Instr.loadAt, Instr.sureAddr, loadVar, run_isAgg hd, hg, sizeOf, typeInfo, hi, hr]
          · unfold VR
            exact ⟨_, rfl, by simpa using h2.take i.size⟩
        · cases hx
      · simp only [hg] at hx
        cases cs with
        | nil => simp at hx
        | cons c0 cs =>
          simp at hx
          subst hx
          cases vs with
          | nil => unfold VL at h2; exact h2.elim
          | cons u vs =>
            unfold VL at h2
            have h4 := h3 0 u rfl
            have hg' : isAggD d = false := by simpa using hg
            refine ⟨u, ?_, h2.1⟩
            rw [Addr.add_lit, Nat.add_zero] at h4
            simp [Instr.loadAt, Instr.sureAddr, loadVar, run_isAgg hd, hg', h4]

/-! A field's place; an element's place. -/
def fieldOff (P : Program) (T : TypeId) (f : Nat) : Option (Nat × TypeId) :=
  match P.underlying T with
  | some (.struct fs) =>
    match fs[f]? with
    | some x =>
      match P.info? x.type with
      | some i => if i.size = 0 then none else some (x.offset, x.type)
      | none => none
    | none => none
  | _ => none

def moveP (p : AV) (n : Nat) : Option AV :=
  match p with
  | .ptr id idx off => some (.ptr id idx (off + n))
  | .rp cs => some (.rp (cs.drop n))
  | _ => none

theorem CsR.drop {w : World} {ro : Nat → Prop} : ∀ (n : Nat) (cs : List AV) (rd : Nat → Option Value), CsR w ro cs rd → CsR w ro (cs.drop n) (fun j => rd (n + j))
  | 0, cs, rd, h => by
    simp only [List.drop_zero]
    exact CsR.mono (w := w) (ro := ro) (fun _ _ _ => rfl) (fun _ h => h) cs rd _ (fun j => by rw [Nat.zero_add]) h
  | n + 1, [], rd, _ => by simp only [List.drop_nil]; unfold CsR; trivial
  | n + 1, a :: cs, rd, h => by
    unfold CsR at h
    simp only [List.drop_succ_cons]
    exact CsR.mono (w := w) (ro := ro) (fun _ _ _ => rfl) (fun _ h => h) _ _ _ (fun j => by congr 1; omega) (CsR.drop n cs _ h.2)

theorem moveP_ok {c : Ctx} {p q : AV} {v : Value} {n : Nat} (hv : VR c p v) (hq : moveP p n = some q) : ∃ b o, v = .pointer (some ⟨b, o, none⟩) ∧ VR c q (.pointer (some ⟨b, o + n, none⟩)) := by
  cases p <;> simp only [moveP] at hq <;> try (cases hq; done)
  case ptr id idx off =>
    cases hq
    unfold VR at hv
    obtain ⟨o, b, h1, h2, h3⟩ := hv
    refine ⟨b, _, h3, ?_⟩
    unfold VR
    exact ⟨o, b, h1, h2, by rw [Nat.add_assoc]⟩
  case rp cs =>
    cases hq
    unfold VR RR at hv
    obtain ⟨b, o, h1, h2, h3⟩ := hv
    refine ⟨b, o, h1, ?_⟩
    unfold VR RR
    refine ⟨b, o + n, rfl, h2, ?_⟩
    exact CsR.mono (w := c.w) (ro := c.ro) (fun _ _ _ => rfl) (fun _ h => h) _ _ _ (fun j => by rw [Nat.add_assoc]) (CsR.drop n cs _ h3)

theorem run_fieldAt {P : Program} {T : TypeId} {f off : Nat} {t : TypeId} (h : fieldOff P T f = some (off, t)) (b o : Nat) (w : World) :
    (Instr.fieldAt T (.pointer (some ⟨b, o, none⟩)) f).run P w = .ok (.pointer (some ⟨b, o + off, none⟩)) w := by
  unfold fieldOff at h
  split at h
  · rename_i fs hu
    split at h
    · rename_i x hx
      split at h
      · rename_i i hi
        split at h
        · cases h
        · rename_i hz
          simp only [Option.some.injEq, Prod.mk.injEq] at h
          obtain ⟨rfl, rfl⟩ := h
          simp [Instr.fieldAt, run_underlying hu, hx, Instr.sureAddr, fieldPlace, sizeOf, typeInfo, hi, hz, Addr.add_lit]
      · cases h
    · cases h
  · cases h

def elemOf? (P : Program) (T : TypeId) : Option TypeId :=
  match P.underlying T with
  | some (.slice e) => some e
  | _ => none
theorem elemOf?_some {P : Program} {T e : TypeId} (h : elemOf? P T = some e) : P.underlying T = some (.slice e) := by
  unfold elemOf? at h
  split at h
  · cases h; assumption
  · cases h

def sizeOf? (P : Program) (T : TypeId) : Option Nat := (P.info? T).map (·.size)

/-- The place of element i: the value and the bound that must hold. -/
def indexP (s : St) (x : AV) (i : Int) (esz : Nat) : Option (Nat × AV) :=
  match x with
  | .own id =>
    match s.objs id with
    | some o => if o.box = false ∧ o.esz = esz then some (o.elems.length, .ptr id i.toNat 0) else none
    | none => none
  | .sl xs => some (xs.length, .rp (xs.getD i.toNat []))
  | _ => none

theorem EsR.get {w : World} {ro : Nat → Prop} (esz : Nat) : ∀ (xs : List (List AV)) (rd : Nat → Option Value), EsR w ro esz xs rd → ∀ (i : Nat) (x : List AV), xs[i]? = some x → x.length = esz ∧ CsR w ro x (fun j => rd (i * esz + j))
  | [], _, _, i, x, hi => by simp at hi
  | x :: xs, rd, h, 0, y, hi => by
    unfold EsR at h
    simp at hi
    subst hi
    exact ⟨h.1, CsR.mono (w := w) (ro := ro) (fun _ _ _ => rfl) (fun _ h => h) _ _ _ (fun j => by simp) h.2.1⟩
  | x :: xs, rd, h, i + 1, y, hi => by
    unfold EsR at h
    obtain ⟨h1, h2⟩ := EsR.get esz xs _ h.2.2 i y (by simpa using hi)
    exact ⟨h1, CsR.mono (w := w) (ro := ro) (fun _ _ _ => rfl) (fun _ h => h) _ _ _ (fun j => by congr 1; simp [Nat.add_mul]; omega) h2⟩

theorem Sim.indexAt (h : Sim F w0 gv s a w hdr) {P : Program} {T e : TypeId} (hT : elemOf? P T = some e) {esz : Nat} (hs : sizeOf? P e = some esz) {x q : AV} {v : Value} (hv : VR (s.ctx F w hdr) x v)
    {k : IntKind} {i : Int} {n : Nat} (hq : indexP s x i esz = some (n, q)) (h0 : 0 ≤ i) (hn : i < n) (hx : ∀ xs y, x = .sl xs → xs[i.toNat]? = some y → y.length = esz) :
    ∃ u, (Instr.indexAt T v (.int k i)).run P w = .ok u w ∧ VR (s.ctx F w hdr) q u := by
  have hu := elemOf?_some hT
  unfold sizeOf? at hs
  cases hi : P.info? e with
  | none => simp [hi] at hs
  | some ie =>
    simp [hi] at hs
    cases x <;> simp only [indexP] at hq <;> try (cases hq; done)
    case own id =>
      cases ho : s.objs id with
      | none => simp [ho] at hq
      | some o =>
        simp only [ho] at hq
        split at hq
        · rename_i hcond
          cases hq
          unfold VR at hv
          obtain ⟨_, hv⟩ := hv
          replace hv : v = hdr id := hv
          obtain ⟨hpos, hlens, cs0, hrow, _⟩ := h.objs id o ho
          rcases hrow.2 with ⟨_, e1, e2⟩ | ⟨g, cap, cur, e1, e0, e2, e3, e4, e5, e6, e7⟩
          · omega
          · have hadd : (⟨g, 0, none⟩ : Addr).add (i.toNat * ie.size) = ⟨g, i.toNat * o.esz + 0, none⟩ := by
              rw [Addr.add_lit, hs, hcond.2]; simp
            refine ⟨.pointer (some ⟨g, i.toNat * o.esz + 0, none⟩), ?_, ?_⟩
            · rw [hv, e1]
              simp [Instr.indexAt, asIntOf, run_underlying hu, sizeOf, typeInfo, hi, h0, hn, hadd]
            · unfold VR
              exact ⟨o, g, ho, by show (hdr id).blk = some g; rw [e1]; simp only [Value.blk]; rw [if_neg (by omega)], rfl⟩
        · cases hq
    case sl xs =>
      cases hq
      unfold VR RR at hv
      obtain ⟨base, cap, e1, e2, e3⟩ := hv
      rcases e3 with e3 | ⟨b, o, esz', f1, f2, f3⟩
      · subst e3; simp at hn; omega
      · have hlt : i.toNat < xs.length := by omega
        have hget : xs[i.toNat]? = some (xs.getD i.toNat []) := by simp [List.getD_eq_getElem?_getD, hlt]
        obtain ⟨g1, g2⟩ := EsR.get esz' xs _ f3 i.toNat _ hget
        have hez : esz' = esz := by rw [← g1]; exact hx xs _ rfl hget
        subst hez
        have hadd : (⟨b, o, none⟩ : Addr).add (i.toNat * ie.size) = ⟨b, o + i.toNat * esz', none⟩ := by rw [Addr.add_lit, hs]
        refine ⟨.pointer (some ⟨b, o + i.toNat * esz', none⟩), ?_, ?_⟩
        · rw [e1, f1]
          simp [Instr.indexAt, asIntOf, run_underlying hu, sizeOf, typeInfo, hi, h0, hn, hadd]
        · unfold VR RR
          exact ⟨b, _, rfl, f2, CsR.mono (w := w) (ro := roOf F w hdr s.objs) (fun _ _ _ => rfl) (fun _ h => h) _ _ _ (fun j => by rw [Nat.add_assoc]) g2⟩

end
end Go.Ab
