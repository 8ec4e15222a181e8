/-
  Arguments that are read as data, as abstract values; a law's row out of its function's contract.
  No condition: lemmas over any program.
-/
import Derived.Test.YtcdlapjpnenkdaaGreatAb14
import Derived.OpenShut
import Derived.ProofKit
namespace Go.Ab
open Go.RowKit Go.ChangeShapes Go.WideShapes

/-- The types that are opened here: truth values, integers, strings, structs, slices. -/
def offsOk (P : Program) : Nat → List Field → Bool
  | _, [] => true
  | k, f :: l => f.offset == k && offsOk P (k + P.cellsOf f.type) l
def sumOf (P : Program) : List Field → Nat
  | [] => 0
  | f :: l => P.cellsOf f.type + sumOf P l
def shB (P : Program) : Nat → TypeId → Bool
  | 0, _ => false
  | n + 1, t =>
    match P.underlying t with
    | some .bool => true
    | some (.int _) => true
    | some .string => true
    | some (.slice e) => decide (0 < P.cellsOf e) && shB P n e
    | some (.struct fs) => offsOk P 0 fs.toList && P.cellsOf t == sumOf P fs.toList && fs.toList.all fun f => shB P n f.type
    | _ => false

mutual
/-- The shape of a type's cells. -/
def Sh (P : Program) : Nat → TypeId → List AV → Prop
  | 0, _, _ => False
  | n + 1, t, as =>
    match P.underlying t with
    | some .bool => ∃ b, as = [.bool b]
    | some (.int k) => ∃ x, as = [.int k x] ∧ (Lit.int k x).wf = true
    | some .string => ∃ l, as = [.str l] ∧ l.length ≤ maxLen
    | some (.slice e) => ∃ xs, as = [.sl xs] ∧ xs.length ≤ maxLen ∧ ∀ x ∈ xs, Sh P n e x
    | some (.struct fs) => ShL P n fs.toList as
    | _ => False
def ShL (P : Program) : Nat → List Field → List AV → Prop
  | _, [], as => as = []
  | n, f :: fs, as => ∃ x y, as = x ++ y ∧ Sh P n f.type x ∧ ShL P n fs y
end

section
variable {H : Type} {enc : TypeId × Value → H} {P : Program} {w : World} {base : Nat} {spare : Nat → Bool} {held : Bool} {ro : Nat → Prop}

theorem open_fields (n : Nat) (ih : ∀ (t : TypeId) (cs : List Value) (fuel : Nat) (x : DataW H × List MemPlace), shB P n t = true → DataW.trod enc P w base spare held fuel t cs = some x → ∃ as, LR w ro as cs ∧ Sh P n t as) :
    ∀ (l : List Field) (k : Nat) (cs : List Value), offsOk P k l = true → (l.all fun f => shB P n f.type) = true → cs.length = k + sumOf P l →
      (∀ f ∈ l, ∃ fuel x, DataW.trod enc P w base spare held fuel f.type ((cs.drop f.offset).take (P.cellsOf f.type)) = some x) → ∃ as, LR w ro as (cs.drop k) ∧ ShL P n l as
  | [], k, cs, _, _, hl, _ => by
    refine ⟨[], ?_, by unfold ShL; rfl⟩
    have : cs.drop k = [] := List.drop_eq_nil_of_le (by simp [sumOf] at hl; omega)
    rw [this]
    unfold LR; trivial
  | f :: l, k, cs, ho, hs, hl, h => by
    simp only [offsOk, Bool.and_eq_true, beq_iff_eq] at ho
    simp only [List.all_cons, Bool.and_eq_true] at hs
    simp only [sumOf] at hl
    obtain ⟨fuel, x, hx⟩ := h f (by simp)
    rw [ho.1] at hx
    obtain ⟨as, h1, h2⟩ := ih _ _ _ _ hs.1 hx
    obtain ⟨bs, h3, h4⟩ := open_fields n ih l (k + P.cellsOf f.type) cs ho.2 hs.2 (by omega) (fun g hg => h g (by simp [hg]))
    refine ⟨as ++ bs, ?_, ?_⟩
    · have e : cs.drop k = (cs.drop k).take (P.cellsOf f.type) ++ cs.drop (k + P.cellsOf f.type) := by
        rw [← List.drop_drop, List.take_append_drop]
      rw [e]
      exact h1.append h3
    · unfold ShL
      exact ⟨as, bs, rfl, h2, h4⟩

theorem open_elems (Q : List AV → Prop) (esz : Nat) (rd : Nat → Option Value) : ∀ (m k : Nat), (∀ i, i < m → ∃ cs as, cs.length = esz ∧ (∀ j v, cs[j]? = some v → rd ((k + i) * esz + j) = some v) ∧ LR w ro as cs ∧ Q as) →
    ∃ xs : List (List AV), xs.length = m ∧ EsR w ro esz xs (fun j => rd (k * esz + j)) ∧ ∀ x ∈ xs, Q x
  | 0, k, _ => ⟨[], rfl, by unfold EsR; trivial, by simp⟩
  | m + 1, k, h => by
    obtain ⟨cs, as, h1, h2, h3, h4⟩ := h 0 (by omega)
    obtain ⟨xs, g1, g2, g3⟩ := open_elems Q esz rd m (k + 1) (fun i hi => by
      obtain ⟨cs, as, q1, q2, q3, q4⟩ := h (i + 1) (by omega)
      exact ⟨cs, as, q1, fun j v hj => by have := q2 j v hj; rw [show k + 1 + i = k + (i + 1) by omega]; exact this, q3, q4⟩)
    refine ⟨as :: xs, by simp [g1], ?_, ?_⟩
    · unfold EsR
      refine ⟨by rw [h3.length, h1], LR.cells _ h3 (fun j u hj => h2 j u hj), ?_⟩
      have : (fun j => rd (k * esz + (j + esz))) = (fun j => rd ((k + 1) * esz + j)) := by
        funext j
        rw [Nat.add_mul, Nat.one_mul]
        congr 1
        omega
      rw [this]
      exact g2
    · intro x hx
      rcases List.mem_cons.1 hx with rfl | hx
      · exact h4
      · exact g3 x hx

theorem open_data (hro : ∀ b o v, w.cell? ⟨b, o, none⟩ = some v → ro b) : ∀ (n : Nat) (t : TypeId) (cs : List Value) (fuel : Nat) (x : DataW H × List MemPlace), shB P n t = true → DataW.trod enc P w base spare held fuel t cs = some x →
    ∃ as, LR w ro as cs ∧ Sh P n t as := by
  intro n
  induction n with
  | zero => intro t cs fuel x h; simp [shB] at h
  | succ n ih =>
    intro t cs fuel x hs h
    have one : ∀ {a v}, RR w ro a v → LR w ro [a] [v] := fun {a v} h => by unfold LR; exact ⟨h, by unfold LR; trivial⟩
    unfold shB at hs
    split at hs
    · rename_i hu
      cases fuel with
      | zero => simp [DataW.trod] at h
      | succ m =>
        unfold DataW.trod at h
        rw [hu] at h
        split at h <;> simp_all
        exact ⟨_, one (a := .bool _) (by unfold RR; rfl), by unfold Sh; rw [hu]; exact ⟨_, rfl⟩⟩
    · rename_i k hu
      cases fuel with
      | zero => simp [DataW.trod] at h
      | succ m =>
        unfold DataW.trod at h
        rw [hu] at h
        split at h <;> simp_all
        obtain ⟨⟨rfl, hw⟩, _⟩ := h
        exact ⟨_, one (a := .int _ _) (by unfold RR; rfl), by unfold Sh; rw [hu]; exact ⟨_, rfl, hw⟩⟩
    · rename_i hu
      cases fuel with
      | zero => simp [DataW.trod] at h
      | succ m =>
        unfold DataW.trod at h
        rw [hu] at h
        split at h <;> simp_all
        rename_i s
        have hsz := h.1
        exact ⟨[.str s.data.toList], one (by unfold RR; rfl), by unfold Sh; rw [hu]; exact ⟨s.data.toList, rfl, by rw [Array.length_toList]; exact hsz⟩⟩
    · rename_i e hu
      simp only [Bool.and_eq_true, decide_eq_true_eq] at hs
      rcases DataW.trod_slice hu h with ⟨rfl, _⟩ | ⟨a, len, cap, elems, rest, m, _, rfl, _, _, hlc, hcm, hel, hget, _, _⟩
      · exact ⟨[.sl []], one (by unfold RR; exact ⟨none, 0, rfl, Nat.le_refl _, .inl rfl⟩), by unfold Sh; rw [hu]; exact ⟨[], rfl, by simp, by simp⟩⟩
      · have hcells : ∀ i, i < len → ∃ cs' as, cs'.length = P.cellsOf e ∧ (∀ j v, cs'[j]? = some v → w.cell? ((a.add (i * P.cellsOf e)).add j) = some v) ∧ LR w ro as cs' ∧ Sh P n e as := by
          intro i hi
          have h1 := hget i hi
          have hsome : ∃ y, elems[i]? = some y := ⟨elems[i]'(by omega), by simp [hel, hi]⟩
          obtain ⟨y, hy⟩ := hsome
          rw [hy, Option.bind_eq_some_iff] at h1
          obtain ⟨cs', c1, c2⟩ := h1
          unfold World.cells? at c1
          split at c1
          · obtain ⟨as, l1, l2⟩ := ih _ _ _ _ hs.2 c2
            refine ⟨cs', as, by simpa using mapM_some_length c1, fun j v hj => ?_, l1, l2⟩
            have hjl : j < P.cellsOf e := by
              have := (List.getElem?_eq_some_iff.1 hj).1
              rw [mapM_some_length c1] at this
              simpa using this
            have := mapM_some_get c1 j j (by simp [hjl])
            rw [hj] at this
            exact this
          · cases c1
        by_cases hz : len = 0
        · subst hz
          refine ⟨[.sl []], one ?_, by unfold Sh; rw [hu]; exact ⟨[], rfl, by simp, by simp⟩⟩
          unfold RR
          exact ⟨some a, cap, rfl, by simp, .inl rfl⟩
        · obtain ⟨cs0, as0, q1, q2, _, _⟩ := hcells 0 (by omega)
          have hc0 : ∃ v, cs0[0]? = some v := ⟨cs0[0]'(by omega), by simp [q1, hs.1]⟩
          obtain ⟨v0, hv0⟩ := hc0
          have hcell := q2 0 v0 hv0
          obtain ⟨b, off, spot⟩ := a
          have hspot : spot = none := by
            have := World.cell?_spot hcell
            unfold Addr.add at this
            split at this <;> simp_all
          subst hspot
          simp only [add_plain] at hcells hcell
          obtain ⟨xs, g1, g2, g3⟩ := open_elems (w := w) (ro := ro) (Sh P n e) (P.cellsOf e) (fun j => w.cell? ⟨b, off + j, none⟩) len 0 (fun i hi => by
            obtain ⟨cs', as, r1, r2, r3, r4⟩ := hcells i hi
            refine ⟨cs', as, r1, fun j v hj => ?_, r3, r4⟩
            have := r2 j v hj
            rw [← this]
            simp [Nat.add_assoc])
          refine ⟨[.sl xs], one ?_, by unfold Sh; rw [hu]; exact ⟨xs, rfl, by omega, g3⟩⟩
          unfold RR
          refine ⟨_, cap, by rw [g1], by omega, .inr ⟨b, off, P.cellsOf e, rfl, hro _ _ _ hcell, ?_⟩⟩
          simpa using g2
    · rename_i fs hu
      simp only [Bool.and_eq_true, beq_iff_eq] at hs
      obtain ⟨xs, m, _, _, hl, hxl, hf⟩ := DataW.trod_struct hu h
      obtain ⟨as, h1, h2⟩ := open_fields (ro := ro) n ih fs.toList 0 cs hs.1.1 hs.2 (by rw [hl, hs.1.2]; simp) (fun f hfm => by
        obtain ⟨i, hi⟩ := List.getElem?_of_mem hfm
        have hi' : fs[i]? = some f := by simpa using hi
        have := hf i f hi'
        have hlt : i < xs.length := by
          rw [hxl]
          exact (Array.getElem?_eq_some_iff.1 hi').1
        exact ⟨m, xs[i], by rw [this]; simp [hlt]⟩)
      exact ⟨as, by simpa using h1, by unfold Sh; rw [hu]; exact h2⟩
    · cases hs

/-- The shape of an argument. -/
def ShV (P : Program) (n : Nat) (t : TypeId) (a : AV) : Prop :=
  match P.underlying t with
  | some (.struct _) => ∃ as, a = .agg as ∧ Sh P n t as
  | _ => Sh P n t [a]

theorem open_arg (hro : ∀ b o v, w.cell? ⟨b, o, none⟩ = some v → ro b) {n : Nat} {t : TypeId} {v : Value} {d : DataW H} {p : List MemPlace} (hs : shB P n t = true) (h : DataW.Trod enc P w base spare held t v d p) {r : Reach} {base' : Nat} (hok : Value.okWide P w r base' t v) :
    ∃ a, RR w ro a v ∧ ShV P n t a := by
  obtain ⟨fuel, h⟩ := h
  obtain ⟨as, h1, h2⟩ := open_data hro n t _ fuel _ hs h
  unfold ShV
  cases hu : P.underlying t with
  | none => cases n <;> simp [shB, hu] at hs
  | some ty =>
    cases ty
    case struct fs =>
      simp only
      unfold Value.okWide at hok
      rw [hu] at hok
      obtain ⟨cs, rfl, _⟩ := hok
      exact ⟨.agg as, by unfold RR; exact ⟨cs, rfl, h1⟩, as, rfl, h2⟩
    all_goals
      simp only
      have hok' : Cell.okWide P w r base' t v := by unfold Value.okWide at hok; rw [hu] at hok; first | exact hok | (cases n <;> simp [shB, hu] at hs)
      have hc : v.cells = #[v] := by
        cases v <;> first | rfl | (simp [Cell.okWide, Cell.ok, hu] at hok')
      rw [hc] at h1
      match as, h1.length with
      | [a], _ =>
        unfold LR at h1
        exact ⟨a, h1.1, h2⟩

/-- The end of a law's row. -/
theorem law_post {W W' : World} {f : Func} {s : ChangeSpec} {apart : Bool} {args : Array Value} {ds gs : List (DataW H)} {before : List MemPlace} (hl : laidOutB P = true) (hrd : (f.params.toList.all fun t => P.readableRec t && decide (t < P.types.size)) = true)
    {tb : TypeId} (hres : f.resultTypes = #[tb]) (hb : P.underlying tb = some .bool) (hW : DataW.Whole enc P f.params.toList s.vars apart W args.toList ds gs before) (hbel : Below W.heap.size W W')
    (hR : (s.fn H (ds ++ gs)).results = [.lit (.bool true)]) (hA : (s.fn H (ds ++ gs)).args = ds) (hV : s.vars = []) (hG : (s.fn H (ds ++ gs)).vars = []) {fresh handsOn : Bool} :
    s.post enc P f apart fresh handsOn false W args (.bool true) W' := by
  obtain ⟨p, q, h1, h2, h3, h4, h5⟩ := hW
  have hlt : ∀ x ∈ p, x.block < W.heap.size := fun x hx => h1.lt x hx
  have key : ∀ (ts : List TypeId) (vs : List Value) (ds : List (DataW H)) (p : List MemPlace), (ts.all fun t => P.readableRec t && decide (t < P.types.size)) = true → DataW.TrodAll enc P W 0 (fun _ => true) true ts vs ds p → (∀ x ∈ p, x.block < W.heap.size) →
      DataW.TrodAll enc P W' 0 (fun b => decide (b < W.heap.size)) true ts vs ds p := by
    intro ts
    induction ts with
    | nil =>
      intro vs ds p _ h _
      obtain ⟨rfl, rfl, rfl⟩ := trodAll_nil h
      rfl
    | cons t ts ih =>
      intro vs ds p ha h hlt
      obtain ⟨v, vs1, d, ds1, a, b, rfl, rfl, rfl, g1, g2⟩ := trodAll_cons h
      simp only [List.all_cons, Bool.and_eq_true, decide_eq_true_eq] at ha
      exact ⟨a, b, Below.trod hl ha.1.1 ha.1.2 g1 hbel (fun x hx => hlt x (by simp [hx])), ih _ _ _ ha.2 g2 (fun x hx => hlt x (by simp [hx])), rfl⟩
  refine ⟨ds, gs, before, [], p, [], ⟨p, q, h1, h2, h3, h4, h5⟩, ?_, ?_, ?_, hbel.frame _, fun e => by cases e⟩
  · rw [hR, hres]
    exact trodAll_cons_mk (p := []) (p' := []) (shut_bool hb _) trodAll_mk0
  · rw [hA]
    exact key _ _ _ _ hrd h1 hlt
  · rw [hG, hV]
    rfl

end

/-- A contract that says true. -/
theorem law_calls {P : Program} {f : Nat} {fn : Func} {c : Code} (hf : P.funcs[f]? = some fn) (hb : fn.body = some c) (hname : (fn.name == "runtime.NumGoroutine") = false) {as : List AV} (h : PC P false f as (.bool true) []) {W : World} {args : Array Value} (ha : LR W (fun b => b < W.heap.size) as args.toList) :
    Calls P f args W fun e w' => e = .returned (.bool true) ∧ Below W.heap.size W w' := by
  have := (Ans_body hf hname hb).1 (h.run W (fun b => b < W.heap.size) args.toList (fun _ h => h) ha)
  refine this.mono fun e w' ⟨v, e1, hdr, e2, e3⟩ => ?_
  have hv := e3.val
  unfold VR at hv
  exact ⟨by rw [e1, hv], e2⟩

theorem roBelow {W : World} : ∀ b o v, W.cell? ⟨b, o, none⟩ = some v → (fun b => b < W.heap.size) b := by
  intro b o v h
  unfold World.cell? at h
  show b < W.heap.size
  cases hb : W.heap[b]? with
  | none => simp [hb] at h
  | some ob => exact (Array.getElem?_eq_some_iff.1 hb).1

end Go.Ab
