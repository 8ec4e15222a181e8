/-
  Regions that draw their order are sound on abstract states.
  No condition: lemmas over any program.
-/
import Derived.Test.YtfpkfnfgloonhaaGreatAb13
namespace Go.Ab
open Go.RowKit

section
variable {P : Program} {L : List Oper}

theorem opW_opA {o : Oper} {nid : Nat} {s : St} {K : St → Prop} (h : opW P o.op nid s fun u => Fits o nid s u ∧ K (u.to nid o.dst s)) : opA P o nid s K := by
  cases hst : isStore o.op with
  | false =>
    rw [opW_of hst] at h
    obtain ⟨v, os, ⟨⟨f1, f2, f3, f4⟩, hk⟩, h2, _, _⟩ := opR_some h
    exact opR_opA (h2 (fun v os => GiveOk nid o.dst os s ∧ K (laidS nid o.dst v os s)) ⟨⟨f1, f2, f3⟩, hk⟩)
  | true =>
    obtain ⟨dst, op, type, pos, after, guard⟩ := o
    cases op <;> simp [isStore] at hst
    case store T x y =>
      simp only [opW] at h
      simp only [opA]
      split at h
      · rename_i id idx off hx
        simp only [hx]
        split at h
        · rename_i ob ho
          simp only [ho]
          split at h
          · rename_i cs hc
            split at h
            · rename_i n hn
              split at h
              · exact h.elim
              · rename_i hb
                split at h
                · rename_i e he
                  obtain ⟨h1, ⟨f1, f2, f3, f4⟩, hk⟩ := h
                  have hd : dst = none := f4 rfl
                  subst hd
                  simp only [hc, hn, hb, he, storeK_eq]
                  refine ⟨h1, ?_⟩
                  simp only [Out.to, Out.objs, St.put, hb] at hk
                  exact hk
                · exact h.elim
              · rename_i hb
                obtain ⟨e, he, ⟨h1, h2, h3, h4⟩, ⟨f1, f2, f3, f4⟩, hk⟩ := h
                have hd : dst = none := f4 rfl
                subst hd
                have hr : frzL s cs = (s, cs) := by
                  unfold frzL
                  rw [h4]
                  simp only [frzIds, Prod.mk.injEq, true_and]
                  rw [List.all_eq_true] at h3
                  exact (List.map_congr_left fun a ha => plain_rf0 (h3 a ha)).trans (List.map_id' cs)
                simp only [hc, hn, hb, hr, ho, forceS_eq]
                refine ⟨e, he, ⟨trivial, h1, h2, h3⟩, ?_⟩
                simp only [Out.to, Out.objs, St.put, hb] at hk
                exact hk
            · exact h.elim
          · exact h.elim
        · exact h.elim
      · exact h.elim

theorem dstVal_eq (s : St) (j : Nat) : oneW.dstV L s j = dstVal L s j := rfl

theorem oneW_oneA {o : Oper} {nid : Nat} {s : St} {K : St → Prop} (h : oneW P L o nid s fun u => Fits o nid s u ∧ K (u.to nid o.dst s)) : oneA P L o nid s K := by
  unfold oneW at h
  unfold oneA
  cases hg : o.guard with
  | none =>
    rw [hg] at h
    exact opW_opA h
  | some jw =>
    obtain ⟨j, want⟩ := jw
    rw [hg] at h
    simp only [dstVal_eq] at h ⊢
    have skip : (Fits o nid s ⟨.tup [], [], none⟩ ∧ K (Out.to ⟨.tup [], [], none⟩ nid o.dst s)) → s.putK o.dst (.tup []) K := fun h => putK_of h.1.1 (by simpa [Out.to, Out.objs, addObjs] using h.2)
    split at h
    · rename_i b hb
      simp only [hb]
      cases want with
      | true => exact splitB_mono h opW_opA skip
      | false => exact splitB_mono h skip opW_opA
    · rename_i l hb
      try simp only [hb]
      split at h
      · exact skip h
      · exact h.elim
    · exact h.elim

theorem Sim.WF {F : Nat → Prop} {w0 : Base} {gv : List Value} {s : St} {a : Act} {w : World} {hdr : Nat → Hdr} (h : Sim F w0 gv s a w hdr) : WF s := by
  refine ⟨fun t => VR.clo (c := s.ctx F w hdr) _ _ (h.env t), fun id o ho hb => ?_⟩
  obtain ⟨_, _, _, cs, _, _, k6⟩ := h.objs id o ho
  exact VL.clo (c := s.ctx F w hdr) _ _ (k6.box (box_kind hb)).1

theorem SimE.WF {F : Nat → Prop} {w0 : Base} {gv : List Value} {s : St} {a : Act} {w : World} (h : SimE F w0 gv s a w) : WF s := by
  obtain ⟨_, h⟩ := h
  exact h.WF

theorem wpAny_of_W {base : Nat} {Q : St → Prop} {Q' : Exit → Act → World → Prop} {F : Nat → Prop} {w0 : Base} {gv : List Value} (hq : ∀ s a w, Q s → SimE F w0 gv s a w → Q' .normal a w) :
    ∀ (fuel : Nat) (listed : Array Bool) (s : St) (a : Act) (w : World), SimE F w0 gv s a w → wpAnyW P L base Q fuel listed s → wpAny P .any L.toArray Q' fuel listed a w
  | 0, _, _, _, _, hs, h => ⟨h.1, hq _ _ _ h.2 hs⟩
  | fuel + 1, listed, s, a, w, hs, h => by
    refine ⟨fun h0 => hq _ _ _ (h.1 h0) hs, fun i hi => ?_⟩
    have hst := h.2 i hi
    unfold stepW at hst
    unfold wpOp
    cases hL : L[i]? with
    | none =>
      simp only [hL] at hst
      simp only [List.getElem?_toArray, hL]
      exact wpAny_of_W hq fuel _ _ _ _ hs hst
    | some o =>
      simp only [hL] at hst
      simp only [List.getElem?_toArray, hL]
      rcases wanted_of hs (oneW_oneA hst) with ⟨hw, ho⟩ | ⟨hw, hp⟩
      · rw [if_pos hw]
        exact .inl (opA_ok ho F w0 gv a w hs _ _ fun s' a' w' hk hs' => wpAny_of_W hq fuel _ _ _ _ hs' hk)
      · rw [if_neg (by rw [hw]; simp)]
        obtain ⟨s', hk, hs'⟩ := skip_ok hp hs
        exact wpAny_of_W hq fuel _ _ _ _ hs' hk

theorem SimE.drew {F : Nat → Prop} {w0 : Base} {gv : List Value} {s : St} {a : Act} {w : World} (h : SimE F w0 gv s a w) : SimE F w0 gv s a { w with drawn := w.drawn + 1 } := by
  obtain ⟨hdr, h⟩ := h
  refine ⟨hdr, ?_⟩
  have := h.grow (w' := { w with drawn := w.drawn + 1 }) (hdr' := hdr) (objs' := s.objs) ⟨rfl, rfl, rfl, Nat.le_refl _, fun _ _ => rfl⟩ (fun id o ho => ⟨ho, rfl⟩) (fun id o ho hn => by rw [hn] at ho; cases ho) (fun i j o o' b hi hj ni => by rw [ni] at hi; cases hi)
  exact this

theorem binA_form {op : BinOp} (ho : op = .add ∨ op = .sub) {T : TypeId} {x y : AV} {c : Option Prop} {v : AV} (h : binA P op T x y = some (c, v)) : (∃ k n, v = .int k n) ∨ ∃ l, v = .str l := by
  cases x <;> simp only [binA] at h <;> try (cases h; done)
  case int k a =>
    cases y <;> simp only at h <;> try (cases h; done)
    case int k' b =>
      rcases ho with rfl | rfl
      all_goals
        simp only at h
        split at h
        · rename_i hk
          subst hk
          simp only [intBin] at h
          cases h
          exact .inl ⟨_, _, rfl⟩
        · cases h
  case str l =>
    cases y <;> simp only at h <;> try (cases h; done)
    case str l' =>
      rcases ho with rfl | rfl <;> simp only [strBin] at h <;> first | (cases h; exact .inr ⟨_, rfl⟩) | cases h
  case bool b =>
    cases y <;> simp only at h <;> try (cases h; done)
    case bool b' =>
      rcases ho with rfl | rfl <;> simp only at h <;> (split at h <;> cases h)
  case agg cs =>
    cases y <;> simp only at h <;> try (cases h; done)
    case agg cs' =>
      rcases ho with rfl | rfl
      all_goals
        simp only at h
        split at h
        · split at h <;> cases h
        · cases h
  all_goals (rcases ho with rfl | rfl <;> (cases y <;> simp_all))
theorem eager_bin {op : BinOp} (ho : op = .add ∨ op = .sub) {T t : TypeId} {x y : Operand} {dst : Option Tmp} {type : TypeId} {pos : String} {after : Array Edge} {s : St} {c : Option Prop} {v : AV} (hb : binA P op T (s.val x) (s.val y) = some (c, v)) (hc : ∀ p, c = some p → p) {F : Nat → Prop} {w0 : Base} {gv : List Value} {a : Act} {w : World} {hdr : Nat → Hdr} (hs : Sim F w0 gv s a w hdr) :
    ∃ r, (∀ w', (execOp a.eval ⟨dst, .binOp op T x y t, type, pos, after, none⟩).run P w' = .ok (.value r) w') ∧ VR (s.ctx F w hdr) v r := by
  have key : ∀ w', ∃ r, (execOp a.eval ⟨dst, .binOp op T x y t, type, pos, after, none⟩).run P w' = .ok (.value r) w' ∧ VR (s.ctx F w hdr) v r := fun w' => by
    obtain ⟨r, h1, h2⟩ := binA_ok hb hc (hs.val x) (hs.val y) w' x y
    exact ⟨r, by simp only [execOp, Sem.run_bind] at h1 ⊢; rw [h1]; rfl, h2⟩
  obtain ⟨r, h1, h2⟩ := key w
  refine ⟨r, fun w' => ?_, h2⟩
  obtain ⟨r', h3, h4⟩ := key w'
  have e : r' = r := by
    rcases binA_form ho hb with ⟨k, n, rfl⟩ | ⟨l, rfl⟩
    · unfold VR at h2 h4; rw [h2, h4]
    · unfold VR at h2 h4; rw [h2, h4]
  rw [← e]
  exact h3

/-- An operation that is walked ahead of all others. -/
theorem eager_ok {o : Oper} {nid : Nat} {s : St} {K : St → Prop} (he : eagerOp o = true) (h : oneA P L o nid s K) {F : Nat → Prop} {w0 : Base} {gv : List Value} {a : Act} {w : World} (hs : SimE F w0 gv s a w) :
    ∃ v, Yields P L.toArray o v a ∧ ∃ s', K s' ∧ SimE F w0 gv s' (a.put o.dst v) w := by
  obtain ⟨hdr, hs⟩ := hs
  obtain ⟨dst, op, type, pos, after, guard⟩ := o
  unfold eagerOp at he
  cases guard with
  | some _ => simp at he
  | none =>
    simp only at he
    simp only [oneA] at h
    have hw : Region.wanted ⟨dst, op, type, pos, after, none⟩ (yielded L.toArray a.tmps) = true := by simp [Region.wanted]
    cases op <;> simp only at he <;> try (cases he; done)
    case move x =>
      simp only [opA] at h
      obtain ⟨k1, k2⟩ := putK_elim h
      exact ⟨a.eval x, .inl ⟨hw, fun w => by simp [execOp]⟩, _, k2, hdr, hs.put k1 (hs.val x)⟩
    case assign x =>
      simp only [opA] at h
      obtain ⟨k1, k2⟩ := putK_elim h
      exact ⟨a.eval x, .inl ⟨hw, fun w => by simp [execOp]⟩, _, k2, hdr, hs.put k1 (hs.val x)⟩
    case nilCheck x =>
      simp only [opA] at h
      have h1 := hs.val x
      have hrun : (∀ w', (execOp a.eval ⟨dst, .nilCheck x, type, pos, after, none⟩).run P w' = .ok (.value (a.eval x)) w') ∧ s.putK dst (s.val x) K := by
        generalize s.val x = p at h h1
        cases p <;> simp only at h <;> try (exact h.elim)
        · unfold VR RR at h1
          obtain ⟨_, _, e, _⟩ := h1
          exact ⟨fun w' => by simp [execOp, e], h⟩
        · unfold VR at h1
          obtain ⟨_, _, _, _, e⟩ := h1
          exact ⟨fun w' => by simp [execOp, e], h⟩
        · unfold VR at h1
          obtain ⟨_, e, _⟩ := h1
          exact ⟨fun w' => by simp [execOp, e], h⟩
      obtain ⟨k1, k2⟩ := putK_elim hrun.2
      exact ⟨a.eval x, .inl ⟨hw, hrun.1⟩, _, k2, hdr, hs.put k1 h1⟩
    case binOp op T x y t =>
      have ho : op = .add ∨ op = .sub := by cases op <;> simp at he <;> simp
      have hn : nilC op y = false := by rcases ho with rfl | rfl <;> rfl
      simp only [opA, hn] at h
      cases hb : binA P op T (s.val x) (s.val y) with
      | none => rw [hb] at h; exact h.elim
      | some cv =>
        obtain ⟨c, v⟩ := cv
        rw [hb] at h
        cases c with
        | none =>
          simp only at h
          obtain ⟨k1, k2⟩ := putK_elim (putN_elim h)
          obtain ⟨r, h1, h2⟩ := eager_bin (dst := dst) (t := t) (type := type) (pos := pos) (after := after) ho hb (fun p e => by cases e) hs
          exact ⟨r, .inl ⟨hw, h1⟩, _, k2, hdr, hs.put k1 h2⟩
        | some c =>
          simp only at h
          obtain ⟨k1, k2⟩ := putK_elim (putN_elim h.2)
          obtain ⟨r, h1, h2⟩ := eager_bin (dst := dst) (t := t) (type := type) (pos := pos) (after := after) ho hb (fun p e => by cases e; exact h.1) hs
          exact ⟨r, .inl ⟨hw, h1⟩, _, k2, hdr, hs.put k1 h2⟩
    case fieldAddr T x f =>
      simp only [opA] at h
      split at h
      · rename_i off t hf
        split at h
        · rename_i p hm
          obtain ⟨k1, k2⟩ := putK_elim h
          obtain ⟨b, o, h1, h2⟩ := moveP_ok (hs.val x) hm
          exact ⟨_, .inl ⟨hw, fun w => by simp [execOp, h1, run_fieldAt hf]⟩, _, k2, hdr, hs.put k1 h2⟩
        · exact h.elim
      · exact h.elim

theorem atA_ok {base : Nat} {i : Nat} {s : St} {K : St → Prop} (h : atA P L base i s K) {F : Nat → Prop} {w0 : Base} {gv : List Value} {a : Act} {w : World} (hs : SimE F w0 gv s a w) {Q : Exit → Act → World → Prop} {K' : Act → World → Prop}
    (hk : ∀ s' a' w', K s' → SimE F w0 gv s' a' w' → K' a' w') : wpOp P L.toArray Q i K' a w := by
  unfold atA at h
  unfold wpOp
  cases hL : L[i]? with
  | none => simp only [hL] at h
  | some o =>
    simp only [hL] at h
    simp only [List.getElem?_toArray, hL]
    rcases wanted_of hs h with ⟨hw, ho⟩ | ⟨hw, hp⟩
    · rw [if_pos hw]
      exact .inl (opA_ok ho F w0 gv a w hs _ _ fun s' a' w' hq hs' => hk _ _ _ hq hs')
    · rw [if_neg (by rw [hw]; simp)]
      obtain ⟨s', hq, hs'⟩ := skip_ok hp hs
      exact hk _ _ _ hq hs'

theorem expA_ok {base : Nat} {K : St → Prop} {Q : Act → World → Prop} {F : Nat → Prop} {w0 : Base} {gv : List Value} (hsel : Region.noSelect L.toArray = true) (hq : ∀ s a w, K s → SimE F w0 gv s a w → Q a w) : ∀ p : Plan,
    (∀ fuel listed s a w, p.ok L listed none = true → p.depth ≤ fuel → expA P L base K p s → SimE F w0 gv s a w → wpAny P .any L.toArray (fun e a w => e = .normal ∧ Q a w) fuel listed a w) ∧
    (∀ fuel listed rs s a w, p.ok L listed (some rs) = true → p.depth ≤ fuel + 1 → expA P L base K p s → SimE F w0 gv s a w → ∀ i ∈ rs, wpOp P L.toArray (fun e a w => e = .normal ∧ Q a w) i (wpAny P .any L.toArray (fun e a w => e = .normal ∧ Q a w) fuel (listed.setIfInBounds i true)) a w) := by
  intro p
  induction p with
  | done =>
    refine ⟨fun fuel listed s a w hok _ h hs => ?_, fun fuel listed rs s a w hok => by simp [Plan.ok] at hok⟩
    simp only [Plan.ok, List.isEmpty_iff] at hok
    exact wpAny_done hok ⟨rfl, hq _ _ _ h hs⟩ fuel
  | stop =>
    refine ⟨fun fuel listed s a w hok => by simp [Plan.ok] at hok, fun fuel listed rs s a w hok _ _ _ i hi => ?_⟩
    cases rs with
    | nil => cases hi
    | cons _ _ => simp [Plan.ok] at hok
  | take i p ih =>
    refine ⟨fun fuel listed s a w hok hd h hs => ?_, fun fuel listed rs s a w hok => by simp [Plan.ok] at hok⟩
    simp only [Plan.ok, Bool.and_eq_true] at hok
    obtain ⟨h1, h2, h3, h4⟩ := hok
    simp only [Plan.depth] at hd
    obtain ⟨fuel, rfl⟩ : ∃ f, fuel = f + 1 := ⟨fuel - 1, by omega⟩
    replace h : atA P L base i s (expA P L base K p) := h
    unfold atA at h
    cases hL : L[i]? with
    | none => simp only [hL] at h
    | some o =>
      simp only [hL] at h h1
      obtain ⟨v, hy, s', hk, hs'⟩ := eager_ok h1 h hs
      exact wpAny_take (by simpa using hL) hsel h2 h3 (fun c a w hp => by cases hp.1) hy (ih.1 fuel _ _ _ _ h4 (by omega) hk hs')
  | fork i p rest ih1 ih2 =>
    have key : ∀ fuel listed j rs s a w, (Nat.beq i j && (p.ok L (listed.setIfInBounds i true) none && rest.ok L listed (some rs))) = true → Nat.max (p.depth + 1) rest.depth ≤ fuel + 1 → expA P L base K (.fork i p rest) s → SimE F w0 gv s a w →
        ∀ k ∈ j :: rs, wpOp P L.toArray (fun e a w => e = .normal ∧ Q a w) k (wpAny P .any L.toArray (fun e a w => e = .normal ∧ Q a w) fuel (listed.setIfInBounds k true)) a w := by
      intro fuel listed j rs s a w hok hd h hs k hk
      simp only [Bool.and_eq_true] at hok
      obtain ⟨h1, h2, h3⟩ := hok
      have e := Nat.eq_of_beq_eq_true h1
      subst e
      replace h : bothB (atA P L base i s (expA P L base K p)) (expA P L base K rest s) := h
      obtain ⟨g1, g2⟩ := both_elim h
      have m1 : p.depth + 1 ≤ Nat.max (p.depth + 1) rest.depth := Nat.le_max_left _ _
      have m2 : rest.depth ≤ Nat.max (p.depth + 1) rest.depth := Nat.le_max_right _ _
      rcases List.mem_cons.1 hk with rfl | hk
      · exact atA_ok g1 hs fun s' a' w' hk' hs' => ih1.1 fuel _ _ _ _ h2 (by omega) hk' hs'
      · exact ih2.2 fuel listed rs s a w h3 (by omega) g2 hs k hk
    refine ⟨fun fuel listed s a w hok hd h hs => ?_, fun fuel listed rs s a w hok hd h hs => ?_⟩
    · simp only [Plan.ok] at hok
      simp only [Plan.depth] at hd
      have m1 : p.depth + 1 ≤ Nat.max (p.depth + 1) rest.depth := Nat.le_max_left _ _
      obtain ⟨fuel, rfl⟩ : ∃ f, fuel = f + 1 := ⟨fuel - 1, by omega⟩
      cases hr : Region.ready .any L.toArray listed with
      | nil => rw [hr] at hok; cases hok
      | cons j rs =>
        rw [hr] at hok
        exact wpAny_all hr (by simp) (key fuel listed j rs s a w hok hd h hs)
    · cases rs with
      | nil => simp [Plan.ok] at hok
      | cons j rs =>
        simp only [Plan.ok] at hok
        exact key fuel listed j rs s a w hok hd h hs

/-! The operations ahead of n in any order, the others one behind the other. -/
def wpAnyWL (P : Program) (L : List Oper) (base n : Nat) (Lq : Array Bool → St → Prop) : Nat → Array Bool → St → Prop
  | 0, listed, s => Lq listed s
  | f + 1, listed, s => Region.ready .any L.toArray listed ≠ [] ∧ ∀ i ∈ Region.ready .any L.toArray listed, i < n ∧ stepW P L base i (wpAnyWL P L base n Lq f (listed.setIfInBounds i true)) s

theorem MemOk.take {n i : Nat} {o : Oper} (hm : MemOk (L.take n)) (hin : i < n) (hi : L[i]? = some o) : memC o.op ≤ 2 ∧ (o.guard.isSome = true → memC o.op ≠ 2) :=
  hm i o (by rw [List.getElem?_take_of_lt hin]; exact hi)

theorem wpAnyWL_first {base n i : Nat} {oi : Oper} {ui : Out} {Lq : Array Bool → St → Prop} (hi : L[i]? = some oi) (hm : MemOk (L.take n))
    (hs : Region.sinkB .any L.toArray n = true) (hc : Region.chainB .any L.toArray n = true) (hn : n < L.toArray.size) (hin : i < n)
    (hdone : ∀ listed s, Lq listed s → ∀ j ∈ Region.ready .any L.toArray listed, n ≤ j) :
    ∀ (f : Nat) (listed : Array Bool) (s : St), HeadInv .any L.toArray n listed →
      (∀ j oj, L[j]? = some oj → j ≠ i → j < n → listed.getD j true = false → (∀ e ∈ oj.after, Region.binds .any e = true → e.on ≠ i) → oi.apart L.toArray oj = true ∧ compat (memC oi.op) (memC oj.op) = true) →
      i ∈ Region.ready .any L.toArray listed → WF s → YieldsW P L (base + 16 * i) oi ui s →
      wpAnyWL P L base n Lq f (listed.setIfInBounds i true) (ui.to (base + 16 * i) oi.dst s) → wpAnyWL P L base n Lq (f + 1) listed s := by
  have useY : ∀ {s : St} {K : St → Prop}, YieldsW P L (base + 16 * i) oi ui s → K (ui.to (base + 16 * i) oi.dst s) → stepW P L base i K s := by
    intro s K hy hk
    unfold stepW
    rw [hi]
    exact hy.1 _ ⟨hy.2.1, hk⟩
  have mono : ∀ {j : Nat} {oj : Oper} {K K' : St → Prop} {s : St}, j < n → L[j]? = some oj → (∀ s, K s → K' s) → stepW P L base j K s → stepW P L base j K' s := by
    intro j oj K K' s hjn hj h hh
    unfold stepW at hh ⊢
    simp only [hj] at hh ⊢
    obtain ⟨u, ⟨h1, h2⟩, h3, _⟩ := oneW_some (hm.take hjn hj).2 hh
    exact h3 _ ⟨h1, h _ h2⟩
  intro f
  induction f with
  | zero =>
    intro listed s inv _ hr hw hy H
    have hun := (mem_ready.1 hr).1
    refine ⟨fun h => (by rw [h] at hr; cases hr), fun j hj => ?_⟩
    have hjn : j < n := by
      rcases Nat.lt_or_ge j n with h | h
      · exact h
      · exact absurd hj (tail_waits hs hc hn inv _ i rfl hin hun j h)
    refine ⟨hjn, ?_⟩
    by_cases hji : j = i
    · subst hji; exact useY hy H
    · have := hdone _ _ H j (ready_mono hj hji)
      omega
  | succ f ih =>
    intro listed s inv hfree hr hw hy H
    have hun := (mem_ready.1 hr).1
    refine ⟨fun h => (by rw [h] at hr; cases hr), fun j hj => ?_⟩
    have hjn : j < n := by
      rcases Nat.lt_or_ge j n with h | h
      · exact h
      · exact absurd hj (tail_waits hs hc hn inv _ i rfl hin hun j h)
    refine ⟨hjn, ?_⟩
    by_cases hji : j = i
    · subst hji; exact useY hy H
    · have h1 := (H.2 j (ready_mono hj hji)).2
      obtain ⟨hjun, oj, hoj, hall⟩ := mem_ready.1 hj
      have hoj' : L[j]? = some oj := by simpa using hoj
      have hnot : ∀ e ∈ oj.after, Region.binds .any e = true → e.on ≠ i := fun e he hb heq => by
        have h1 := hall e he hb
        have h0 := hun
        rw [heq] at h1
        rcases Nat.lt_or_ge i listed.size with h' | h'
        · simp [h'] at h0 h1; rw [h0] at h1; cases h1
        · simp [Array.getElem?_eq_none h'] at h1
      obtain ⟨hap, hcp⟩ := hfree j oj hoj' hji hjn hjun hnot
      have h2 := stepW_put hi hoj' (Ne.symm hji) hap hcp (hm.take hin hi).1 (hm.take hjn hoj').1 (hm.take hjn hoj').2 hw hy h1
      have hfree' : ∀ k ok, L[k]? = some ok → k ≠ i → k < n → (listed.setIfInBounds j true).getD k true = false →
          (∀ e ∈ ok.after, Region.binds .any e = true → e.on ≠ i) → oi.apart L.toArray ok = true ∧ compat (memC oi.op) (memC ok.op) = true := fun k ok hk hki hkn hun hno => by
        refine hfree k ok hk hki hkn ?_ hno
        by_cases hjk : j = k
        · subst hjk; exact hjun
        · rw [getD_set_ne true hjk] at hun; exact hun
      refine mono hjn hoj' (fun s' h3 => ih (listed.setIfInBounds j true) s' (inv.set hj hjn) hfree' (ready_mono hr (Ne.symm hji)) h3.1.2 h3.1.1 ?_) h2
      rw [Array.setIfInBounds_comm _ _ hji]
      exact h3.2

theorem wpAnyWL_lex {base n g : Nat} {Lq : St → Prop} (hm : MemOk (L.take n)) (hp : memPairs (L.take n) = true) (hs : Region.sinkB .any L.toArray n = true) (hc : Region.chainB .any L.toArray n = true) (hn : n < L.toArray.size) :
    ∀ (l : List Oper) (k : Nat) (listed : Array Bool) (s : St), (∀ j, j < l.length → l[j]? = L[k + j]?) → k + l.length = n → (∀ j, j < k → j < L.length → listed.getD j true = true) → listed.size = L.length → HeadInv .any L.toArray n listed →
    Region.lexHead .any L.toArray g l.length k listed = true → WF s → textW P L base Lq l k s →
    wpAnyWL P L base n (fun listed' s' => Region.seqB .any L.toArray g n listed' = true ∧ Lq s') l.length listed s
  | [], k, listed, s, _, hk, _, _, _, hB, _, h => by
    have : k = n := by simpa using hk
    subst this
    exact ⟨by simpa [Region.lexHead] using hB, h⟩
  | o :: l, k, listed, s, hl, hk, hlow, hsz, inv, hB, hw, h => by
    have h0 : L[k]? = some o := by simpa using (hl 0 (by simp)).symm
    have hkl := (List.getElem?_eq_some_iff.1 h0).1
    simp only [List.length_cons, Region.lexHead, Bool.and_eq_true] at hB
    obtain ⟨⟨hr, hf⟩, hB'⟩ := hB
    have hkn : k < n := by simp only [List.length_cons] at hk; omega
    have hr' : k ∈ Region.ready .any L.toArray listed := by simpa using hr
    rw [textW_cons] at h
    obtain ⟨u, hu, hall, hok⟩ := oneW_some (hm.take hkn h0).2 h
    split at hu
    · rename_i hfit
      rw [Out.toK_eq] at hu
      have hF := fitsB_spec hfit
      refine wpAnyWL_first h0 hm hs hc hn hkn (fun listed' s' hL => seqB_ready hL.1) l.length listed s inv (fun j oj hj hne hjn hun hno => ⟨Region.free_spec (by simpa using h0) hf j oj (by simpa using hj) hne hun hno, ?_⟩) hr' hw ⟨hall, hF, hok⟩ ?_
      · have hlj := (List.getElem?_eq_some_iff.1 hj).1
        refine memPairs_spec hp (i := k) (j := j) (by rw [List.getElem?_take_of_lt hkn]; exact h0) (by rw [List.getElem?_take_of_lt hjn]; exact hj) ?_ hno
        rcases Nat.lt_trichotomy j k with hlt | rfl | hgt
        · rw [hlow j hlt hlj] at hun; cases hun
        · exact absurd rfl hne
        · exact hgt
      · refine wpAnyWL_lex hm hp hs hc hn l (k + 1) _ _ (fun j hj => by have := hl (j + 1) (by simp; omega); simpa [Nat.add_assoc, Nat.add_comm 1 j] using this) (by simp only [List.length_cons] at hk; omega) (fun j hj hjl => ?_) (by simpa using hsz) (inv.set hr' hkn) hB' (hw.to (hm.take hkn h0).1 hok hF.2.1) hu
        by_cases hjk : k = j
        · subst hjk; simp [hsz, hjl]
        · rw [getD_set_ne true hjk]; exact hlow j (by omega) hjl
    · exact hu.elim

theorem wpAny_of_WL {base n g : Nat} {Lq : Array Bool → St → Prop} {Q' : Exit → Act → World → Prop} {F : Nat → Prop} {w0 : Base} {gv : List Value} (hq : ∀ listed s a w, Lq listed s → SimE F w0 gv s a w → wpAny P .any L.toArray Q' g listed a w) :
    ∀ (f : Nat) (listed : Array Bool) (s : St) (a : Act) (w : World), SimE F w0 gv s a w → wpAnyWL P L base n Lq f listed s → wpAny P .any L.toArray Q' (f + g) listed a w
  | 0, listed, s, a, w, hs, h => by rw [Nat.zero_add]; exact hq _ _ _ _ h hs
  | f + 1, listed, s, a, w, hs, h => by
    rw [show f + 1 + g = (f + g) + 1 by omega]
    refine ⟨fun h0 => absurd h0 h.1, fun i hi => ?_⟩
    have hst := (h.2 i hi).2
    unfold stepW at hst
    unfold wpOp
    cases hL : L[i]? with
    | none =>
      simp only [hL] at hst
      simp only [List.getElem?_toArray, hL]
      exact wpAny_of_WL hq f _ _ _ _ hs hst
    | some o =>
      simp only [hL] at hst
      simp only [List.getElem?_toArray, hL]
      rcases wanted_of hs (oneW_oneA hst) with ⟨hw, ho⟩ | ⟨hw, hp⟩
      · rw [if_pos hw]
        exact .inl (opA_ok ho F w0 gv a w hs _ _ fun s' a' w' hk hs' => wpAny_of_WL hq f _ _ _ _ hs' hk)
      · rw [if_neg (by rw [hw]; simp)]
        obtain ⟨s', hk, hs'⟩ := skip_ok hp hs
        exact wpAny_of_WL hq f _ _ _ _ hs' hk

theorem drawTail_ok {base n : Nat} {s : St} {K : St → Prop} (hB : Region.lexTailB .any L.toArray n = true) (hm : memOne (L.take n) = true) (hp : memPairs (L.take n) = true)
    (h : textW P L base (fun s => opsA P L base (L.drop n) n s K) (L.take n) 0 s) {F : Nat → Prop} {w0 : Base} {gv : List Value} {a : Act} {w : World} (hs : SimE F w0 gv s a w) {Q : Exit → Act → World → Prop}
    (hq : ∀ s' a' w', K s' → SimE F w0 gv s' a' w' → Q .normal a' w') : wpAny P .any L.toArray Q L.toArray.size (Array.replicate L.toArray.size false) a w := by
  simp only [Region.lexTailB, Bool.and_eq_true, decide_eq_true_eq] at hB
  obtain ⟨⟨⟨⟨hsel, hn⟩, hsk⟩, hc⟩, hlex⟩ := hB
  have hn' : n < L.length := by simpa using hn
  have htl : (L.take n).length = n := by simp; omega
  have hdl : (L.drop n).length = L.toArray.size - n := by simp
  have inv0 : HeadInv .any L.toArray n (Array.replicate L.toArray.size false) :=
    ⟨by simp, fun j oj _ hl => (by rw [getD_replicate_false] at hl; cases hl), fun t _ ht => getD_in (by simpa using ht) (getD_replicate_false _ _)⟩
  have H := wpAnyWL_lex (g := L.toArray.size - n) (memOne_spec hm) hp hsk hc hn (L.take n) 0 _ s (fun j hj => by
    have hj' : j < n := by rw [htl] at hj; exact hj
    simp [hj']) (by simpa using htl) (fun j hj _ => by omega) (by simp) inv0 (by rw [htl]; exact hlex) hs.WF h
  have := wpAny_of_WL (Q' := Q) (g := L.toArray.size - n) (fun listed s' a' w' hL hs' => by
    have := wpAny_of_seq (md := .any) (Q' := Q) (L.drop n) n listed a' w' (fun j => by simp [List.getElem?_drop]) (by rw [hdl]; exact hL.1) (opsA_ok _ _ _ _ hL.2 F w0 gv a' w' hs' hq)
    rwa [hdl] at this) _ _ _ _ _ hs H
  rw [htl, show n + (L.toArray.size - n) = L.toArray.size by omega] at this
  exact this

theorem drawA_ok {base : Nat} {ops : Array Oper} {id : Nat} {s : St} {K : St → Prop} (h : drawA P base ops.toList s K) {F : Nat → Prop} {w0 : Base} {gv : List Value} {a : Act} {w : World} (hs : SimE F w0 gv s a w) {Q : Exit → Act → World → Prop}
    (hq : ∀ s' a' w', K s' → SimE F w0 gv s' a' w' → Q .normal a' w') : (Code.region id ops true).wp P Q a w := by
  unfold drawA at h
  rcases h with ⟨⟨h1, h2, h3⟩, h4⟩ | ⟨p, ⟨h1, h2, h3⟩, h4⟩ | ⟨n, ⟨h1, h2, h3⟩, h4⟩
  · simp only [Bool.and_eq_true] at h3
    simp only [Region.lexB, Bool.and_eq_true] at h2
    refine wp_region_any h1 ?_
    have hlex := wpAnyW_lex (P := P) (base := base) (memOne_spec h3.1) h3.2 ops.toList 0 (Array.replicate ops.size false) s (by simp) (fun j hj _ => by omega) (by simpa using h2.2) (by simp) hs.WF h4
    have := wpAny_of_W (P := P) (L := ops.toList) (base := base) (Q := K) (Q' := Q) hq _ _ _ _ _ hs.drew hlex
    simpa using this
  · simp only [Bool.and_eq_true] at h3
    refine Code.wp_mono (Q := fun e a w => e = .normal ∧ Q .normal a w) (fun e a w h => by rw [h.1]; exact h.2) (wp_region_any h1 ?_)
    have := (expA_ok (P := P) (L := ops.toList) (base := base) (K := K) (Q := fun a w => Q .normal a w) h2 (fun s a w hk hs => hq s a w hk hs) p).1 ops.size (Array.replicate ops.size false) s a { w with drawn := w.drawn + 1 } (by simpa using h3.2) (by have := Nat.le_of_ble_eq_true h3.1; simpa using this) h4 hs.drew
    simpa using this
  · simp only [Bool.and_eq_true] at h3
    refine wp_region_any h1 ?_
    have := drawTail_ok (P := P) (L := ops.toList) (by simpa using h2) h3.1 h3.2 h4 hs.drew (Q := Q) hq
    simpa using this

end
end Go.Ab
