/-
  Code on abstract states is sound; a function's contract out of its code.
  No condition: lemmas over any program.
-/
import Derived.Test.YtcdlapjpnenkdaaGreatAb13b
import Derived.Laws.StandIn
namespace Go.Ab
open Go.RowKit

theorem codeA_ok {P : Program} : ∀ (c : Code) (K : Exit → St → Prop) (s : St), codeA P c K s → ∀ F w0 gv a w, SimE F w0 gv s a w → ∀ Q : Exit → Act → World → Prop,
    (∀ e s' a' w', K e s' → SimE F w0 gv s' a' w' → Q e a' w') → c.wp P Q a w := by
  intro c
  induction c with
  | skip =>
    intro K s h F w0 gv a w hs Q hq
    rw [codeA_skip] at h
    exact wp_skip (hq _ _ _ _ h hs)
  | region id ops draw =>
    intro K s h F w0 gv a w hs Q hq
    rw [codeA_region] at h
    cases draw with
    | false =>
      simp only at h
      refine wp_region_list ?_
      have := opsA_ok (L := ops.toList) (Q := Q) ops.toList 0 _ (K .normal) h F w0 gv a w hs (fun s' a' w' hk hs' => hq _ _ _ _ hk hs')
      simpa using this
    | true =>
      simp only at h
      exact drawA_ok h hs (fun s' a' w' hk hs' => hq _ _ _ _ hk hs')
  | seq x y ihx ihy =>
    intro K s h F w0 gv a w hs Q hq
    rw [codeA_seq] at h
    refine wp_seq (ihx _ _ h F w0 gv a w hs _ ?_)
    intro e s' a' w' hk hs'
    cases e <;> simp only at hk
    case normal => exact ihy _ _ hk F w0 gv a' w' hs' Q hq
    all_goals exact hq _ _ _ _ hk hs'
  | cond c x y ihx ihy =>
    intro K s h F w0 gv a w hs Q hq
    rw [codeA_cond] at h
    split at h
    · rename_i t hc
      have h := splitB_elim h
      have hv : a.eval c = .bool t := by
        obtain ⟨hdr, hsim⟩ := hs
        have := hsim.val c
        rw [hc] at this
        unfold VR at this
        exact this
      exact wp_cond_split hv (fun e => ihx _ _ (h.1 e) F w0 gv a w hs Q hq) (fun e => ihy _ _ (h.2 e) F w0 gv a w hs Q hq)
    · exact h.elim
  | block id x ih =>
    intro K s h F w0 gv a w hs Q hq
    rw [codeA_block] at h
    refine wp_block (ih _ _ h F w0 gv a w hs _ ?_)
    intro e s' a' w' hk hs'
    cases e <;> simp only at hk
    case exit id' =>
      simp only [Exit.inBlock]
      split at hk
      · rename_i e; rw [if_pos e]; exact hq _ _ _ _ hk hs'
      · rename_i e; rw [if_neg e]; exact hq _ _ _ _ hk hs'
    all_goals exact hq _ _ _ _ hk hs'
  | loop x ih =>
    intro K s h F w0 gv a w hs Q hq
    rw [codeA_loop] at h
    unfold Loop at h
    obtain ⟨J, I, m, j0, h0, hr⟩ := h
    have key : ∀ n j, m j < n → ∀ a w, SimE F w0 gv (I j) a w → Code.rounds P x Q n a w := by
      intro n
      induction n with
      | zero => intro j hj; omega
      | succ n ihn =>
        intro j hj a w hs
        rw [rounds_succ]
        refine ih _ _ (hr j) F w0 gv a w hs _ ?_
        intro e s' a' w' hk hs'
        cases e <;> simp only at hk
        case normal =>
          obtain ⟨j', hm, hle⟩ := hk
          exact ihn j' (by omega) a' w' (hle F w0 gv a' w' hs')
        all_goals exact hq _ _ _ _ hk hs'
    exact wp_loop_rounds (m j0 + 1) (key _ j0 (by omega) a w (h0 F w0 gv a w hs))
  | exit id =>
    intro K s h F w0 gv a w hs Q hq
    rw [codeA_exit] at h
    exact wp_exit (hq _ _ _ _ h hs)
  | ret =>
    intro K s h F w0 gv a w hs Q hq
    rw [codeA_ret] at h
    exact wp_ret (hq _ _ _ _ h hs)
  | _ =>
    intro K s h
    first | (rw [codeA_rangeFunc] at h; exact h.elim) | (rw [codeA_scope] at h; exact h.elim) | (rw [codeA_label] at h; exact h.elim) | (rw [codeA_goto] at h; exact h.elim) | (rw [codeA_refuse] at h; exact h.elim)

/-! Functions. -/
def start (args : List AV) (n : Nat) : St := ⟨fun t => args.getD t .any, args.length + (n - args.length), fun _ => none, 0, []⟩

def forceO (v : AV) : Option AV :=
  match v with
  | .any => some .any
  | .int k n => some (.int k n)
  | .bool b => some (.bool b)
  | .str l => some (.str l)
  | .nil => some .nil
  | .sl xs => some (.sl xs)
  | .rp cs => some (.rp cs)
  | .own id => some (.own id)
  | .ptr id x y => some (.ptr id x y)
  | .agg cs => some (.agg cs)
  | .tup cs => some (.tup cs)
  | .fn f cs => some (.fn f cs)
theorem forceO_eq (v : AV) : forceO v = some v := by cases v <;> rfl

def resOne (P : Program) (s : St) : ResultVar → Option AV
  | .tmp t => forceO (s.env t)
  | .cell t T =>
    match s.cellsAt (s.env t) with
    | some cs => takeA P T cs
    | none => none
def resMany (P : Program) (s : St) : List ResultVar → Option (List AV)
  | [] => some []
  | r :: rs =>
    match resOne P s r with
    | some v =>
      match resMany P s rs with
      | some vs => some (v :: vs)
      | none => none
    | none => none
def resA (P : Program) (s : St) (rs : List ResultVar) : Option AV :=
  match rs with
  | [r] => resOne P s r
  | rs =>
    match resMany P s rs with
    | some vs => some (.tup vs)
    | none => none

/-- Cells without anything that is only read. -/
def AV.flat : AV → Bool
  | .int _ _ | .bool _ | .str _ | .nil => true
  | _ => false

/-- The result, its objects named anew from 0. -/
def named (ρ : List Nat) (r : AV) : AV := r.sub (fun k => .own (ρ.getD k 0)) (fun k x y => .ptr (ρ.getD k 0) x y)

def noDup : List Nat → Bool
  | [] => true
  | x :: xs => !xs.contains x && noDup xs

@[irreducible] def OutA (P : Program) (sh : Bool) (rs : List ResultVar) (r : AV) (os : List AObj) (s : St) : Prop :=
  ∃ s', s.le s' ∧ ∃ ρ : List Nat, (ρ.length = os.length ∧ noDup ρ = true ∧ r.fine sh os.length = true) ∧ resA P s' rs = some (named ρ r) ∧ (∀ k o, os[k]? = some o → s'.objs (ρ.getD k 0) = some o ∧ o.box = false) ∧
    (sh = true ∨ ∀ o ∈ os, o.elems.flatten.all AV.flat = true)

section
variable {c c1 : Ctx} {ρ : List Nat} {sh : Bool} {n : Nat}
mutual
theorem VR.unname (hR : sh = true → ∀ x v, RR c.w c.ro x v → RR c1.w c1.ro x v) (ho : ∀ k, k < n → (c1.objs k).isSome = true ∧ c1.hdr k = c.hdr (ρ.getD k 0)) :
    ∀ (a : AV) (v : Value), a.fine sh n = true → VR c (a.sub (fun k => .own (ρ.getD k 0)) (fun k x y => .ptr (ρ.getD k 0) x y)) v → VR c1 a v
  | .own k, v, hf, h => by
    unfold AV.fine at hf
    unfold AV.sub at h
    unfold VR at h ⊢
    obtain ⟨h1, h2⟩ := ho k (by simpa using hf)
    exact ⟨h1, by rw [h2]; exact h.2⟩
  | .ptr _ _ _, _, hf, _ => by unfold AV.fine at hf; cases hf
  | .any, _, hf, _ => by unfold AV.fine at hf; cases hf
  | .agg cs, _, hf, h => by
    unfold AV.fine at hf
    unfold AV.sub at h
    unfold VR at h ⊢
    obtain ⟨vs, h1, h2⟩ := h
    exact ⟨vs, h1, VL.unname hR ho cs _ hf h2⟩
  | .tup cs, _, hf, h => by
    unfold AV.fine at hf
    unfold AV.sub at h
    unfold VR at h ⊢
    obtain ⟨vs, h1, h2⟩ := h
    exact ⟨vs, h1, VL.unname hR ho cs _ hf h2⟩
  | .fn _ cs, _, hf, h => by
    unfold AV.fine at hf
    unfold AV.sub at h
    unfold VR at h ⊢
    obtain ⟨vs, h1, h2⟩ := h
    exact ⟨vs, h1, VL.unname hR ho cs _ hf h2⟩
  | .int .., _, _, h => by unfold AV.sub at h; unfold VR at h ⊢; exact h
  | .bool _, _, _, h => by unfold AV.sub at h; unfold VR at h ⊢; exact h
  | .str _, _, _, h => by unfold AV.sub at h; unfold VR at h ⊢; exact h
  | .nil, _, _, h => by unfold AV.sub at h; unfold VR at h ⊢; exact h
  | .sl _, _, hf, h => by unfold AV.fine at hf; unfold AV.sub at h; unfold VR at h ⊢; exact hR hf _ _ h
  | .rp _, _, hf, h => by unfold AV.fine at hf; unfold AV.sub at h; unfold VR at h ⊢; exact hR hf _ _ h
theorem VL.unname (hR : sh = true → ∀ x v, RR c.w c.ro x v → RR c1.w c1.ro x v) (ho : ∀ k, k < n → (c1.objs k).isSome = true ∧ c1.hdr k = c.hdr (ρ.getD k 0)) :
    ∀ (as : List AV) (vs : List Value), fineL sh n as = true → VL c (AV.sub.subL (fun k => .own (ρ.getD k 0)) (fun k x y => .ptr (ρ.getD k 0) x y) as) vs → VL c1 as vs
  | [], [], _, _ => VL.nil
  | a :: as, v :: vs, hf, h => by
    unfold fineL at hf
    simp only [Bool.and_eq_true] at hf
    unfold AV.sub.subL VL at h
    exact VL.cons (VR.unname hR ho a v hf.1 h.1) (VL.unname hR ho as vs hf.2 h.2)
  | [], _ :: _, _, h => by unfold AV.sub.subL VL at h; exact h.elim
  | _ :: _, [], _, h => by unfold AV.sub.subL VL at h; exact h.elim
end
end

theorem flat_RR {w w' : World} {ro ro' : Nat → Prop} : ∀ {as : List AV} {vs : List Value}, as.all AV.flat = true → LR w ro as vs → LR w' ro' as vs
  | [], [], _, _ => by unfold LR; trivial
  | a :: as, v :: vs, hf, h => by
    simp only [List.all_cons, Bool.and_eq_true] at hf
    unfold LR at h ⊢
    refine ⟨?_, flat_RR hf.2 h.2⟩
    have h1 := h.1
    have h2 := hf.1
    cases a <;> simp [AV.flat] at h2 <;> unfold RR at h1 ⊢ <;> exact h1
  | [], _ :: _, _, h => by unfold LR at h; exact h.elim
  | _ :: _, [], _, h => by unfold LR at h; exact h.elim

theorem noDup_inj : ∀ {ρ : List Nat}, noDup ρ = true → ∀ i j, i < ρ.length → j < ρ.length → ρ.getD i 0 = ρ.getD j 0 → i = j
  | [], _, i, j, hi, _, _ => by simp at hi
  | x :: xs, h, i, j, hi, hj, e => by
    simp only [noDup, Bool.and_eq_true, Bool.not_eq_true'] at h
    have hx : x ∉ xs := by simpa using h.1
    cases i with
    | zero =>
      cases j with
      | zero => rfl
      | succ j =>
        exfalso
        simp only [List.getD_cons_zero, List.getD_cons_succ] at e
        have hj' : j < xs.length := by simpa using hj
        have : xs.getD j 0 ∈ xs := by simp [List.getD_eq_getElem?_getD, hj']
        rw [← e] at this
        exact hx this
    | succ i =>
      cases j with
      | zero =>
        exfalso
        simp only [List.getD_cons_zero, List.getD_cons_succ] at e
        have hi' : i < xs.length := by simpa using hi
        have : xs.getD i 0 ∈ xs := by simp [List.getD_eq_getElem?_getD, hi']
        rw [e] at this
        exact hx this
      | succ j =>
        simp only [List.getD_cons_succ] at e
        rw [noDup_inj h.2 i j (by simpa using hi) (by simpa using hj) e]

section
variable {P : Program} {F : Nat → Prop} {w0 : World} {gv : List Value} {s : St} {a : Act} {w : World} {hdr : Nat → Value}

def resSem (tmps : Array Value) : ResultVar → Sem Value
  | .tmp t => pure (tmps.getD t undef)
  | .cell a t => do loadVar t (← asAddr (tmps.getD a undef))

theorem results_eq (fn : Func) (tmps : Array Value) : results fn tmps = (do
    let vs ← List.toArray <$> fn.results.toList.mapM (resSem tmps)
    pure (if h : vs.size = 1 then vs[0] else .tuple vs)) := by
  rw [← Array.mapM_eq_mapM_toList]
  rfl

theorem resOne_ok (h : Sim F w0 gv s a w hdr) {r : ResultVar} {v : AV} (hr : resOne P s r = some v) :
    ∃ u, (resSem a.tmps r).run P w = .ok u w ∧ VR (s.ctx F w hdr) v u := by
  cases r with
  | tmp t =>
    simp only [resOne, forceO_eq, Option.some.injEq] at hr
    subst hr
    exact ⟨a.eval (.tmp t), by simp only [resSem, Sem.run_pure]; rfl, h.env t⟩
  | cell x T =>
    simp only [resOne] at hr
    split at hr
    · rename_i cs hc
      obtain ⟨u, h1, h2⟩ := h.load (P := P) (h.env x) hc hr
      obtain ⟨b, o, vs, e1, _, _⟩ := h.cellsAt (h.env x) hc
      refine ⟨u, ?_, h2⟩
      have e2 : a.tmps.getD x undef = .pointer (some ⟨b, o, none⟩) := e1
      rw [e1] at h1
      simp only [Instr.loadAt, Instr.sureAddr, Sem.run_bind, Sem.run_pure, Result.andThen_ok] at h1
      simp only [resSem, e2, asAddr, Sem.run_bind, Sem.run_pure, Result.andThen_ok]
      exact h1
    · cases hr

theorem resMany_ok (h : Sim F w0 gv s a w hdr) : ∀ {rs : List ResultVar} {vs : List AV}, resMany P s rs = some vs →
    ∃ us, (rs.mapM (resSem a.tmps)).run P w = .ok us w ∧ VL (s.ctx F w hdr) vs us
  | [], vs, hr => by
    simp only [resMany, Option.some.injEq] at hr
    subst hr
    exact ⟨[], by simp, VL.nil⟩
  | r :: rs, vs, hr => by
    simp only [resMany] at hr
    cases h1 : resOne P s r with
    | none => simp [h1] at hr
    | some v =>
      cases h2 : resMany P s rs with
      | none => simp [h1, h2] at hr
      | some vs' =>
        simp only [h1, h2, Option.some.injEq] at hr
        subst hr
        obtain ⟨u, q1, q2⟩ := resOne_ok h h1
        obtain ⟨us, q3, q4⟩ := resMany_ok h h2
        refine ⟨u :: us, ?_, VL.cons q2 q4⟩
        rw [List.mapM_cons]
        simp only [Sem.run_bind, q1, Result.andThen_ok, q3, Sem.run_pure]

theorem resA_ok (h : Sim F w0 gv s a w hdr) {fn : Func} {v : AV} (hr : resA P s fn.results.toList = some v) : ∃ u, (results fn a.tmps).run P w = .ok u w ∧ VR (s.ctx F w hdr) v u := by
  rw [results_eq]
  unfold resA at hr
  split at hr
  · rename_i r e
    obtain ⟨u, q1, q2⟩ := resOne_ok h hr
    refine ⟨u, ?_, q2⟩
    rw [e]
    simp [q1]
  · rename_i rs hne
    cases hm : resMany P s fn.results.toList with
    | none => simp [hm] at hr
    | some vs =>
      simp only [hm, Option.some.injEq] at hr
      subst hr
      obtain ⟨us, q1, q2⟩ := resMany_ok h hm
      have hl : us.length ≠ 1 := by
        intro e
        have h1 : vs.length = 1 := by rw [q2.length, e]
        have h2 : ∀ {l : List ResultVar} {vs : List AV}, resMany P s l = some vs → l.length = vs.length := by
          intro l
          induction l with
          | nil => intro vs hv; simp only [resMany, Option.some.injEq] at hv; subst hv; rfl
          | cons r l ih =>
            intro vs hv
            simp only [resMany] at hv
            cases k1 : resOne P s r with
            | none => simp [k1] at hv
            | some v =>
              cases k2 : resMany P s l with
              | none => simp [k1, k2] at hv
              | some vs' =>
                simp only [k1, k2, Option.some.injEq] at hv
                subst hv
                simp [ih k2]
        have h3 := h2 hm
        rw [h1] at h3
        match hL : fn.results.toList, h3 with
        | [r], _ => exact hne r hL
      refine ⟨.tuple us.toArray, ?_, by unfold VR; exact ⟨us.toArray, rfl, by simpa using q2⟩⟩
      simp [q1, hl]

end

/-- New objects laid. -/
def addK (s : St) (nid : Nat) (os : List AObj) (K : St → Prop) : Prop :=
  match s with
  | ⟨e, z, o, n, g⟩ => K ⟨e, z, addObjs nid os o, n, g⟩

theorem CallF {P : Program} {f : Nat} {args args' : List AV} {s : St} {nid : Nat} {d : Option Nat} {K : St → Prop} {r : AV} {os : List AObj} (hpc : PC P false f args' r os) (he : args.map (rf s) = args') (hk : args.all (known s) = true) (hf : freeFrom nid os s.objs = true) (hl : os.length ≤ 16)
    (h : addK s nid os fun s' => s'.putN d (r.shift nid) K) : CallA P f args s nid d K := by
  unfold CallA
  exact .inr ⟨false, r, os, by rw [he]; exact hpc, (fun e => by cases e), ⟨hf, hl⟩, hk, h⟩

theorem CallT {P : Program} {f : Nat} {args args' : List AV} {s : St} {nid : Nat} {d : Option Nat} {K : St → Prop} {r : AV} {os : List AObj} (hpc : PC P true f args' r os) (he : args.map (rf s) = args') (hk : args.all (known s) = true) (hs : args.all AV.ro2 = true) (hf : freeFrom nid os s.objs = true) (hl : os.length ≤ 16)
    (h : addK s nid os fun s' => s'.putN d (r.shift nid) K) : CallA P f args s nid d K := by
  unfold CallA
  exact .inr ⟨true, r, os, by rw [he]; exact hpc, fun _ => hs, ⟨hf, hl⟩, hk, h⟩

/-- A call that makes no object. -/
theorem Call0 {P : Program} {f : Nat} {args args' : List AV} {s : St} {nid : Nat} {d : Option Nat} {K : St → Prop} {r : AV} (hpc : PC P false f args' r []) (he : args.map (rf s) = args') (hk : args.all (known s) = true)
    (h : s.putN d (r.shift nid) K) : CallA P f args s nid d K := CallF hpc he hk rfl (by simp) h

theorem OutA_plain {P : Program} {sh : Bool} {rs : List ResultVar} {r v : AV} {s : St} (h : resA P s rs = some v) (hf : r.fine sh 0 = true) (hv : v = named [] r) : OutA P sh rs r [] s := by
  unfold OutA
  exact ⟨s, St.le_refl s, [], ⟨rfl, rfl, hf⟩, by rw [h, hv], fun k o hk => by simp at hk, .inr (fun o ho => by simp at ho)⟩

theorem OutA_objs {P : Program} {sh : Bool} {rs : List ResultVar} {r v : AV} {os : List AObj} {s : St} (ρ : List Nat) (h : resA P s rs = some v) (hl : ρ.length = os.length) (hn : noDup ρ = true) (hf : r.fine sh os.length = true) (hv : v = named ρ r)
    (ho : ∀ k o, os[k]? = some o → s.objs (ρ.getD k 0) = some o ∧ o.box = false) (hs : sh = true ∨ ∀ o ∈ os, o.elems.flatten.all AV.flat = true) : OutA P sh rs r os s := by
  unfold OutA
  exact ⟨s, St.le_refl s, ρ, ⟨hl, hn, hf⟩, by rw [h, hv], ho, hs⟩

theorem OutA_le {P : Program} {sh : Bool} {rs : List ResultVar} {r : AV} {os : List AObj} {s s' : St} (hle : s.le s') (h : OutA P sh rs r os s') : OutA P sh rs r os s := by
  unfold OutA at h ⊢
  obtain ⟨s'', h1, h2⟩ := h
  exact ⟨s'', St.le_trans hle h1, h2⟩

/-- The objects that a result names, in their order. -/
def AV.ids : AV → List Nat
  | .own k => [k]
  | .agg cs => idsL cs
  | .tup cs => idsL cs
  | _ => []
where idsL : List AV → List Nat
  | [] => []
  | a :: as => a.ids ++ idsL as

def ObjsAt (s : St) : List Nat → List AObj → Prop
  | [], [] => True
  | id :: ids, o :: os => (∃ ty esz es, s.objs id = some ⟨false, ty, esz, es⟩ ∧ o = ⟨false, ty, esz, es⟩) ∧ ObjsAt s ids os
  | _, _ => False

theorem ObjsAt_get {s : St} : ∀ {ρ : List Nat} {os : List AObj}, ObjsAt s ρ os → ρ.length = os.length ∧ ∀ k o, os[k]? = some o → s.objs (ρ.getD k 0) = some o ∧ o.box = false
  | [], [], _ => ⟨rfl, fun k o h => by simp at h⟩
  | id :: ids, o :: os, h => by
    unfold ObjsAt at h
    obtain ⟨⟨ty, esz, es, h1, rfl⟩, h2⟩ := h
    obtain ⟨e1, e2⟩ := ObjsAt_get h2
    refine ⟨by simp [e1], fun k o hk => ?_⟩
    cases k with
    | zero => simp at hk; subst hk; exact ⟨by simpa using h1, rfl⟩
    | succ k => exact e2 k o (by simpa using hk)
  | [], _ :: _, h => by unfold ObjsAt at h; exact h.elim
  | _ :: _, [], h => by unfold ObjsAt at h; exact h.elim

theorem OutA_ids {P : Program} {sh : Bool} {rs : List ResultVar} {r v : AV} {os : List AObj} {s : St} (h : resA P s rs = some v) (hn : noDup v.ids = true) (hf : r.fine sh os.length = true)
    (ho : ObjsAt s v.ids os) (hv : v = named v.ids r) (hs : sh = true ∨ ∀ o ∈ os, o.elems.flatten.all AV.flat = true) : OutA P sh rs r os s :=
  OutA_objs v.ids h (ObjsAt_get ho).1 hn hf hv (ObjsAt_get ho).2 hs

/-- A function's contract out of its code. -/
theorem pc_of {P : Program} {f : Nat} {fn : Func} {c : Code} (hf : P.funcs[f]? = some fn) (hb : fn.body = some c) (hname : (fn.name == "runtime.NumGoroutine") = false) {sh : Bool} {args : List AV} {r : AV} {os : List AObj}
    (h : codeA P c (fun e s => match e with
      | .normal => OutA P sh fn.results.toList r os s
      | .ret => OutA P sh fn.results.toList r os s
      | _ => False) (start args fn.ntmps)) : PC P sh f args r os := by
  refine ⟨fun w R vals hR hargs => (Ans_body hf hname hb).2 ?_⟩
  have hlen := hargs.length
  have hs : SimE (fun b => R b ∨ w.heap.size ≤ b) w [] (start args fn.ntmps) { tmps := vals.toArray ++ Array.replicate (fn.ntmps - vals.toArray.size) undef, defers := [] } w := by
    refine ⟨fun _ => .nilFunc, fun t => ?_, ?_, rfl, VL.nil, ?_, ?_, Below.refl _ _, fun b hb => .inr hb⟩
    · simp only [start]
      cases ha : args[t]? with
      | none => rw [List.getD_eq_getElem?_getD, ha]; unfold VR; trivial
      | some x =>
        have hL : VL (St.ctx (start args fn.ntmps) (fun b => R b ∨ w.heap.size ≤ b) w (fun _ => .nilFunc)) args vals := by
          refine RR.value.values (c := St.ctx (start args fn.ntmps) (fun b => R b ∨ w.heap.size ≤ b) w (fun _ => .nilFunc)) _ _ (LR.mono (fun _ _ _ => rfl) (fun b hb => ?_) _ _ hargs)
          exact ⟨.inl hb, hR b hb, fun _ _ h => by simp [start] at h⟩
        obtain ⟨v, e1, e2⟩ := hL.get t x ha
        have hlt : t < vals.length := (List.getElem?_eq_some_iff.1 e1).1
        rw [List.getD_eq_getElem?_getD, ha]
        have hev : Act.eval { tmps := vals.toArray ++ Array.replicate (fn.ntmps - vals.toArray.size) undef, defers := [] } (.tmp t) = v := by
          simp only [Act.eval, Array.getD_eq_getD_getElem?]
          rw [Array.getElem?_append_left (by simpa using hlt)]
          simp [e1]
        rw [hev]
        exact e2
    · simp [start, hlen]
    · intro id o ho; simp [start] at ho
    · intro i j o o' b hi; simp [start] at hi
  refine calls_of_wp hf hb (codeA_ok c _ _ h _ w [] _ w hs _ ?_)
  intro e s' a' w' hk ⟨hdr, hsim⟩
  have main : OutA P sh fn.results.toList r os s' → a'.defers = [] ∧ ∃ v, (results fn a'.tmps).run P w' = .ok v w' ∧ ∃ v', Ending.returned v = .returned v' ∧ ∃ hdr', Below w.heap.size w w' ∧ ResR R sh w w' hdr' r os v' := by
    intro hout
    unfold OutA at hout
    obtain ⟨s', hle, ρ, ⟨hl, hnd, hfine⟩, hres, hos, hflat⟩ := hout
    obtain ⟨hdr, hsim⟩ := hle _ _ _ _ _ ⟨hdr, hsim⟩
    obtain ⟨v, q1, q2⟩ := resA_ok hsim hres
    refine ⟨hsim.defers, v, q1, v, rfl, fun k => hdr (ρ.getD k 0), hsim.below, ?_⟩
    have hblk : ∀ (k : Nat) o b, os[k]? = some o → (hdr (ρ.getD k 0)).blk = some b → w.heap.size ≤ b := fun k o b h1 h2 => (hsim.ge (hos k o h1).1 h2).1
    have hro : sh = true → ∀ b, roOf (fun b => R b ∨ w.heap.size ≤ b) w' hdr s'.objs b → (resCtx R sh w w' (fun k => hdr (ρ.getD k 0)) os).ro b := by
      intro hsh b ⟨k0, k1, k2⟩
      exact ⟨k0.imp (fun h => ⟨hsh, h⟩) id, k1, fun id o hi => k2 _ o (hos id o hi).1⟩
    have hRR : sh = true → ∀ x u, RR w' (roOf (fun b => R b ∨ w.heap.size ≤ b) w' hdr s'.objs) x u → RR w' (resCtx R sh w w' (fun k => hdr (ρ.getD k 0)) os).ro x u := fun hsh x u => RR.mono (fun _ _ _ => rfl) (hro hsh) x u
    refine ⟨?_, ?_, ?_, ?_⟩
    · refine VR.unname (c := s'.ctx (fun b => R b ∨ w.heap.size ≤ b) w' hdr) (c1 := resCtx R sh w w' (fun k => hdr (ρ.getD k 0)) os) (ρ := ρ) (n := os.length) hRR ?_ r v hfine q2
      intro k hk
      exact ⟨by show (os[k]?).isSome = true; simp [hk], rfl⟩
    · intro o ho
      obtain ⟨k, hk⟩ := List.getElem?_of_mem ho
      exact (hos k o hk).2
    · intro k o hk
      obtain ⟨k2, k3, cs, k4, k5, k6, k7⟩ := hsim.objs _ o (hos k o hk).1
      have hlr0 := k7 (hos k o hk).2
      have hlr : LR w' (resCtx R sh w w' (fun k => hdr (ρ.getD k 0)) os).ro o.elems.flatten cs := by
        rcases hflat with hsh | hfl
        · exact LR.mono (fun _ _ _ => rfl) (hro hsh) _ _ hlr0
        · exact flat_RR (hfl o (List.mem_of_getElem? hk)) hlr0
      exact ⟨k2, k3, cs, k4, k5, RR.value.values (c := resCtx R sh w w' (fun k => hdr (ρ.getD k 0)) os) _ _ hlr, fun _ => hlr⟩
    · intro i j o o' b hi hj bi bj
      have := hsim.dis _ _ o o' b (hos i o hi).1 (hos j o' hj).1 bi bj
      exact noDup_inj hnd i j (by rw [hl]; exact (List.getElem?_eq_some_iff.1 hi).1) (by rw [hl]; exact (List.getElem?_eq_some_iff.1 hj).1) this
  cases e <;> simp only at hk
  case normal => exact main hk
  case ret => exact main hk

/-- The same, the number of slots written out. -/
theorem pc_at {P : Program} {f : Nat} {fn : Func} {c : Code} (hf : P.funcs[f]? = some fn) (hb : fn.body = some c) (hname : (fn.name == "runtime.NumGoroutine") = false) {sh : Bool} {args : List AV} {r : AV} {os : List AObj} (z : Nat) (rs : List ResultVar) (hz : args.length + (fn.ntmps - args.length) = z) (hr : fn.results.toList = rs)
    (h : codeA P c (fun e s => match e with
      | .normal => OutA P sh rs r os s
      | .ret => OutA P sh rs r os s
      | _ => False) ⟨fun t => args.getD t .any, z, fun _ => none, 0, []⟩) : PC P sh f args r os := by
  refine pc_of hf hb hname ?_
  unfold start
  rw [hz, hr]
  exact h

/-- A function that something stands in for. -/
theorem pc_ext {P : Program} {f : Nat} {fn : Func} {e : Array Value → Sem Value} (hf : P.funcs[f]? = some fn) (hname : (fn.name == "runtime.NumGoroutine") = false) (hb : fn.body.isNone = true) (hn : Extern.findNext fn = none) (he : Extern.find fn = some e) {args : List AV} {r : AV}
    (h : ∀ (w : World) (ro : Nat → Prop) (vals : List Value), LR w ro args vals → ∃ v, (e vals.toArray).run P w = .ok v w ∧ ∀ c, VR c r v) : PC P false f args r [] := by
  refine ⟨fun w R vals _ hargs => ?_⟩
  obtain ⟨v, h1, h2⟩ := h w R vals hargs
  unfold Ans
  rw [run_callFunc_extern hf hname hb hn he, h1]
  exact ⟨fun _ => .nilFunc, Below.refl _ _, h2 _, by simp, by simp, by simp⟩

end Go.Ab
