/-
  A call that is walked: the caller's slots are kept beside, the objects are those of the caller.
  No condition: definitions and lemmas over any program.
-/
import Derived.Test.YtcdlapjpnenkdaaGreatAb18
namespace Go.Ab

/-- The slots that were kept beside, put back. -/
def backK (ks : List Nat) : List AV → List (Nat × AV) → (List (Nat × AV) → List AV → Prop) → Prop :=
  List.rec (motive := fun _ => List AV → List (Nat × AV) → (List (Nat × AV) → List AV → Prop) → Prop) (fun g acc K => K acc g) (fun k _ ih g acc K =>
    match g with
    | [] => False
    | x :: gs => force x fun x => ih gs ((k, x) :: acc) K) ks

theorem backK_elim {c : Ctx} {a : Act} {gv : List Value} : ∀ {ks : List Nat} {g : List AV} {acc : List (Nat × AV)} {K : List (Nat × AV) → List AV → Prop}, backK ks g acc K → VL c g (ks.map (fun k => a.eval (.tmp k)) ++ gv) → (∀ k x, (k, x) ∈ acc → VR c x (a.eval (.tmp k))) →
    ∃ el gs, K el gs ∧ (∀ k x, (k, x) ∈ el → VR c x (a.eval (.tmp k))) ∧ VL c gs gv
  | [], g, acc, K, h, hv, ha => ⟨acc, g, h, ha, by simpa using hv⟩
  | k :: ks, [], acc, K, h, _, _ => h.elim
  | k :: ks, x :: gs, acc, K, h, hv, ha => by
    have h' : force x fun x => backK ks gs ((k, x) :: acc) K := h
    rw [force_eq] at h'
    simp only [List.map_cons, List.cons_append] at hv
    unfold VL at hv
    refine backK_elim h' hv.2 fun k' x' hm => ?_
    rcases List.mem_cons.1 hm with e | hm
    · cases e; exact hv.1
    · exact ha k' x' hm

theorem envOf_mem : ∀ (el : List (Nat × AV)) (t : Nat), envOf el t = .any ∨ (t, envOf el t) ∈ el
  | [], _ => .inl rfl
  | (k, v) :: l, t => by
    unfold envOf
    by_cases e : t = k
    · subst e; simp
    · rw [if_neg e]
      rcases envOf_mem l t with h | h
      · exact .inl h
      · exact .inr (List.mem_cons_of_mem _ h)

/-- What is done at the end of a call that is walked. -/
@[irreducible] def RetI (P : Program) (rs : List ResultVar) (ks : List Nat) (z n : Nat) (d : Option Nat) (K : St → Prop) (s' : St) : Prop :=
  ∃ v, resA P s' rs = some v ∧ backK ks s'.gh [] fun el gs => St.putN ⟨envOf el, z, s'.objs, n, gs⟩ d v K
theorem RetI_of {P : Program} {rs : List ResultVar} {ks : List Nat} {z n : Nat} {d : Option Nat} {K : St → Prop} {s' : St} {v : AV} (h : resA P s' rs = some v) (h2 : backK ks s'.gh [] fun el gs => St.putN ⟨envOf el, z, s'.objs, n, gs⟩ d v K) : RetI P rs ks z n d K s' := by
  unfold RetI
  exact ⟨v, h, h2⟩

def keepV (e : Nat → AV) (ks : List Nat) : (List AV → Prop) → Prop :=
  List.rec (motive := fun _ => (List AV → Prop) → Prop) (fun K => K []) (fun k _ ih K => force (e k) fun v => ih fun l => K (v :: l)) ks
theorem keepV_eq {e : Nat → AV} : ∀ {ks : List Nat} {K : List AV → Prop}, keepV e ks K → K (ks.map e)
  | [], K, h => h
  | k :: ks, K, h => by
    have h' : force (e k) fun v => keepV e ks fun l => K (v :: l) := h
    rw [force_eq] at h'
    exact keepV_eq (ks := ks) (K := fun l => K (e k :: l)) h'

theorem VL.envs {F : Nat → Prop} {w0 : World} {gv : List Value} {s : St} {a : Act} {w : World} {hdr : Nat → Value} (h : Sim F w0 gv s a w hdr) : ∀ ks : List Nat, VL (s.ctx F w hdr) (ks.map s.env) (ks.map fun k => a.eval (.tmp k))
  | [] => VL.nil
  | k :: ks => VL.cons (h.env k) (VL.envs h ks)

/-- A call that is walked. -/
theorem CallI {P : Program} {f : Nat} {fn : Func} {c : Code} (hf : P.funcs[f]? = some fn) (hb : fn.body = some c) (hname : (fn.name == "runtime.NumGoroutine") = false) {args : List AV} {e : Nat → AV} {z : Nat} {o : Nat → Option AObj} {n : Nat} {g : List AV} {nid : Nat} {d : Option Nat} {K : St → Prop} (off : Nat) (ks : List Nat) (z' : Nat) (rs : List ResultVar)
    (hz : args.length + (fn.ntmps - args.length) = z') (hr : fn.results.toList = rs)
    (h : keepV e ks fun gl => codeA P c (fun ex s' => match ex with
      | .normal => RetI P rs ks z n d K s'
      | .ret => RetI P rs ks z n d K s'
      | _ => False) ⟨fun t => args.getD t .any, z', o, n + off, gl ++ g⟩) : CallA P f args ⟨e, z, o, n, g⟩ nid d K := by
  subst hr hz
  have h := keepV_eq h
  unfold CallA
  refine .inl fun F w0 gv a w hdr hs vals hargs => (Ans_body hf hname hb).2 ?_
  have hlen := hargs.length
  have hs' : SimE F w0 (ks.map (fun k => a.eval (.tmp k)) ++ gv) ⟨fun t => args.getD t .any, args.length + (fn.ntmps - args.length), o, n + off, ks.map e ++ g⟩ { tmps := vals.toArray ++ Array.replicate (fn.ntmps - vals.toArray.size) undef, defers := [] } w := by
    refine ⟨hdr, fun t => ?_, ?_, rfl, (VL.envs hs ks).append hs.gh, hs.objs, hs.dis, hs.below, hs.free⟩
    · cases ha : args[t]? with
      | none =>
        show VR _ (args.getD t .any) _
        rw [List.getD_eq_getElem?_getD, ha]; unfold VR; trivial
      | some x =>
        obtain ⟨v, e1, e2⟩ := hargs.get t x ha
        have hlt : t < vals.length := (List.getElem?_eq_some_iff.1 e1).1
        show VR _ (args.getD t .any) _
        rw [List.getD_eq_getElem?_getD, ha]
        have hev : Act.eval { tmps := vals.toArray ++ Array.replicate (fn.ntmps - vals.toArray.size) undef, defers := [] } (.tmp t) = v := by
          simp only [Act.eval, Array.getD_eq_getD_getElem?]
          rw [Array.getElem?_append_left (by simpa using hlt)]
          simp [e1]
        rw [hev]
        exact e2
    · simp [hlen]
  refine calls_of_wp hf hb (codeA_ok c _ _ h _ w0 _ _ w hs' _ ?_)
  intro ex s' a' w' hk ⟨hdr', hsim⟩
  have main : RetI P fn.results.toList ks z n d K s' → a'.defers = [] ∧ ∃ v, (results fn a'.tmps).run P w' = .ok v w' ∧ ∃ v', Ending.returned v = .returned v' ∧ ∃ s'', K s'' ∧ SimE F w0 gv s'' (a.put d v') w' := by
    intro hret
    unfold RetI at hret
    obtain ⟨v, hres, hback⟩ := hret
    obtain ⟨u, q1, q2⟩ := resA_ok hsim hres
    obtain ⟨el, gs, hput, hel, hgs⟩ := backK_elim (a := a) hback hsim.gh (fun k x hm => by cases hm)
    obtain ⟨k1, k2⟩ := putK_elim (putN_elim hput)
    have hsim2 : Sim F w0 gv ⟨envOf el, z, s'.objs, n, gs⟩ a w' hdr' := by
      refine ⟨fun t => ?_, hs.sz, hs.defers, hgs, hsim.objs, hsim.dis, hsim.below, hsim.free⟩
      rcases envOf_mem el t with hany | hm
      · show VR _ (envOf el t) _
        rw [hany]; unfold VR; trivial
      · exact hel t _ hm
    exact ⟨hsim.defers, u, q1, u, rfl, _, k2, hdr', hsim2.put k1 q2⟩
  cases ex <;> simp only at hk
  case normal => exact main hk
  case ret => exact main hk

theorem VL.setAt {c : Ctx} : ∀ {as : List AV} {vs : List Value} {j : Nat} {x : AV} {v : Value}, VL c as vs → vs[j]? = some v → VR c x v → VL c (as.set j x) vs
  | [], [], _, _, _, _, h, _ => by simp at h
  | a :: as, u :: vs, 0, x, v, h, hv, hx => by
    simp at hv
    subst hv
    unfold VL at h
    exact VL.cons hx h.2
  | a :: as, u :: vs, j + 1, x, v, h, hv, hx => by
    unfold VL at h
    simp at hv
    exact VL.cons h.1 (VL.setAt h.2 hv hx)
  | [], _ :: _, _, _, _, h, _, _ => by unfold VL at h; exact h.elim
  | _ :: _, [], _, _, _, h, _, _ => by unfold VL at h; exact h.elim

/-- A nil slice that stands in a variable, as an empty object. -/
theorem St.le_promoteB {s : St} {id nid ty esz j : Nat} {tb eb : Nat} {cells : List AV} (ho : s.objs id = some ⟨true, tb, eb, [cells]⟩) (hj : cells[j]? = some .nil) (hid : s.objs nid = none) (hpos : 0 < esz) :
    s.le { s with objs := fun i => if i = nid then some ⟨false, ty, esz, []⟩ else if i = id then some ⟨true, tb, eb, [cells.set j (.own nid)]⟩ else s.objs i } := by
  intro F w0 gv a w ⟨hdr, h⟩
  have hne : id ≠ nid := fun e => by rw [e, hid] at ho; cases ho
  obtain ⟨k2, k3, cs, k4, k5, k6, k7⟩ := h.objs id _ ho
  simp only [List.flatten_cons, List.flatten_nil, List.append_nil] at k6
  obtain ⟨v, v1, v2⟩ := k6.get j _ hj
  unfold VR at v2
  obtain ⟨b0, rfl⟩ := v2
  have hl := h.laid (o := ⟨false, ty, esz, []⟩) (v := .slice b0 0 0) (w' := w) hid ⟨rfl, rfl, rfl, Nat.le_refl _, fun _ _ => rfl⟩ ⟨hpos, by simp, [], ⟨by simp, .inl ⟨b0, rfl, rfl⟩⟩, by simp, by simpa using VL.nil, fun _ => by simp only [List.flatten_nil]; unfold LR; trivial⟩
  generalize hh : (fun i => if i = nid then Value.slice b0 0 0 else hdr i) = hdr1 at hl
  have hd1 : hdr1 nid = .slice b0 0 0 := by rw [← hh]; simp
  have hd2 : hdr1 id = hdr id := by rw [← hh]; simp [hne]
  have hoid : (fun i => if i = nid then some (⟨false, ty, esz, []⟩ : AObj) else s.objs i) id = some ⟨true, tb, eb, [cells]⟩ := by simp [hne, ho]
  have hsome : ∀ i, ((fun i => if i = nid then some (⟨false, ty, esz, []⟩ : AObj) else if i = id then some ⟨true, tb, eb, [cells.set j (.own nid)]⟩ else s.objs i) i).isSome = ((fun i => if i = nid then some (⟨false, ty, esz, []⟩ : AObj) else s.objs i) i).isSome := by
    intro i
    by_cases e1 : i = nid
    · simp [e1]
    · by_cases e2 : i = id
      · subst e2
        show (if i = nid then some (⟨false, ty, esz, []⟩ : AObj) else if i = i then some ⟨true, tb, eb, [cells.set j (.own nid)]⟩ else s.objs i).isSome = (if i = nid then some (⟨false, ty, esz, []⟩ : AObj) else s.objs i).isSome
        rw [if_neg hne, if_neg hne, if_pos rfl, ho]
        rfl
      · simp [e1, e2]
  have hO : ∀ i o, (fun i => if i = nid then some (⟨false, ty, esz, []⟩ : AObj) else s.objs i) i = some o → ∃ o', (fun i => if i = nid then some (⟨false, ty, esz, []⟩ : AObj) else if i = id then some ⟨true, tb, eb, [cells.set j (.own nid)]⟩ else s.objs i) i = some o' ∧ o'.esz = o.esz ∧ hdr1 i = hdr1 i := by
    intro i o hi
    by_cases e1 : i = nid
    · subst e1; simp at hi; subst hi; exact ⟨_, by simp, rfl, rfl⟩
    · by_cases e2 : i = id
      · subst e2; simp [hne, ho] at hi; subst hi; exact ⟨⟨true, tb, eb, [cells.set j (.own nid)]⟩, by simp [hne], rfl, rfl⟩
      · simp [e1] at hi; exact ⟨o, by simp [e1, e2, hi], rfl, rfl⟩
  have hback : ∀ i o, (fun i => if i = nid then some (⟨false, ty, esz, []⟩ : AObj) else if i = id then some ⟨true, tb, eb, [cells.set j (.own nid)]⟩ else s.objs i) i = some o → ∃ o', (fun i => if i = nid then some (⟨false, ty, esz, []⟩ : AObj) else s.objs i) i = some o' := by
    intro i o hi
    exact Option.isSome_iff_exists.1 (by rw [← hsome]; rw [hi]; rfl)
  have hro : ∀ b, roOf F w hdr1 (fun i => if i = nid then some (⟨false, ty, esz, []⟩ : AObj) else s.objs i) b → roOf F w hdr1 (fun i => if i = nid then some (⟨false, ty, esz, []⟩ : AObj) else if i = id then some ⟨true, tb, eb, [cells.set j (.own nid)]⟩ else s.objs i) b := by
    intro b ⟨f1, f2, f3⟩
    refine ⟨f1, f2, fun i o hi => ?_⟩
    obtain ⟨o', ho'⟩ := hback i o hi
    exact f3 i o' ho'
  have hR : ∀ x v, RR w (roOf F w hdr1 (fun i => if i = nid then some (⟨false, ty, esz, []⟩ : AObj) else s.objs i)) x v → RR w (roOf F w hdr1 (fun i => if i = nid then some (⟨false, ty, esz, []⟩ : AObj) else if i = id then some ⟨true, tb, eb, [cells.set j (.own nid)]⟩ else s.objs i)) x v := fun x v => RR.mono (fun _ _ _ => rfl) hro x v
  refine ⟨hdr1, fun t => VR.mono (c := St.ctx ⟨s.env, s.sz, fun i => if i = nid then some (⟨false, ty, esz, []⟩ : AObj) else s.objs i, s.nxt, s.gh⟩ F w hdr1) (c' := St.ctx ⟨s.env, s.sz, fun i => if i = nid then some (⟨false, ty, esz, []⟩ : AObj) else if i = id then some ⟨true, tb, eb, [cells.set j (.own nid)]⟩ else s.objs i, s.nxt, s.gh⟩ F w hdr1) hR hO _ _ (hl.env t), hl.sz, hl.defers, VL.mono (c := St.ctx ⟨s.env, s.sz, fun i => if i = nid then some (⟨false, ty, esz, []⟩ : AObj) else s.objs i, s.nxt, s.gh⟩ F w hdr1) (c' := St.ctx ⟨s.env, s.sz, fun i => if i = nid then some (⟨false, ty, esz, []⟩ : AObj) else if i = id then some ⟨true, tb, eb, [cells.set j (.own nid)]⟩ else s.objs i, s.nxt, s.gh⟩ F w hdr1) hR hO _ _ hl.gh, ?_, fun i i' o o' b hi hi' => ?_, hl.below, hl.free⟩
  · intro i o hi
    obtain ⟨o', ho'⟩ := hback i o hi
    obtain ⟨m2, m3, cs1, m4, m5, m6, m7⟩ := hl.objs i o' ho'
    by_cases e1 : i = id
    · subst e1
      replace hi : (if i = nid then some (⟨false, ty, esz, []⟩ : AObj) else if i = i then some ⟨true, tb, eb, [cells.set j (.own nid)]⟩ else s.objs i) = some o := hi
      rw [if_neg hne, if_pos rfl] at hi
      cases hi
      rw [hoid] at ho'
      cases ho'
      simp only [List.flatten_cons, List.flatten_nil, List.append_nil] at m6
      obtain ⟨g, hg⟩ : ∃ g, (hdr1 i).blk = some g := by
        rcases m4.2 with ⟨_, _, e⟩ | ⟨g, cap, cur, e, hc, _⟩
        · simp at e
        · exact ⟨g, by rw [e]; simp only [Value.blk]; rw [if_neg (by omega)]⟩
      obtain ⟨v', w1, w2⟩ := m6.get j _ hj
      have hc1 := m4.cells hg j _ w1
      have hc2 := k4.cells (by rw [← hd2]; exact hg) j _ v1
      have hcc := Option.some.inj (hc1.symm.trans hc2)
      subst hcc
      refine ⟨m2, ?_, cs1, m4, m5, ?_, fun e => by cases e⟩
      · intro e he
        have h3 := m3 cells (by simp)
        simp at he
        subst he
        simpa using h3
      · simp only [List.flatten_cons, List.flatten_nil, List.append_nil]
        have m6' := VL.mono (c := St.ctx ⟨s.env, s.sz, fun i => if i = nid then some (⟨false, ty, esz, []⟩ : AObj) else s.objs i, s.nxt, s.gh⟩ F w hdr1) (c' := St.ctx ⟨s.env, s.sz, fun i_1 => if i_1 = nid then some (⟨false, ty, esz, []⟩ : AObj) else if i_1 = i then some ⟨true, tb, eb, [cells.set j (.own nid)]⟩ else s.objs i_1, s.nxt, s.gh⟩ F w hdr1) hR hO _ _ m6
        exact VL.setAt m6' w1 (by unfold VR; exact ⟨by simp [St.ctx], hd1.symm⟩)
    · have hoo : o = o' := by
        by_cases e2 : i = nid
        · subst e2; simp at hi ho'; rw [← hi, ← ho']
        · simp [e1, e2] at hi ho'; rw [hi] at ho'; cases ho'; rfl
      subst hoo
      exact ⟨m2, m3, cs1, m4, m5, VL.mono (c := St.ctx ⟨s.env, s.sz, fun i => if i = nid then some (⟨false, ty, esz, []⟩ : AObj) else s.objs i, s.nxt, s.gh⟩ F w hdr1) (c' := St.ctx ⟨s.env, s.sz, fun i => if i = nid then some (⟨false, ty, esz, []⟩ : AObj) else if i = id then some ⟨true, tb, eb, [cells.set j (.own nid)]⟩ else s.objs i, s.nxt, s.gh⟩ F w hdr1) hR hO _ _ m6, fun hb => LR.mono (fun _ _ _ => rfl) hro _ _ (m7 hb)⟩
  · obtain ⟨p, hp⟩ := hback i o hi
    obtain ⟨p', hp'⟩ := hback i' o' hi'
    exact hl.dis i i' p p' b hp hp'

theorem OutA_nilB {P : Program} {sh : Bool} {rs : List ResultVar} {r : AV} {os : List AObj} {e : Nat → AV} {z : Nat} {o : Nat → Option AObj} {n : Nat} {g : List AV} (id nid ty esz j : Nat) {tb eb : Nat} {cells : List AV} (ho : o id = some ⟨true, tb, eb, [cells]⟩) (hj : cells[j]? = some .nil) (hid : o nid = none) (hpos : 0 < esz)
    (h : OutA P sh rs r os ⟨e, z, fun i => if i = nid then some ⟨false, ty, esz, []⟩ else if i = id then some ⟨true, tb, eb, [cells.set j (.own nid)]⟩ else o i, n, g⟩) : OutA P sh rs r os ⟨e, z, o, n, g⟩ :=
  OutA_le (St.le_promoteB (s := ⟨e, z, o, n, g⟩) ho hj hid hpos) h

end Go.Ab
