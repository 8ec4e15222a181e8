/-
  That each operation does what is said of it: calls.
  No condition: lemmas over any program.
-/
import Derived.Test.YtcdlapjpnenkdaaGreatAb8
namespace Go.Ab
open Go.RowKit

section
variable {F : Nat → Prop} {w0 : World} {gv : List Value} {s : St} {a : Act} {w : World} {hdr : Nat → Value}

theorem roAll (F : Nat → Prop) (w : World) (hdr : Nat → Value) (objs : Nat → Option AObj) : ∀ x v, RR w (roOf F w hdr objs) x v → RR w (fun b => b < w.heap.size) x v :=
  fun x v => RR.mono (fun _ _ _ => rfl) (fun _ h => h.2.1) x v

theorem rf0_ok (h : Sim F w0 gv s a w hdr) {x : AV} {v : Value} (hv : VR (s.ctx F w hdr) x v) : RR w (fun b => b < w.heap.size) (rf0 s x) v := by
  cases x <;> simp only [rf0]
  case any => unfold RR; trivial
  case ptr => unfold RR; trivial
  case agg => unfold RR; trivial
  case tup => unfold RR; trivial
  case fn => unfold RR; trivial
  case own id =>
    cases ho : s.objs id with
    | none => unfold RR; trivial
    | some o =>
      simp only
      by_cases hb : o.box = true
      · simp only [hb, if_true]; unfold RR; trivial
      · have hbf : o.box = false := by simpa using hb
        simp only [hbf]
        unfold VR at hv
        obtain ⟨_, hv⟩ := hv
        replace hv : v = hdr id := hv
        subst hv
        exact own_reads (h.objs id o ho) hbf _ (fun b hb => hb.2.1) (fun b hb => (h.ge ho hb).2)
  case rp => unfold VR at hv; exact roAll F w hdr s.objs _ _ hv
  all_goals exact roAll F w hdr s.objs _ _ (hv.readOnly rfl)

theorem rf0s_ok (h : Sim F w0 gv s a w hdr) : ∀ {xs : List AV} {vs : List Value}, VL (s.ctx F w hdr) xs vs → LR w (fun b => b < w.heap.size) (xs.map (rf0 s)) vs
  | [], [], _ => by simp only [List.map_nil]; unfold LR; trivial
  | x :: xs, v :: vs, hv => by
    unfold VL at hv
    simp only [List.map_cons]
    unfold LR
    exact ⟨rf0_ok h hv.1, rf0s_ok h hv.2⟩
  | [], _ :: _, hv => by unfold VL at hv; exact hv.elim
  | _ :: _, [], hv => by unfold VL at hv; exact hv.elim

theorem LR.cells {w : World} {ro : Nat → Prop} : ∀ {xs : List AV} {vs : List Value} (rd : Nat → Option Value), LR w ro xs vs → (∀ j u, vs[j]? = some u → rd j = some u) → CsR w ro xs rd
  | [], _, _, _, _ => by unfold CsR; trivial
  | x :: xs, v :: vs, rd, h, hr => by
    unfold LR at h
    unfold CsR
    exact ⟨⟨v, hr 0 v rfl, h.1⟩, LR.cells _ h.2 (fun j u hj => hr (j + 1) u (by simpa using hj))⟩
  | _ :: _, [], _, h, _ => by unfold LR at h; exact h.elim

theorem rf1_ok (h : Sim F w0 gv s a w hdr) {x : AV} {v : Value} (hv : VR (s.ctx F w hdr) x v) : RR w (fun b => b < w.heap.size) (rf1 s x) v := by
  cases x
  case agg cs =>
    simp only [rf1]
    unfold VR at hv
    unfold RR
    obtain ⟨vs, e1, e2⟩ := hv
    exact ⟨vs, e1, rf0s_ok h e2⟩
  case ptr id idx off =>
    simp only [rf1]
    split
    · split
      · cases hc : s.cellsAt (.ptr id idx off) with
        | none => simp only; unfold RR; trivial
        | some cs =>
          simp only
          obtain ⟨b, o, vs, e1, e2, e3⟩ := h.cellsAt hv hc
          have hlt : b < w.heap.size := by
            unfold VR at hv
            obtain ⟨ob, b', k1, k2, k3⟩ := hv
            rw [e1] at k3
            cases k3
            exact (h.ge k1 k2).2
          unfold RR
          exact ⟨b, o, e1, hlt, LR.cells _ (rf0s_ok h e2) (fun j u hj => by have := e3 j u hj; rwa [Addr.add_lit] at this)⟩
      · unfold RR; trivial
    · unfold RR; trivial
  all_goals exact rf0_ok h hv

theorem rf1s_ok (h : Sim F w0 gv s a w hdr) : ∀ {xs : List AV} {vs : List Value}, VL (s.ctx F w hdr) xs vs → LR w (fun b => b < w.heap.size) (xs.map (rf1 s)) vs
  | [], [], _ => by simp only [List.map_nil]; unfold LR; trivial
  | x :: xs, v :: vs, hv => by
    unfold VL at hv
    simp only [List.map_cons]
    unfold LR
    exact ⟨rf1_ok h hv.1, rf1s_ok h hv.2⟩
  | [], _ :: _, hv => by unfold VL at hv; exact hv.elim
  | _ :: _, [], hv => by unfold VL at hv; exact hv.elim

theorem rf_ok (h : Sim F w0 gv s a w hdr) {x : AV} {v : Value} (hv : VR (s.ctx F w hdr) x v) : RR w (fun b => b < w.heap.size) (rf s x) v := by
  cases x
  case fn f caps =>
    simp only [rf]
    unfold VR at hv
    unfold RR
    obtain ⟨vs, e1, e2⟩ := hv
    exact ⟨vs, e1, rf1s_ok h e2⟩
  all_goals exact rf1_ok h hv

theorem rfs_ok (h : Sim F w0 gv s a w hdr) : ∀ {xs : List AV} {vs : List Value}, VL (s.ctx F w hdr) xs vs → LR w (fun b => b < w.heap.size) (xs.map (rf s)) vs
  | [], [], _ => by simp only [List.map_nil]; unfold LR; trivial
  | x :: xs, v :: vs, hv => by
    unfold VL at hv
    simp only [List.map_cons]
    unfold LR
    exact ⟨rf_ok h hv.1, rfs_ok h hv.2⟩
  | [], _ :: _, hv => by unfold VL at hv; exact hv.elim
  | _ :: _, [], hv => by unfold VL at hv; exact hv.elim

/-- What shares is read as it stands. -/
theorem ro1_ok {c : Ctx} {x : AV} {v : Value} (hv : VR c x v) (hx : x.ro1 = true) : RR c.w c.ro (rf0 s x) v := by
  cases x <;> simp [AV.ro1] at hx <;> simp only [rf0] <;> unfold VR at hv <;> first | exact hv | (unfold RR; exact hv)

theorem ro1s_ok {c : Ctx} : ∀ {xs : List AV} {vs : List Value}, VL c xs vs → xs.all AV.ro1 = true → LR c.w c.ro (xs.map (rf0 s)) vs
  | [], [], _, _ => by simp only [List.map_nil]; unfold LR; trivial
  | x :: xs, v :: vs, hv, hx => by
    unfold VL at hv
    simp only [List.all_cons, Bool.and_eq_true] at hx
    simp only [List.map_cons]
    unfold LR
    exact ⟨ro1_ok hv.1 hx.1, ro1s_ok hv.2 hx.2⟩
  | [], _ :: _, hv, _ => by unfold VL at hv; exact hv.elim
  | _ :: _, [], hv, _ => by unfold VL at hv; exact hv.elim

theorem ro2_ok {c : Ctx} {x : AV} {v : Value} (hv : VR c x v) (hx : x.ro2 = true) : RR c.w c.ro (rf s x) v := by
  cases x
  case agg cs =>
    simp only [AV.ro2] at hx
    simp only [rf, rf1]
    unfold VR at hv
    unfold RR
    obtain ⟨vs, e1, e2⟩ := hv
    exact ⟨vs, e1, ro1s_ok e2 hx⟩
  case ptr => simp [AV.ro2, AV.ro1] at hx
  case fn => simp [AV.ro2, AV.ro1] at hx
  all_goals exact ro1_ok (s := s) hv hx

theorem ro2s_ok {c : Ctx} : ∀ {xs : List AV} {vs : List Value}, VL c xs vs → xs.all AV.ro2 = true → LR c.w c.ro (xs.map (rf s)) vs
  | [], [], _, _ => by simp only [List.map_nil]; unfold LR; trivial
  | x :: xs, v :: vs, hv, hx => by
    unfold VL at hv
    simp only [List.all_cons, Bool.and_eq_true] at hx
    simp only [List.map_cons]
    unfold LR
    exact ⟨ro2_ok hv.1 hx.1, ro2s_ok hv.2 hx.2⟩
  | [], _ :: _, hv, _ => by unfold VL at hv; exact hv.elim
  | _ :: _, [], hv, _ => by unfold VL at hv; exact hv.elim

theorem addObjs_at : ∀ (os : List AObj) (d : Nat) (objs : Nat → Option AObj) (i : Nat), addObjs d os objs i = if d ≤ i ∧ i < d + os.length then os[i - d]? else objs i
  | [], d, objs, i => by simp only [addObjs, List.length_nil]; rw [if_neg (by omega)]
  | o :: os, d, objs, i => by
    simp only [addObjs, addObjs_at os, List.length_cons]
    by_cases h1 : d + 1 ≤ i ∧ i < d + 1 + os.length
    · rw [if_pos h1, if_pos (by omega)]
      have : i - d = (i - (d + 1)) + 1 := by omega
      rw [this, List.getElem?_cons_succ]
    · rw [if_neg h1]
      by_cases h2 : i = d
      · subst h2
        rw [if_pos (by omega)]
        simp
      · rw [if_neg h2, if_neg (by omega)]

theorem freeFrom_at : ∀ (os : List AObj) (d : Nat) (objs : Nat → Option AObj), freeFrom d os objs = true → ∀ i, d ≤ i → i < d + os.length → objs i = none
  | [], d, objs, _, i, h1, h2 => by simp at h2; omega
  | o :: os, d, objs, h, i, h1, h2 => by
    simp only [freeFrom] at h
    cases hd : objs d with
    | some _ => simp [hd] at h
    | none =>
      simp only [hd] at h
      by_cases e : i = d
      · rw [e]; exact hd
      · exact freeFrom_at os (d + 1) objs h i (by omega) (by simp at h2; omega)

/-- What a call leaves. -/
theorem Sim.called (h : Sim F w0 gv s a w hdr) {R : Nat → Prop} {sh : Bool} {w' : World} {hdr1 : Nat → Value} {r : AV} {os : List AObj} {v : Value} {nid : Nat}
    (hR : sh = true → ∀ b, R b → roOf F w hdr s.objs b) (hb : Below w.heap.size w w') (hr : ResR R sh w w' hdr1 r os v) (hfree : freeFrom nid os s.objs = true) :
    ∃ hdr', Sim F w0 gv { s with objs := addObjs nid os s.objs } a w' hdr' ∧ VR (St.ctx { s with objs := addObjs nid os s.objs } F w' hdr') (r.shift nid) v := by
  have hfr := freeFrom_at os nid s.objs hfree
  have hold : ∀ id o, s.objs id = some o → ¬ (nid ≤ id ∧ id < nid + os.length) := fun id o ho e => by rw [hfr id e.1 e.2] at ho; cases ho
  refine ⟨fun i => if nid ≤ i ∧ i < nid + os.length then hdr1 (i - nid) else hdr i, ?_⟩
  generalize hH : (fun i => if nid ≤ i ∧ i < nid + os.length then hdr1 (i - nid) else hdr i) = hdr'
  have hH1 : ∀ i, hdr' i = if nid ≤ i ∧ i < nid + os.length then hdr1 (i - nid) else hdr i := fun i => by rw [← hH]
  have hnewH : ∀ id, id < os.length → hdr' (nid + id) = hdr1 id := fun id hi => by rw [hH1, if_pos (by omega)]; congr 1; omega
  have hro : ∀ b, (resCtx R sh w w' hdr1 os).ro b → roOf F w' hdr' (addObjs nid os s.objs) b := by
    intro b ⟨f1, f2, f3⟩
    refine ⟨?_, f2, fun i oi hi e => ?_⟩
    · rcases f1 with ⟨g1, g2⟩ | g
      · exact (hR g1 b g2).1
      · exact h.free b (Nat.le_trans h.below.size g)
    · rw [addObjs_at] at hi
      rw [hH1] at e
      by_cases hx : nid ≤ i ∧ i < nid + os.length
      · rw [if_pos hx] at hi e
        exact f3 _ oi hi e
      · rw [if_neg hx] at hi e
        rcases f1 with ⟨g1, g2⟩ | g
        · exact (hR g1 b g2).2.2 i oi hi e
        · have := (h.ge hi e).2; omega
  have hRR : ∀ x u, RR w' (resCtx R sh w w' hdr1 os).ro x u → RR w' (roOf F w' hdr' (addObjs nid os s.objs)) x u := fun x u => RR.mono (fun _ _ _ => rfl) hro x u
  have hnew : ∀ id o, addObjs nid os s.objs id = some o → s.objs id = none → nid ≤ id ∧ id < nid + os.length ∧ os[id - nid]? = some o := by
    intro id o h1 h2
    rw [addObjs_at] at h1
    split at h1
    · rename_i hc; exact ⟨hc.1, hc.2, h1⟩
    · rw [h2] at h1; cases h1
  refine ⟨h.grow hb ?_ ?_ ?_, ?_⟩
  · intro id o ho
    have := hold id o ho
    exact ⟨by rw [addObjs_at, if_neg this]; exact ho, by rw [hH1, if_neg this]⟩
  · intro id o h1 h2
    obtain ⟨c1, c2, c3⟩ := hnew id o h1 h2
    obtain ⟨k2, k3, cs, k4, k5, k6, k7⟩ := hr.objs _ o c3
    have hbx := hr.slc o (List.mem_of_getElem? c3)
    have hlr : LR w' (roOf F w' hdr' (addObjs nid os s.objs)) o.elems.flatten cs := LR.mono (fun _ _ _ => rfl) hro _ _ (k7 hbx)
    refine ⟨k2, k3, cs, ?_, k5, RR.value.values (c := ⟨w', roOf F w' hdr' (addObjs nid os s.objs), hdr', addObjs nid os s.objs⟩) _ _ hlr, fun _ => hlr⟩
    have e : hdr' id = hdr1 (id - nid) := by rw [hH1, if_pos ⟨c1, c2⟩]
    rw [e]
    exact k4
  · intro i j o o' b hi hj ni nj bi bj
    obtain ⟨i1, i2, i3⟩ := hnew i o hi ni
    obtain ⟨j1, j2, j3⟩ := hnew j o' hj nj
    rw [hH1, if_pos ⟨i1, i2⟩] at bi
    rw [hH1, if_pos ⟨j1, j2⟩] at bj
    have := hr.dis _ _ o o' b i3 j3 bi bj
    omega
  · refine VR.sub (c := resCtx R sh w w' hdr1 os) (c' := St.ctx { s with objs := addObjs nid os s.objs } F w' hdr') hRR ?_ ?_ r v hr.val
    · intro id u hu
      unfold VR at hu ⊢
      obtain ⟨u1, u2⟩ := hu
      have hlt : id < os.length := by
        simp only [resCtx] at u1
        exact (List.getElem?_eq_some_iff.1 (Option.isSome_iff_exists.1 u1).choose_spec).1
      refine ⟨?_, ?_⟩
      · show (addObjs nid os s.objs (nid + id)).isSome = true
        rw [addObjs_at, if_pos (by omega), show nid + id - nid = id by omega]
        exact u1
      · show u = hdr' (nid + id)
        rw [hnewH id hlt]; exact u2
    · intro id x y u hu
      unfold VR at hu ⊢
      obtain ⟨o, b, u1, u2, u3⟩ := hu
      replace u1 : os[id]? = some o := u1
      have hlt : id < os.length := (List.getElem?_eq_some_iff.1 u1).1
      refine ⟨o, b, ?_, ?_, u3⟩
      · show addObjs nid os s.objs (nid + id) = some o
        rw [addObjs_at, if_pos (by omega), show nid + id - nid = id by omega]
        exact u1
      · show (hdr' (nid + id)).blk = some b
        rw [hnewH id hlt]; exact u2

end

section
variable {P : Program} {s : St} {K : St → Prop} {dst : Option Tmp} {type : TypeId} {pos : String} {after : Array Edge} {guard : Option (Nat × Bool)}

theorem ok_call {x : Operand} {args : Array Operand} {tys : Array TypeId} {f nid : Nat} {caps : List AV} (hx : s.val x = .fn f caps) (h : CallA P f (args.toList.map s.val ++ caps) s nid dst K) :
    OpOk P ⟨dst, .call ⟨.value x, args, tys⟩, type, pos, after, guard⟩ s K := by
  intro F w0 gv a w ⟨hdr, hs⟩ next Q hn
  unfold CallA at h
  have hvx := hs.val x
  rw [hx] at hvx
  unfold VR at hvx
  obtain ⟨vc, e1, e2⟩ := hvx
  have hargs : VL (s.ctx F w hdr) (args.toList.map s.val ++ caps) (args.toList.map a.eval ++ vc.toList) := (vals_ok hs args.toList).append e2
  have hrun : (execOp a.eval ⟨dst, .call ⟨.value x, args, tys⟩, type, pos, after, guard⟩).run P w = (callFunc f (args.toList.map a.eval ++ vc.toList).toArray).run P w := by
    have harr : (args.toList.map a.eval ++ vc.toList).toArray = args.map a.eval ++ vc := by simp
    rw [harr]
    simp [execOp, resolve, e1, Deferred.ofValue, invoke]
  unfold Oper.wp
  rw [hrun]
  rcases h with h | ⟨sh, r, os, hpc, hsh, ⟨hfree, _⟩, _, hput⟩
  · refine (h F w0 gv a w hdr hs _ hargs).upon fun v w' hq => ?_
    obtain ⟨s', k, hs'⟩ := hq
    exact hn _ _ _ k hs'
  obtain ⟨k1, k2⟩ := putK_elim (putN_elim hput)
  cases sh with
  | false =>
    have hc := hpc.run w (fun b => b < w.heap.size) _ (fun b hb => hb) (rfs_ok hs hargs)
    refine hc.upon fun v w' hq => ?_
    obtain ⟨hdr1, hb, hres⟩ := hq
    obtain ⟨hdr', q1, q2⟩ := hs.called (by intro e; cases e) hb hres hfree
    exact hn _ _ _ k2 ⟨hdr', q1.put k1 q2⟩
  | true =>
    have hc := hpc.run w (roOf F w hdr s.objs) _ (fun b hb => hb.2.1) (ro2s_ok (c := s.ctx F w hdr) hargs (hsh rfl))
    refine hc.upon fun v w' hq => ?_
    obtain ⟨hdr1, hb, hres⟩ := hq
    obtain ⟨hdr', q1, q2⟩ := hs.called (fun _ b hb => hb) hb hres hfree
    exact hn _ _ _ k2 ⟨hdr', q1.put k1 q2⟩

end
end Go.Ab
