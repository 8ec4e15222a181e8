/-
  Calls of the library that turn a slice of the caller's own: Sort, Compact.
  No condition: definitions and lemmas over any program.
-/
import Derived.Test.YtpbabdnbbpgejaaGreatAb21
import Derived.Sort.OwnSorted
import Derived.Lib.SlicesCompact
namespace Go.Ab
open Go.Sort Go.Proofs
set_option linter.unusedVariables false

mutual
theorem AV.sub_id : ∀ a : AV, a.sub (fun j => .own j) (fun j x y => .ptr j x y) = a
  | .own id => by unfold AV.sub; rfl
  | .ptr .. => by unfold AV.sub; rfl
  | .agg cs => by unfold AV.sub; rw [AV.subL_id cs]
  | .tup cs => by unfold AV.sub; rw [AV.subL_id cs]
  | .fn f cs => by unfold AV.sub; rw [AV.subL_id cs]
  | .any => by unfold AV.sub; rfl
  | .int .. => by unfold AV.sub; rfl
  | .bool _ => by unfold AV.sub; rfl
  | .str _ => by unfold AV.sub; rfl
  | .nil => by unfold AV.sub; rfl
  | .sl _ => by unfold AV.sub; rfl
  | .rp _ => by unfold AV.sub; rfl
theorem AV.subL_id : ∀ l : List AV, AV.sub.subL (fun j => .own j) (fun j x y => .ptr j x y) l = l
  | [] => by unfold AV.sub.subL; rfl
  | a :: l => by unfold AV.sub.subL; rw [AV.sub_id a, AV.subL_id l]
end
theorem subO_id (o : AObj) : subO (fun j => .own j) (fun j x y => .ptr j x y) o = o := by
  unfold subO
  split
  · have : o.elems.map (AV.sub.subL (fun j => .own j) (fun j x y => .ptr j x y)) = o.elems := by
      rw [show (AV.sub.subL (fun j => .own j) (fun j x y => .ptr j x y)) = id from funext fun l => AV.subL_id l, List.map_id]
    rw [this]
  · rfl
theorem turned_id (s : St) (id : Nat) (o' : AObj) : turned s (fun j => .own j) (fun j x y => .ptr j x y) id (some o') = setObj s id o' := by
  cases s with
  | mk e z o n g =>
    simp only [turned, setObj]
    congr 1
    · funext t; exact AV.sub_id _
    · funext i
      by_cases h : i = id
      · simp [h]
      · simp only [h, if_false]
        cases o i with
        | none => rfl
        | some x => simp [subO_id]
    · exact AV.subL_id g

section
variable {F : Nat → Prop} {w0 : World} {gv : List Value} {s : St} {a : Act} {w : World} {hdr : Nat → Value}

/-- An object's row turned, its header as it was or another. -/
theorem Sim.reown (h : Sim F w0 gv s a w hdr) {id : Nat} {o : AObj} (ho : s.objs id = some o) {w' : World} {v' : Value} {es' : List (List AV)} {cs' : List Value} {so : Nat → AV} {sp : Nat → Nat → Nat → AV}
    (hso : ∀ j, j ≠ id → so j = .own j) (hsp : ∀ j x y, j ≠ id → sp j x y = .ptr j x y)
    (hoid : so id = .any ∨ (so id = .own id ∧ v' = hdr id)) (hpid : (∀ x y, sp id x y = .any) ∨ ((∀ x y, sp id x y = .ptr id x y) ∧ v' = hdr id))
    (hl : ∀ e ∈ es', e.length = o.esz) (hlr : LR w (roOf F w hdr s.objs) es'.flatten cs') (hcs : ∀ u ∈ cs', u.oneCell' = true)
    (hown : OwnR w' w0.heap.size o.ty o.esz v' es'.length cs') (hg : w.grownBy w' (hdr id).blk)
    (hb' : ∀ b, v'.blk = some b → (hdr id).blk = some b ∨ w.heap.size ≤ b) :
    Sim F w0 gv (turned s so sp id (some { o with elems := es' })) a w' (fun i => if i = id then v' else hdr i) := by
  have hpos := (h.objs id o ho).pos
  refine h.turn (o0 := o) ho hg (fun j hj => by simp [hj]) hso hsp ?_ ?_ ?_ ?_
  · intro v hv
    rcases hoid with e | ⟨e, e2⟩
    · rw [e]; unfold VR; trivial
    · rw [e]
      unfold VR at hv ⊢
      refine ⟨by simp [St.ctx, turned], ?_⟩
      simp [St.ctx]
      rw [e2]
      exact hv.2
  · intro x y v hv
    rcases hpid with e | ⟨e, e2⟩
    · rw [e]; unfold VR; trivial
    · rw [e]
      unfold VR at hv ⊢
      obtain ⟨o1, b, k1, k2, k3⟩ := hv
      have : o1 = o := by
        have k1' : s.objs id = some o1 := k1
        rw [ho] at k1'; cases k1'; rfl
      subst this
      exact ⟨{ o1 with elems := es' }, b, by simp [St.ctx, turned], by simp [St.ctx]; rw [e2]; exact k2, k3⟩
  · intro o1 e1
    cases e1
    have hro : ∀ b, roOf F w hdr s.objs b → roOf F w' (fun i => if i = id then v' else hdr i) (turned s so sp id (some { o with elems := es' })).objs b := by
      intro b ⟨hF0, h1, h2⟩
      refine ⟨hF0, Nat.lt_of_lt_of_le h1 hg.size, fun i oi hi e => ?_⟩
      by_cases hx : i = id
      · subst hx
        simp only [if_true] at e
        rcases hb' b e with e2 | e2
        · exact h2 i o ho e2
        · omega
      · simp only [hx, if_false] at e
        simp only [turned, hx, if_false] at hi
        cases hs : s.objs i with
        | none => simp [hs] at hi
        | some o1 => exact h2 i o1 hs e
    have hcell : ∀ k j, roOf F w hdr s.objs k → w'.cell? ⟨k, j, none⟩ = w.cell? ⟨k, j, none⟩ := by
      intro k j ⟨hF0, h1, h2⟩
      exact World.cell?_of_block (w := w) (a := ⟨k, j, none⟩) (hg.block k h1 (fun e => h2 id o ho e.symm))
    have hall : LR w' (roOf F w' (fun i => if i = id then v' else hdr i) (turned s so sp id (some { o with elems := es' })).objs) es'.flatten cs' := LR.mono hcell hro _ _ hlr
    refine ⟨hpos, hl, cs', ?_, hcs, RR.value.values (c := (turned s so sp id (some { o with elems := es' })).ctx F w' (fun i => if i = id then v' else hdr i)) _ _ hall, fun _ => hall⟩
    show OwnR w' w0.heap.size o.ty o.esz (if id = id then v' else hdr id) es'.length cs'
    rw [if_pos rfl]
    exact hown
  · intro o1 b _ e
    simp only [if_true] at e
    exact hb' b e
end

/-- Cells of a list of strings. -/
theorem strs_cells {w : World} {ro : Nat → Prop} : ∀ {ss : List (List UInt8)} {cs : List Value}, LR w ro (ss.map fun l => [AV.str l]).flatten cs → cs = ss.map encStr
  | [], [], _ => rfl
  | [], _ :: _, h => by unfold LR at h; exact h.elim
  | s :: ss, [], h => by simp only [List.map_cons, List.flatten_cons, List.cons_append] at h; unfold LR at h; exact h.elim
  | s :: ss, c :: cs, h => by
    simp only [List.map_cons, List.flatten_cons, List.cons_append, List.nil_append] at h
    unfold LR at h
    have h1 := h.1
    unfold RR at h1
    rw [strs_cells h.2, h1]
    rfl
theorem strs_LR {w : World} {ro : Nat → Prop} : ∀ (ss : List (List UInt8)), LR w ro (ss.map fun l => [AV.str l]).flatten (ss.map encStr)
  | [] => by simp only [List.map_nil, List.flatten_nil]; unfold LR; trivial
  | s :: ss => by
    simp only [List.map_cons, List.flatten_cons, List.cons_append, List.nil_append]
    unfold LR
    exact ⟨by unfold RR; rfl, strs_LR ss⟩
theorem strs_ones (ss : List (List UInt8)) : ∀ u ∈ ss.map encStr, u.oneCell' = true := by
  intro u hu
  obtain ⟨x, _, rfl⟩ := List.mem_map.1 hu
  rfl
theorem strs_lens {ss : List (List UInt8)} {n : Nat} (h : 1 = n) : ∀ e ∈ ss.map fun l => [AV.str l], e.length = n := by
  intro e he
  obtain ⟨x, _, rfl⟩ := List.mem_map.1 he
  exact h

def sortS (ss : List (List UInt8)) : List (List UInt8) := ss.mergeSort fun x y => decide (x ≤ y)

theorem CallSortS {P : Program} {f : Nat} {fn : Func} {c : Code} (hf : P.funcs[f]? = some fn) (hname : (fn.name == "runtime.NumGoroutine") = false) (hb : fn.body = some c)
    (hsort : ∀ (blk off cap : Nat) (ss : List (List UInt8)) (w : World), Holds encStr w blk off ss.toArray → blk < w.heap.size → ss.length < 4611686018427387904 →
      Calls P f #[.slice (some ⟨blk, off, none⟩) ss.length cap] w fun e w' => e = .returned (.tuple #[]) ∧ ∃ n os, w' = grow (putRow encStr (Sort.ahead w n) blk off (ss.mergeSort fun x y => decide (x ≤ y)).toArray) os)
    (hnone : ∀ (p : Option Addr) (cap : Nat) (w : World), Calls P f #[.slice p 0 cap] w fun e w' => e = .returned (.tuple #[]) ∧ w' = w)
    {s : St} {id ty : Nat} {ss : List (List UInt8)} (hlen : ss.length ≤ 4194304) (ho : s.objs id = some ⟨false, ty, 1, ss.map fun l => [AV.str l]⟩) {nid : Nat} {d : Option Nat} {K : St → Prop}
    (h : St.putN (setObj s id ⟨false, ty, 1, (sortS ss).map fun l => [AV.str l]⟩) d (.tup []) K) : CallA P f [.own id] s nid d K := by
  unfold CallA
  refine .inl fun F w0 gv a w hdr hs vals hargs => (Ans_body hf hname hb).2 ?_
  obtain ⟨k1, k2⟩ := putK_elim (putN_elim h)
  obtain ⟨v, rfl⟩ : ∃ v, vals = [v] := by
    match vals, hargs with
    | [v], _ => exact ⟨v, rfl⟩
    | [], h => unfold VL at h; exact h.elim
    | _ :: _ :: _, h => unfold VL at h; have := h.2; unfold VL at this; exact this.elim
  unfold VL at hargs
  have hv := hargs.1
  unfold VR at hv
  obtain ⟨_, hv⟩ := hv
  replace hv : v = hdr id := hv
  subst hv
  obtain ⟨hpos, hlens, cs, hrow, hones, _, hlr⟩ := hs.objs id _ ho
  have hcs : cs = ss.map encStr := strs_cells (hlr rfl)
  subst hcs
  have hll : (sortS ss).length = ss.length := by simp [sortS]
  have fin : ∀ w' : World, w.grownBy w' (hdr id).blk → OwnR w' w0.heap.size ty 1 (hdr id) (sortS ss).length ((sortS ss).map encStr) → ∃ s', K s' ∧ SimE F w0 gv s' (a.put d (.tuple #[])) w' := by
    intro w' hg hown
    have hsim := hs.reown (so := fun j => .own j) (sp := fun j x y => .ptr j x y) ho (w' := w') (v' := hdr id) (es' := (sortS ss).map fun l => [AV.str l]) (cs' := (sortS ss).map encStr)
      (fun _ _ => rfl) (fun _ _ _ _ => rfl) (.inr ⟨rfl, rfl⟩) (.inr ⟨fun _ _ => rfl, rfl⟩) (strs_lens rfl) (strs_LR _) (strs_ones _) (by simpa using hown) hg (fun b hb => .inl hb)
    rw [turned_id] at hsim
    refine ⟨_, k2, _, hsim.put k1 ?_⟩
    unfold VR
    exact ⟨#[], rfl, VL.nil⟩
  rcases hrow.2 with ⟨base, e, e2⟩ | ⟨g, cap, cur, e, e0, e1, e3, e4, e5, e6, e7⟩
  · have hnil : ss = [] := by
      have : (ss.map fun l => [AV.str l]).length = 0 := e2
      simpa using this
    rw [show ([hdr id] : List Value).toArray = #[.slice base 0 0] from by rw [e]]
    refine (hnone base 0 w).mono fun e' w' ⟨q1, q2⟩ => ⟨_, q1, ?_⟩
    subst q2
    refine fin _ ⟨rfl, rfl, rfl, Nat.le_refl _, fun _ _ _ => rfl⟩ ?_
    rw [hnil]
    rw [hnil] at hrow
    have hr : OwnR w' w0.heap.size ty 1 (hdr id) 0 [] := by
      have hr0 := hrow
      simp only [List.map_nil, List.length_nil] at hr0
      exact hr0
    simpa [sortS] using hr
  · have hn : (ss.map fun l => [AV.str l]).length = ss.length := by simp
    rw [hn] at e e4 e7
    simp only [Nat.mul_one] at e7
    rw [show ([hdr id] : List Value).toArray = #[.slice (some ⟨g, 0, none⟩) ss.length cap] from by rw [e]]
    have hlt : ss.length < 4611686018427387904 := by omega
    refine (hsort g 0 cap ss w (holds_of_block e3 e7) ((Array.getElem?_eq_some_iff.1 e3).1) hlt).mono fun e' w' ⟨q1, n, os, q2⟩ => ⟨_, q1, ?_⟩
    subst q2
    have hbl : (hdr id).blk = some g := by rw [e]; simp only [Value.blk]; rw [if_neg (by omega)]
    refine fin _ (by rw [hbl]; exact grownBy_sorted _) ?_
    have := ownsRow_sorted (n := n) (os := os) (ss := ss) (ts := sortS ss) (base := w0.heap.size) hll e1 e3 e4 e5 (by simpa using e6)
    rw [← e] at this
    rw [hll]
    exact OwnR.of_row this

def compS (ss : List (List UInt8)) : List (List UInt8) := Lib.compact ss
theorem compS_le (ss : List (List UInt8)) : (compS ss).length ≤ ss.length := by
  unfold compS Lib.compact Lib.compactUpTo
  rw [List.length_map]
  exact Nat.le_trans (List.length_filter_le _ _) (by simp)
theorem CallCompactS {P : Program} {f : Nat} {fn : Func} {c : Code} (hf : P.funcs[f]? = some fn) (hname : (fn.name == "runtime.NumGoroutine") = false) (hb : fn.body = some c)
    (hcom : ∀ (blk off cap : Nat) (zs : List (List UInt8)) (w : World), Holds encStr w blk off zs.toArray → zs.length ≤ 9223372036854775807 → zs.length ≤ cap →
      Calls P f #[.slice (some ⟨blk, off, none⟩) zs.length cap] w fun e w' => e = .returned (.slice (some ⟨blk, off, none⟩) (Lib.compact zs).length cap) ∧ ∃ q, w' = putRow encStr (Sort.ahead w q) blk off (Lib.compact zs ++ List.replicate (zs.length - (Lib.compact zs).length) []).toArray)
    (hnone : ∀ (p : Option Addr) (cap : Nat) (w : World), Calls P f #[.slice p 0 cap] w fun e w' => e = .returned (.slice p 0 cap) ∧ w' = w)
    {s : St} {id ty : Nat} {ss : List (List UInt8)} (hlen : ss.length ≤ 4194304) (ho : s.objs id = some ⟨false, ty, 1, ss.map fun l => [AV.str l]⟩) {nid : Nat} {d : Option Nat} {K : St → Prop}
    (h : St.putN (turned s (killO id) (killP id) id (some ⟨false, ty, 1, (compS ss).map fun l => [AV.str l]⟩)) d (.own id) K) : CallA P f [.own id] s nid d K := by
  unfold CallA
  refine .inl fun F w0 gv a w hdr hs vals hargs => (Ans_body hf hname hb).2 ?_
  obtain ⟨k1, k2⟩ := putK_elim (putN_elim h)
  obtain ⟨v, rfl⟩ : ∃ v, vals = [v] := by
    match vals, hargs with
    | [v], _ => exact ⟨v, rfl⟩
    | [], h => unfold VL at h; exact h.elim
    | _ :: _ :: _, h => unfold VL at h; have := h.2; unfold VL at this; exact this.elim
  unfold VL at hargs
  have hv := hargs.1
  unfold VR at hv
  obtain ⟨_, hv⟩ := hv
  replace hv : v = hdr id := hv
  subst hv
  obtain ⟨hpos, hlens, cs, hrow, hones, _, hlr⟩ := hs.objs id _ ho
  have hcs : cs = ss.map encStr := strs_cells (hlr rfl)
  subst hcs
  have fin : ∀ (w' : World) (v' : Value), w.grownBy w' (hdr id).blk → OwnR w' w0.heap.size ty 1 v' (compS ss).length ((compS ss).map encStr) → (∀ b, v'.blk = some b → (hdr id).blk = some b ∨ w.heap.size ≤ b) → ∃ s', K s' ∧ SimE F w0 gv s' (a.put d v') w' := by
    intro w' v' hg hown hbb
    have hsim := hs.reown (so := killO id) (sp := killP id) ho (w' := w') (v' := v') (es' := (compS ss).map fun l => [AV.str l]) (cs' := (compS ss).map encStr)
      (fun j hj => by simp [killO, hj]) (fun j x y hj => by simp [killP, hj]) (.inl (by simp [killO])) (.inl (fun _ _ => by simp [killP])) (strs_lens rfl) (strs_LR _) (strs_ones _) (by simpa using hown) hg hbb
    refine ⟨_, k2, _, hsim.put k1 ?_⟩
    unfold VR
    exact ⟨by simp [St.ctx, turned], by simp [St.ctx]⟩
  rcases hrow.2 with ⟨base, e, e2⟩ | ⟨g, cap, cur, e, e0, e1, e3, e4, e5, e6, e7⟩
  · have hnil : ss = [] := by
      have : (ss.map fun l => [AV.str l]).length = 0 := e2
      simpa using this
    rw [show ([hdr id] : List Value).toArray = #[.slice base 0 0] from by rw [e]]
    refine (hnone base 0 w).mono fun e' w' ⟨q1, q2⟩ => ⟨_, q1, ?_⟩
    subst q2
    refine fin _ _ ⟨rfl, rfl, rfl, Nat.le_refl _, fun _ _ _ => rfl⟩ ?_ (fun b hb => by cases base <;> simp [Value.blk] at hb)
    rw [hnil]
    refine ⟨by simp [compS, Lib.compact, Lib.compactUpTo], .inl ⟨base, rfl, by simp [compS, Lib.compact, Lib.compactUpTo]⟩⟩
  · have hn : (ss.map fun l => [AV.str l]).length = ss.length := by simp
    rw [hn] at e e4 e7
    simp only [Nat.mul_one] at e7
    rw [show ([hdr id] : List Value).toArray = #[.slice (some ⟨g, 0, none⟩) ss.length cap] from by rw [e]]
    refine (hcom g 0 cap ss w (holds_of_block e3 e7) (by omega) e4).mono fun e' w' ⟨q1, n, q2⟩ => ⟨_, q1, ?_⟩
    have hbl : (hdr id).blk = some g := by rw [e]; simp only [Value.blk]; rw [if_neg (by omega)]
    have hcl := compS_le ss
    generalize hts : (Lib.compact ss ++ List.replicate (ss.length - (Lib.compact ss).length) ([] : List UInt8)) = ts at q2
    have htl : ts.length = ss.length := by
      rw [← hts, List.length_append, List.length_replicate]
      have : (Lib.compact ss).length ≤ ss.length := hcl
      omega
    have q3 : w' = grow (putRow encStr (Sort.ahead w n) g 0 ts.toArray) #[] := by rw [q2]; exact (grow_empty _).symm
    subst q3
    have hrow2 := ownsRow_sorted (n := n) (os := #[]) (ss := ss) (ts := ts) (base := w0.heap.size) htl e1 e3 e4 e5 (by simpa using e6)
    refine fin _ _ (by rw [hbl]; exact grownBy_sorted _) ?_ (fun b hb => .inl ?_)
    · obtain ⟨r1, r2⟩ := hrow2
      rcases r2 with ⟨r2, _⟩ | ⟨g', cap', cur', r3, r4, r5, r6, r7, r8, r9⟩
      · cases r2
      · cases r3
        refine ⟨by simp, .inr ⟨g, cap, cur', rfl, e0, r4, r5, Nat.le_trans hcl r6, r7, r8, ?_⟩⟩
        have r9' : (cur'.toList.take ss.length).take (compS ss).length = (ts.map encStr).take (compS ss).length := by
          rw [← r9]
          simp only [Nat.mul_one]
        have r10 : (ts.map encStr).take (compS ss).length = (compS ss).map encStr := by
          rw [← hts, List.map_append]
          have e9 : (compS ss).length = ((Lib.compact ss).map encStr).length := by rw [List.length_map]; rfl
          rw [e9, List.take_left]
          rfl
        rw [r10, List.take_take, Nat.min_eq_left hcl] at r9'
        rw [Nat.mul_one]
        exact r9'
    · simp only [Value.blk] at hb
      rw [if_neg (by omega)] at hb
      rw [hbl]
      exact hb
end Go.Ab
