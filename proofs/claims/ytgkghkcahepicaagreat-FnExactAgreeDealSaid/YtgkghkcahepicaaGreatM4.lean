/-
  Binary search over a list; objects that are given up at an end.
  Calls of the library that turn a slice of the caller's own: Sort, Compact.
  A nil slice as an empty list that is only read.
  Plain laws: lists that rise, searched and collected.
  Calls of the library that turn a slice of numbers of the caller's own: Sort, Compact.
  An object takes another's name.
  Objects that own what they reach: flat ones turned into such; functions that write marks through all that is reached.
  Calls of functions that mark, and what such a function is out of its code.
  What a function that marks is, out of its code; such a function at what lies in a cell.
  Small steps for objects that own what they reach; marks through lists.
  No condition: definitions and lemmas over any program.
-/
import Derived.Test.YtgkghkcahepicaaGreatM3
import Derived.Sort.OwnSorted
import Derived.Lib.SlicesCompact
import Derived.Sort.Walk0
namespace Go.Ab
set_option linter.unusedVariables false

def bsGo {α : Type} (c : α → Int) (xs : List α) (i j : Nat) : Nat :=
  if h : i < j then
    match xs[(i + j) / 2]? with
    | some x => if c x < 0 then bsGo c xs ((i + j) / 2 + 1) j else bsGo c xs i ((i + j) / 2)
    | none => i
  else i
termination_by j - i
decreasing_by all_goals omega
section
variable {α : Type} {c : α → Int} {xs : List α} {i j : Nat} {x : α}
theorem bsGo_lt (h : i < j) (hx : xs[(i + j) / 2]? = some x) (hc : c x < 0) : bsGo c xs i j = bsGo c xs ((i + j) / 2 + 1) j := by
  rw [bsGo, dif_pos h, hx]
  simp only [if_pos hc]
theorem bsGo_ge (h : i < j) (hx : xs[(i + j) / 2]? = some x) (hc : ¬ c x < 0) : bsGo c xs i j = bsGo c xs i ((i + j) / 2) := by
  rw [bsGo, dif_pos h, hx]
  simp only [if_neg hc]
theorem bsGo_end (h : ¬ i < j) : bsGo c xs i j = i := by rw [bsGo, dif_neg h]
def bsPos (c : α → Int) (xs : List α) : Nat := bsGo c xs 0 xs.length
def bsHit (c : α → Int) (xs : List α) : Bool := match xs[bsPos c xs]? with | some x => c x == 0 | none => false
theorem bsHit_at (hB : bsPos c xs = i) (hx : xs[i]? = some x) : bsHit c xs = (c x == 0) := by
  unfold bsHit; rw [hB, hx]
theorem bsHit_end (hB : bsPos c xs = i) (hx : ¬ i < xs.length) : bsHit c xs = false := by
  unfold bsHit; rw [hB, List.getElem?_eq_none (by omega)]
theorem bsGo_of (m : Nat) (hm : m ≤ xs.length) (h1 : ∀ k x, k < m → xs[k]? = some x → c x < 0) (h2 : ∀ k x, m ≤ k → xs[k]? = some x → ¬ c x < 0) : ∀ d i j, j - i ≤ d → i ≤ m → m ≤ j → j ≤ xs.length → bsGo c xs i j = m := by
  intro d
  induction d with
  | zero => intro i j h3 h4 h5 h6; rw [bsGo_end (by omega)]; omega
  | succ d ih =>
    intro i j h3 h4 h5 h6
    by_cases hlt : i < j
    · have hx : xs[(i + j) / 2]? = some xs[(i + j) / 2] := List.getElem?_eq_getElem (by omega)
      by_cases hc : c xs[(i + j) / 2] < 0
      · rw [bsGo_lt hlt hx hc]
        refine ih _ _ (by omega) ?_ h5 h6
        by_cases hle : m ≤ (i + j) / 2
        · exact absurd hc (h2 _ _ hle hx)
        · omega
      · rw [bsGo_ge hlt hx hc]
        refine ih _ _ (by omega) h4 ?_ (by omega)
        by_cases hle : (i + j) / 2 < m
        · exact absurd (h1 _ _ hle hx) hc
        · omega
    · rw [bsGo_end hlt]; omega
theorem bsPos_of (m : Nat) (hm : m ≤ xs.length) (h1 : ∀ k x, k < m → xs[k]? = some x → c x < 0) (h2 : ∀ k x, m ≤ k → xs[k]? = some x → ¬ c x < 0) : bsPos c xs = m :=
  bsGo_of m hm h1 h2 _ 0 _ (Nat.le_refl _) (Nat.zero_le _) hm (Nat.le_refl _)
end

theorem mid_eq (i j : Nat) (h : i + j ≤ 18446744073709551614) : IntKind.i64.wrap ((IntKind.u64.wrap (IntKind.i64.wrap ((i : Int) + (j : Int)))).fdiv (2 ^ (min (1 : Int).toNat IntKind.u64.bits))) = (((i + j) / 2 : Nat) : Int) := by
  have hu : ∀ e : Int, IntKind.u64.wrap e = e % 18446744073709551616 := by
    intro e
    unfold IntKind.wrap
    simp [IntKind.bits, IntKind.signed]
  have hp : ((2 : Int) ^ (min (1 : Int).toNat IntKind.u64.bits)) = 2 := by
    have : min (1 : Int).toNat IntKind.u64.bits = 1 := by rfl
    rw [this]; rfl
  rw [hp, hu, i64_wrap_eq, i64_wrap_eq, Int.fdiv_eq_ediv_of_nonneg _ (by omega)]
  omega

theorem mid_next (i j : Nat) (h : i + j ≤ 18446744073709551614) (h2 : (i + j) / 2 < 9223372036854775807) : IntKind.i64.wrap (IntKind.i64.wrap ((IntKind.u64.wrap (IntKind.i64.wrap ((i : Int) + (j : Int)))).fdiv (2 ^ (min (1 : Int).toNat IntKind.u64.bits))) + 1) = (((i + j) / 2 + 1 : Nat) : Int) := by
  rw [mid_eq i j h, i64_wrap_eq]
  omega

theorem one_lenC {L : List (List AV)} {e : List AV} {n : Nat} (hL : L = [e]) (he : e.length = n) : ∀ z ∈ L, z.length = n := by
  subst hL
  intro z hz
  simp at hz
  rw [hz]
  exact he
theorem app_boundC {L M : List (List AV)} {b : Nat} (hM : M.length = 1) (hL : L.length ≤ 2097152) (hb : b ≤ 64) : L.length + M.length ≤ 70368744177664 ∧ (L.length + M.length) * b ≤ 140737488355328 := by
  rw [hM]
  refine ⟨by omega, ?_⟩
  have : (L.length + 1) * b ≤ (L.length + 1) * 64 := Nat.mul_le_mul_left _ hb
  omega

/-! Objects given up. -/
theorem St.le_frz (s : St) (ids : List Nat) : s.le (frzIds s ids) := by
  intro F w0 gv a w ⟨hdr, h⟩
  exact ⟨hdr, (frzIds_ok ids s h).1⟩
theorem OutA_frz {P : Program} {sh : Bool} {rs : List ResultVar} {r : AV} {os : List AObj} {s : St} (ids : List Nat) (h : OutA P sh rs r os (frzIds s ids)) : OutA P sh rs r os s :=
  OutA_le (St.le_frz s ids) h
theorem Loop_frz {body : (Exit → St → Prop) → St → Prop} {K : Exit → St → Prop} {s : St} (ids : List Nat) (h : Loop body K (frzIds s ids)) : Loop body K s := by
  unfold Loop at h ⊢
  obtain ⟨J, I, m, j0, h0, hb⟩ := h
  exact ⟨J, I, m, j0, St.le_trans (St.le_frz s ids) h0, hb⟩
end Go.Ab
namespace Go.Ab
open Go.Sort Go.Proofs
set_option linter.unusedVariables false

theorem turned_id (s : St) (id : Nat) (o' : AObj) : turned s (fun j => .own j) (fun j x y => .ptr j x y) (fun j x y z => .cel j x y z) id (some o') = setObj s id o' := by
  cases s with
  | mk e z o n g =>
    simp only [turned, setObj]
    congr 1
    · funext t; exact AV.sub_id _
    · funext i
      by_cases h : i = id
      · simp [h]
      · simp only [h, if_false]
        cases o i with
        | none => rfl
        | some x => simp [subO_id]
    · exact AV.subL_id g

section
variable {F : Nat → Prop} {w0 : Base} {gv : List Value} {s : St} {a : Act} {w : World} {hdr : Nat → Hdr}

theorem Sim.reown (h : Sim F w0 gv s a w hdr) {id : Nat} {o : AObj} (ho : s.objs id = some o) (hk : o.kind = .slc) {w' : World} {v' : Value} {es' : List (List AV)} {cs' : List Value} {so : Nat → AV} {sp : Nat → Nat → Nat → AV} {sc : SC}
    (hso : ∀ j, j ≠ id → so j = .own j) (hsp : ∀ j x y, j ≠ id → sp j x y = .ptr j x y) (hsc : ∀ j x y z, j ≠ id → sc j x y z = .cel j x y z)
    (hoid : so id = .any ∨ (so id = .own id ∧ v' = (hdr id).v)) (hpid : (∀ x y, sp id x y = .any) ∨ ((∀ x y, sp id x y = .ptr id x y) ∧ v' = (hdr id).v))
    (hqid : (∀ j x y z, sc id 0 0 [] = .cel j x y z → False) ∨ (sc id 0 0 [] = .cel id 0 0 [] ∧ ∀ b m c, (hdr id).v = .slice (some ⟨b, 0, none⟩) m c → ∃ m', v' = .slice (some ⟨b, 0, none⟩) m' c))
    (hl : ∀ e ∈ es', e.length = o.esz) (hlr : LR w (roOf F w hdr s.objs) es'.flatten cs') (hcs : ∀ u ∈ cs', u.oneCell' = true)
    (hown : OwnR w' w0.N o.ty o.esz v' es'.length cs') (hg : w.grownBy w' (hdr id).blk)
    (hb' : ∀ b, v'.blk = some b → (hdr id).blk = some b ∨ w.heap.size ≤ b) :
    Sim F w0 gv (turned s so sp sc id (some { o with elems := es' })) a w' (fun i => if i = id then ⟨v', []⟩ else hdr i) := by
  have hpos := (h.objs id o ho).pos
  refine h.turn (o0 := o) ho hg (fun j hj => by simp [hj]) hso hsp hsc ?_ ?_ ?_ ?_ ?_ ?_
  · intro v hv
    rcases hoid with e | ⟨e, e2⟩
    · rw [e]; unfold VR; trivial
    · rw [e]
      unfold VR at hv ⊢
      refine ⟨by simp [St.ctx, turned], ?_⟩
      simp [St.ctx]
      rw [e2]
      exact hv.2
  · intro x y v hv
    rcases hpid with e | ⟨e, e2⟩
    · rw [e]; unfold VR; trivial
    · rw [e]
      unfold VR at hv ⊢
      obtain ⟨o1, b, k1, k2, k3⟩ := hv
      have : o1 = o := by
        have k1' : s.objs id = some o1 := k1
        rw [ho] at k1'; cases k1'; rfl
      subst this
      exact ⟨{ o1 with elems := es' }, b, by simp [St.ctx, turned], by simp [St.ctx, Hdr.blk]; rw [e2]; exact k2, k3⟩
  · intro x y z v hv
    exfalso
    unfold VR at hv
    obtain ⟨o1, b, sh, e, k1, k2, _⟩ := hv
    have k1' : s.objs id = some o1 := k1
    rw [ho] at k1'; cases k1'
    rw [hk] at k2; cases k2
  · intro j x y z lo n cp v e hv
    rcases hqid with e1 | ⟨e1, e2⟩
    · exact (e1 _ _ _ _ e).elim
    · rw [e1] at e
      cases e
      obtain ⟨o1, k1, k2, k3, k4⟩ := hv
      replace k1 : s.objs id = some o1 := k1
      rw [ho] at k1
      cases k1
      refine ⟨{ o with elems := es' }, by simp [St.ctx, turned], k2, k3, ?_⟩
      show _ ∨ (_ ∧ ∃ b m, (ite (id = id) (⟨v', []⟩ : Hdr) (hdr id)).v = _ ∧ _)
      rw [if_pos rfl]
      rcases k4 with k4 | ⟨q1, b, m, q2, q3⟩
      · exact .inl k4
      · obtain ⟨m', e3⟩ := e2 b m _ q2
        exact .inr ⟨q1, b, m', e3, q3⟩
  · intro hR o1 e1
    cases e1
    simp only [if_true]
    refine ⟨hpos, hl, nd_nil, cs', hown, hcs, CellsR_slc hk (LR.ofR hR _ _ hlr)⟩
  · intro o1 b _ e
    simp only [if_true] at e
    rcases e with e | e
    · exact (hb' b e).imp .inl (fun h => h)
    · cases e
end

theorem strs_cells {w : World} {ro : Nat → Prop} : ∀ {ss : List (List UInt8)} {cs : List Value}, LR w ro (ss.map fun l => [AV.str l]).flatten cs → cs = ss.map encStr
  | [], [], _ => rfl
  | [], _ :: _, h => by unfold LR at h; exact h.elim
  | s :: ss, [], h => by simp only [List.map_cons, List.flatten_cons, List.cons_append] at h; unfold LR at h; exact h.elim
  | s :: ss, c :: cs, h => by
    simp only [List.map_cons, List.flatten_cons, List.cons_append, List.nil_append] at h
    unfold LR at h
    have h1 := h.1
    unfold RR at h1
    rw [strs_cells h.2, h1]
    rfl
theorem strs_LR {w : World} {ro : Nat → Prop} : ∀ (ss : List (List UInt8)), LR w ro (ss.map fun l => [AV.str l]).flatten (ss.map encStr)
  | [] => by simp only [List.map_nil, List.flatten_nil]; unfold LR; trivial
  | s :: ss => by
    simp only [List.map_cons, List.flatten_cons, List.cons_append, List.nil_append]
    unfold LR
    exact ⟨by unfold RR; rfl, strs_LR ss⟩
theorem strs_ones (ss : List (List UInt8)) : ∀ u ∈ ss.map encStr, u.oneCell' = true := by
  intro u hu
  obtain ⟨x, _, rfl⟩ := List.mem_map.1 hu
  rfl
theorem strs_lens {ss : List (List UInt8)} {n : Nat} (h : 1 = n) : ∀ e ∈ ss.map fun l => [AV.str l], e.length = n := by
  intro e he
  obtain ⟨x, _, rfl⟩ := List.mem_map.1 he
  exact h

def sortS (ss : List (List UInt8)) : List (List UInt8) := ss.mergeSort fun x y => decide (x ≤ y)

theorem CallSortS {P : Program} {f : Nat} {fn : Func} {c : Code} (hf : P.funcs[f]? = some fn) (hname : (fn.name == "runtime.NumGoroutine") = false) (hb : fn.body = some c)
    (hsort : ∀ (blk off cap : Nat) (ss : List (List UInt8)) (w : World), Holds encStr w blk off ss.toArray → blk < w.heap.size → ss.length < 4611686018427387904 →
      Calls P f #[.slice (some ⟨blk, off, none⟩) ss.length cap] w fun e w' => e = .returned (.tuple #[]) ∧ ∃ n os, w' = grow (putRow encStr (Sort.ahead w n) blk off (ss.mergeSort fun x y => decide (x ≤ y)).toArray) os)
    (hnone : ∀ (p : Option Addr) (cap : Nat) (w : World), Calls P f #[.slice p 0 cap] w fun e w' => e = .returned (.tuple #[]) ∧ w' = w)
    {s : St} {id ty : Nat} {ss : List (List UInt8)} (hlen : ss.length ≤ 4194304) (ho : s.objs id = some ⟨.slc, ty, 1, ss.map fun l => [AV.str l]⟩) {nid : Nat} {d : Option Nat} {K : St → Prop}
    (h : St.putN (setObj s id ⟨.slc, ty, 1, (sortS ss).map fun l => [AV.str l]⟩) d (.tup []) K) : CallA P f [.own id] s nid d K := by
  unfold CallA
  refine .inl fun F w0 gv a w hdr hs vals hargs => (Ans_body hf hname hb).2 ?_
  obtain ⟨k1, k2⟩ := putK_elim (putN_elim h)
  obtain ⟨v, rfl⟩ : ∃ v, vals = [v] := by
    match vals, hargs with
    | [v], _ => exact ⟨v, rfl⟩
    | [], h => unfold VL at h; exact h.elim
    | _ :: _ :: _, h => unfold VL at h; have := h.2; unfold VL at this; exact this.elim
  unfold VL at hargs
  have hv := hargs.1
  unfold VR at hv
  obtain ⟨_, hv⟩ := hv
  replace hv : v = (hdr id).v := hv
  subst hv
  obtain ⟨hpos, hlens, _, cs, hrow, hones, hcl⟩ := hs.objs id _ ho
  have hcs : cs = ss.map encStr := strs_cells (hcl.slc rfl).1
  subst hcs
  have hll : (sortS ss).length = ss.length := by simp [sortS]
  have fin : ∀ w' : World, w.grownBy w' (hdr id).blk → OwnR w' w0.N ty 1 (hdr id).v (sortS ss).length ((sortS ss).map encStr) → ∃ s', K s' ∧ SimE F w0 gv s' (a.put d (.tuple #[])) w' := by
    intro w' hg hown
    have hsim := hs.reown (so := fun j => .own j) (sp := fun j x y => .ptr j x y) (sc := fun j x y z => .cel j x y z) ho rfl (w' := w') (v' := (hdr id).v) (es' := (sortS ss).map fun l => [AV.str l]) (cs' := (sortS ss).map encStr)
      (fun _ _ => rfl) (fun _ _ _ _ => rfl) (fun _ _ _ _ _ => rfl) (.inr ⟨rfl, rfl⟩) (.inr ⟨fun _ _ => rfl, rfl⟩) (.inr ⟨rfl, fun _ m _ h => ⟨m, h⟩⟩) (strs_lens rfl) (strs_LR _) (strs_ones _) (by simpa using hown) hg (fun b hb => .inl hb)
    rw [turned_id] at hsim
    refine ⟨_, k2, _, hsim.put k1 ?_⟩
    unfold VR
    exact ⟨#[], rfl, VL.nil⟩
  rcases hrow.2 with ⟨base, e, e2⟩ | ⟨g, cap, cur, e, e0, e1, e3, e4, e5, e6, e7⟩
  · have hnil : ss = [] := by
      have : (ss.map fun l => [AV.str l]).length = 0 := e2
      simpa using this
    rw [show ([(hdr id).v] : List Value).toArray = #[.slice base 0 0] from by rw [e]]
    refine (hnone base 0 w).mono fun e' w' ⟨q1, q2⟩ => ⟨_, q1, ?_⟩
    subst q2
    refine fin _ ⟨rfl, rfl, rfl, Nat.le_refl _, fun _ _ _ => rfl⟩ ?_
    rw [hnil]
    rw [hnil] at hrow
    have hr : OwnR w' w0.N ty 1 (hdr id).v 0 [] := by
      have hr0 := hrow
      simp only [List.map_nil, List.length_nil] at hr0
      exact hr0
    simpa [sortS] using hr
  · have hn : (ss.map fun l => [AV.str l]).length = ss.length := by simp
    rw [hn] at e e4 e7
    simp only [Nat.mul_one] at e7
    rw [show ([(hdr id).v] : List Value).toArray = #[.slice (some ⟨g, 0, none⟩) ss.length cap] from by rw [e]]
    have hlt : ss.length < 4611686018427387904 := by omega
    refine (hsort g 0 cap ss w (holds_of_block e3 e7) ((Array.getElem?_eq_some_iff.1 e3).1) hlt).mono fun e' w' ⟨q1, n, os, q2⟩ => ⟨_, q1, ?_⟩
    subst q2
    have hbl : (hdr id).blk = some g := by unfold Hdr.blk; rw [e]; exact blk_slice e0
    refine fin _ (by rw [hbl]; exact grownBy_sorted _) ?_
    have := ownsRow_sorted (n := n) (os := os) (ss := ss) (ts := sortS ss) (base := 0) hll (Nat.zero_le _) e3 e4 e5 (by simpa using e6)
    rw [← e] at this
    rw [hll]
    exact OwnR.of_rowN this (fun b hb => by rw [show (hdr id).v.blk = some g from hbl] at hb; cases hb; exact e1)

def compS (ss : List (List UInt8)) : List (List UInt8) := Lib.compact ss
theorem compS_le (ss : List (List UInt8)) : (compS ss).length ≤ ss.length := by
  unfold compS Lib.compact Lib.compactUpTo
  rw [List.length_map]
  exact Nat.le_trans (List.length_filter_le _ _) (by simp)
theorem CallCompactS {P : Program} {f : Nat} {fn : Func} {c : Code} (hf : P.funcs[f]? = some fn) (hname : (fn.name == "runtime.NumGoroutine") = false) (hb : fn.body = some c)
    (hcom : ∀ (blk off cap : Nat) (zs : List (List UInt8)) (w : World), Holds encStr w blk off zs.toArray → zs.length ≤ 9223372036854775807 → zs.length ≤ cap →
      Calls P f #[.slice (some ⟨blk, off, none⟩) zs.length cap] w fun e w' => e = .returned (.slice (some ⟨blk, off, none⟩) (Lib.compact zs).length cap) ∧ ∃ q, w' = putRow encStr (Sort.ahead w q) blk off (Lib.compact zs ++ List.replicate (zs.length - (Lib.compact zs).length) []).toArray)
    (hnone : ∀ (p : Option Addr) (cap : Nat) (w : World), Calls P f #[.slice p 0 cap] w fun e w' => e = .returned (.slice p 0 cap) ∧ w' = w)
    {s : St} {id ty : Nat} {ss : List (List UInt8)} (hlen : ss.length ≤ 4194304) (ho : s.objs id = some ⟨.slc, ty, 1, ss.map fun l => [AV.str l]⟩) {nid : Nat} {d : Option Nat} {K : St → Prop}
    (h : St.putN (turned s (killO id) (killP id) (killC id) id (some ⟨.slc, ty, 1, (compS ss).map fun l => [AV.str l]⟩)) d (.own id) K) : CallA P f [.own id] s nid d K := by
  unfold CallA
  refine .inl fun F w0 gv a w hdr hs vals hargs => (Ans_body hf hname hb).2 ?_
  obtain ⟨k1, k2⟩ := putK_elim (putN_elim h)
  obtain ⟨v, rfl⟩ : ∃ v, vals = [v] := by
    match vals, hargs with
    | [v], _ => exact ⟨v, rfl⟩
    | [], h => unfold VL at h; exact h.elim
    | _ :: _ :: _, h => unfold VL at h; have := h.2; unfold VL at this; exact this.elim
  unfold VL at hargs
  have hv := hargs.1
  unfold VR at hv
  obtain ⟨_, hv⟩ := hv
  replace hv : v = (hdr id).v := hv
  subst hv
  obtain ⟨hpos, hlens, _, cs, hrow, hones, hcl⟩ := hs.objs id _ ho
  have hcs : cs = ss.map encStr := strs_cells (hcl.slc rfl).1
  subst hcs
  have fin : ∀ (w' : World) (v' : Value), w.grownBy w' (hdr id).blk → OwnR w' w0.N ty 1 v' (compS ss).length ((compS ss).map encStr) → (∀ b, v'.blk = some b → (hdr id).blk = some b ∨ w.heap.size ≤ b) → ∃ s', K s' ∧ SimE F w0 gv s' (a.put d v') w' := by
    intro w' v' hg hown hbb
    have hsim := hs.reown (so := killO id) (sp := killP id) (sc := killC id) ho rfl (w' := w') (v' := v') (es' := (compS ss).map fun l => [AV.str l]) (cs' := (compS ss).map encStr)
      (fun j hj => by simp [killO, hj]) (fun j x y hj => by simp [killP, hj]) (fun j x y z hj => by simp [killC, hj]) (.inl (by simp [killO])) (.inl (fun _ _ => by simp [killP])) (.inl (fun _ _ _ _ e => by simp [killC] at e)) (strs_lens rfl) (strs_LR _) (strs_ones _) (by simpa using hown) hg hbb
    refine ⟨_, k2, _, hsim.put k1 ?_⟩
    unfold VR
    exact ⟨by simp [St.ctx, turned], by simp [St.ctx]⟩
  rcases hrow.2 with ⟨base, e, e2⟩ | ⟨g, cap, cur, e, e0, e1, e3, e4, e5, e6, e7⟩
  · have hnil : ss = [] := by
      have : (ss.map fun l => [AV.str l]).length = 0 := e2
      simpa using this
    rw [show ([(hdr id).v] : List Value).toArray = #[.slice base 0 0] from by rw [e]]
    refine (hnone base 0 w).mono fun e' w' ⟨q1, q2⟩ => ⟨_, q1, ?_⟩
    subst q2
    refine fin _ _ ⟨rfl, rfl, rfl, Nat.le_refl _, fun _ _ _ => rfl⟩ ?_ (fun b hb => by cases base <;> simp [Value.blk] at hb)
    rw [hnil]
    refine ⟨by simp [compS, Lib.compact, Lib.compactUpTo], .inl ⟨base, rfl, by simp [compS, Lib.compact, Lib.compactUpTo]⟩⟩
  · have hn : (ss.map fun l => [AV.str l]).length = ss.length := by simp
    rw [hn] at e e4 e7
    simp only [Nat.mul_one] at e7
    rw [show ([(hdr id).v] : List Value).toArray = #[.slice (some ⟨g, 0, none⟩) ss.length cap] from by rw [e]]
    refine (hcom g 0 cap ss w (holds_of_block e3 e7) (by omega) e4).mono fun e' w' ⟨q1, n, q2⟩ => ⟨_, q1, ?_⟩
    have hbl : (hdr id).blk = some g := by unfold Hdr.blk; rw [e]; exact blk_slice e0
    have hcl := compS_le ss
    generalize hts : (Lib.compact ss ++ List.replicate (ss.length - (Lib.compact ss).length) ([] : List UInt8)) = ts at q2
    have htl : ts.length = ss.length := by
      rw [← hts, List.length_append, List.length_replicate]
      have : (Lib.compact ss).length ≤ ss.length := hcl
      omega
    have q3 : w' = grow (putRow encStr (Sort.ahead w n) g 0 ts.toArray) #[] := by rw [q2]; exact (grow_empty _).symm
    subst q3
    have hrow2 := ownsRow_sorted (n := n) (os := #[]) (ss := ss) (ts := ts) (base := 0) htl (Nat.zero_le _) e3 e4 e5 (by simpa using e6)
    refine fin _ _ (by rw [hbl]; exact grownBy_sorted _) ?_ (fun b hb => .inl ?_)
    · obtain ⟨r1, r2⟩ := hrow2
      rcases r2 with ⟨r2, _⟩ | ⟨g', cap', cur', r3, r4, r5, r6, r7, r8, r9⟩
      · cases r2
      · cases r3
        refine ⟨by simp, .inr ⟨g, cap, cur', rfl, e0, e1, r5, Nat.le_trans hcl r6, r7, r8, ?_⟩⟩
        have r9' : (cur'.toList.take ss.length).take (compS ss).length = (ts.map encStr).take (compS ss).length := by
          rw [← r9]
          simp only [Nat.mul_one]
        have r10 : (ts.map encStr).take (compS ss).length = (compS ss).map encStr := by
          rw [← hts, List.map_append]
          have e9 : (compS ss).length = ((Lib.compact ss).map encStr).length := by rw [List.length_map]; rfl
          rw [e9, List.take_left]
          rfl
        rw [r10, List.take_take, Nat.min_eq_left hcl] at r9'
        rw [Nat.mul_one]
        exact r9'
    · simp only [Value.blk] at hb
      rw [if_neg (by omega)] at hb
      rw [hbl]
      exact hb
end Go.Ab
namespace Go.Ab
set_option linter.unusedVariables false

theorem VR_nilS {c : Ctx} {v : Value} (h : VR c .nil v) : VR c (.sl []) v := by
  unfold VR at h
  obtain ⟨base, rfl⟩ := h
  unfold VR RR
  exact ⟨base, 0, rfl, Nat.le_refl _, .inl rfl⟩
theorem St.le_nilS {e : Nat → AV} {z : Nat} {o : Nat → Option AObj} {n : Nat} {g : List AV} (t : Nat) (ht : e t = .nil) : St.le ⟨e, z, o, n, g⟩ ⟨upd t (.sl []) e, z, o, n, g⟩ := by
  intro F w0 gv a w ⟨hdr, h⟩
  refine ⟨hdr, fun t' => ?_, h.sz, h.defers, h.gh, h.objs, h.dis, h.below, h.free⟩
  rw [upd_eq]
  by_cases e1 : t' = t
  · subst e1
    have hv := h.env t'
    have ht2 : St.env ⟨e, z, o, n, g⟩ t' = .nil := ht
    rw [ht2] at hv
    show VR _ (if t' = t' then AV.sl [] else e t') _
    rw [if_pos rfl]
    exact VR_nilS (c := St.ctx ⟨e, z, o, n, g⟩ F w hdr) hv
  · show VR _ (if t' = t then AV.sl [] else e t') _
    rw [if_neg e1]
    exact h.env t'
theorem Loop_nilS {body : (Exit → St → Prop) → St → Prop} {K : Exit → St → Prop} {e : Nat → AV} {z : Nat} {o : Nat → Option AObj} {n : Nat} {g : List AV} (t : Nat) (ht : e t = .nil)
    (h : Loop body K ⟨upd t (.sl []) e, z, o, n, g⟩) : Loop body K ⟨e, z, o, n, g⟩ := by
  unfold Loop at h ⊢
  obtain ⟨J, I, m, j0, h0, hb⟩ := h
  exact ⟨J, I, m, j0, St.le_trans (St.le_nilS t ht) h0, hb⟩
theorem RR_nilS {w : World} {ro : Nat → Prop} {v : Value} (h : RR w ro .nil v) : RR w ro (.sl []) v := by
  unfold RR at h
  obtain ⟨base, rfl⟩ := h
  unfold RR
  exact ⟨base, 0, rfl, Nat.le_refl _, .inl rfl⟩
theorem PC.nil2 {P : Program} {sh : Bool} {f : Nat} {x r : AV} {os : List AObj} (h : PC P sh f [x, .sl []] r os) : PC P sh f [x, .nil] r os := by
  refine ⟨fun w R vals hR hv => h.run w R vals hR ?_⟩
  match vals, hv with
  | [a, b], hv =>
    unfold LR at hv
    have h2 := hv.2
    unfold LR at h2
    unfold LR
    refine ⟨hv.1, ?_⟩
    unfold LR
    exact ⟨RR_nilS h2.1, h2.2⟩
  | [], hv => unfold LR at hv; exact hv.elim
  | [_], hv => unfold LR at hv; have := hv.2; unfold LR at this; exact this.elim
  | _ :: _ :: _ :: _, hv =>
    unfold LR at hv
    have h2 := hv.2
    unfold LR at h2
    have h3 := h2.2
    unfold LR at h3
    exact h3.elim
theorem app_bound2 {L M : List (List AV)} {b : Nat} (h : L.length + M.length ≤ 2097152) (hb : b ≤ 64) : L.length + M.length ≤ 70368744177664 ∧ (L.length + M.length) * b ≤ 140737488355328 := by
  refine ⟨by omega, ?_⟩
  have : (L.length + M.length) * b ≤ (L.length + M.length) * 64 := Nat.mul_le_mul_left _ hb
  omega
theorem ix_at {α : Type} {f : α → List AV} {xs : List α} {n : Int} {m : Nat} {x : α} {Q : List AV → Prop} (e : n = (m : Int)) (hx : xs[m]? = some x) (hQ : Q (f x)) : 0 ≤ n ∧ ∃ y, (xs.map f)[n.toNat]? = some y ∧ Q y := by
  subst e
  exact ⟨by omega, f x, by simp [hx], hQ⟩
theorem ix_re {α : Type} {f : α → List AV} {xs : List α} {n : Int} {x : α} {Q : List AV → Prop} (h0 : 0 ≤ n) (hx : xs[n.toNat]? = some x) (hQ : Q (f x)) : 0 ≤ n ∧ ∃ y, (xs.map f)[n.toNat]? = some y ∧ Q y :=
  ⟨h0, f x, by simp [hx], hQ⟩
theorem or_ff {a b : Bool} (h : a = false) (h2 : b = false) : (a || b) = false := by rw [h, h2]; rfl
theorem or_t1 {a b : Bool} (h : a = true) : (a || b) = true := by rw [h]; rfl
theorem or_t2 {a b : Bool} (h : b = true) : (a || b) = true := by rw [h, Bool.or_true]
theorem idxF_lt {α : Type} {q : α → Bool} : ∀ {xs : List α} {k : Nat} {n : Int}, idxF q k xs = n → 0 ≤ n → ∃ x, xs[n.toNat - k]? = some x ∧ q x = true ∧ (k : Int) ≤ n
  | [], k, n, h, hn => by unfold idxF at h; omega
  | x :: xs, k, n, h, hn => by
    unfold idxF at h
    by_cases hq : q x = true
    · rw [if_pos hq] at h
      subst h
      refine ⟨x, ?_, hq, by omega⟩
      have : (k : Int).toNat - k = 0 := by simp
      rw [this]; rfl
    · rw [if_neg hq] at h
      obtain ⟨y, h1, h2, h3⟩ := idxF_lt (xs := xs) (k := k + 1) h hn
      refine ⟨y, ?_, h2, by omega⟩
      have : n.toNat - k = (n.toNat - (k + 1)) + 1 := by omega
      rw [this]
      simpa using h1
end Go.Ab
namespace Go.Ab
open Go.Proofs
set_option linter.unusedVariables false

theorem bl_irr (a : List UInt8) : Op.bytesLess a a = false := by
  rw [bytesLess_eq]
  exact decide_eq_false (List.lt_irrefl a)
theorem bl_tr {a b c : List UInt8} (h : Op.bytesLess a b = true) (h2 : Op.bytesLess b c = true) : Op.bytesLess a c = true := by
  rw [bytesLess_eq, decide_eq_true_eq] at *
  exact List.lt_trans h h2
theorem bl_tot {a b : List UInt8} (h : Op.bytesLess a b = false) (h2 : ¬ a = b) : Op.bytesLess b a = true := by
  have := bl_leq a b
  rw [h] at this
  have e : (a == b) = false := beq_eq_false_iff_ne.2 h2
  rw [e] at this
  simpa using this.symm
theorem bl_asym {a b : List UInt8} (h : Op.bytesLess a b = true) : Op.bytesLess b a = false := by
  cases h2 : Op.bytesLess b a with
  | false => rfl
  | true => have := bl_tr h h2; rw [bl_irr] at this; cases this
theorem ble_tr2 {a b c : List UInt8} (h : Op.bytesLess a b = true) (h2 : Op.bytesLess c b = false) : Op.bytesLess a c = true := by
  by_cases e : b = c
  · rw [← e]; exact h
  · exact bl_tr h (bl_tot h2 (fun e' => e e'.symm))

section
variable {α : Type} {c : α → Int} {xs : List α}
theorem bs_place (hs : xs.Pairwise fun a b => c b ≤ 0 → c a < 0) : (∀ k x, k < bsPos c xs → xs[k]? = some x → c x < 0) ∧ (∀ k x, bsPos c xs ≤ k → xs[k]? = some x → ¬ c x < 0) := by
  have key : ∃ m, m ≤ xs.length ∧ (∀ k x, k < m → xs[k]? = some x → c x < 0) ∧ (∀ k x, m ≤ k → xs[k]? = some x → ¬ c x < 0) := by
    induction xs with
    | nil => exact ⟨0, Nat.le_refl _, fun k x h => absurd h (Nat.not_lt_zero _), fun k x _ h => by simp at h⟩
    | cons y ys ih =>
      rw [List.pairwise_cons] at hs
      obtain ⟨m, h0, h1, h2⟩ := ih hs.2
      by_cases hy : c y < 0
      · refine ⟨m + 1, by simp; omega, fun k x hk hx => ?_, fun k x hk hx => ?_⟩
        · cases k with
          | zero => simp at hx; subst hx; exact hy
          | succ k => exact h1 k x (by omega) (by simpa using hx)
        · cases k with
          | zero => omega
          | succ k => exact h2 k x (by omega) (by simpa using hx)
      · refine ⟨0, Nat.zero_le _, fun k x hk => absurd hk (Nat.not_lt_zero _), fun k x _ hx => ?_⟩
        cases k with
        | zero => simp at hx; subst hx; exact hy
        | succ k =>
          have hm : x ∈ ys := List.mem_of_getElem? (by simpa using hx)
          intro hc
          exact hy (hs.1 x hm (by omega))
  obtain ⟨m, h0, h1, h2⟩ := key
  rw [bsPos_of m h0 h1 h2]
  exact ⟨h1, h2⟩
theorem bs_at (hs : xs.Pairwise fun a b => c b ≤ 0 → c a < 0) {j : Nat} {x : α} (hx : xs[j]? = some x) (h0 : c x = 0) : j = bsPos c xs := by
  obtain ⟨h1, h2⟩ := bs_place hs
  rcases Nat.lt_trichotomy j (bsPos c xs) with h | h | h
  · have := h1 j x h hx; omega
  · exact h
  · have hlt : bsPos c xs < xs.length := by have := (List.getElem?_eq_some_iff.1 hx).1; omega
    have hy : xs[bsPos c xs]? = some xs[bsPos c xs] := List.getElem?_eq_getElem hlt
    have h3 := h2 _ _ (Nat.le_refl _) hy
    obtain ⟨hj, hjx⟩ := List.getElem?_eq_some_iff.1 hx
    have := List.pairwise_iff_getElem.1 hs _ _ hlt hj h
    rw [hjx] at this
    exact absurd (this (by omega)) h3
theorem bs_hit (hs : xs.Pairwise fun a b => c b ≤ 0 → c a < 0) : bsHit c xs = xs.any fun x => c x == 0 := by
  cases ha : xs.any fun x => c x == 0 with
  | true =>
    obtain ⟨x, hx, h0⟩ := List.any_eq_true.1 ha
    obtain ⟨j, hj, rfl⟩ := List.getElem_of_mem hx
    have hj2 : xs[j]? = some xs[j] := List.getElem?_eq_getElem hj
    have e := bs_at hs hj2 (beq_iff_eq.1 h0)
    unfold bsHit
    rw [← e, hj2]
    exact h0
  | false =>
    unfold bsHit
    split
    · rename_i x hx
      have := List.any_eq_false.1 ha x (List.mem_of_getElem? hx)
      simpa using this
    · rfl
theorem bs_find (hs : xs.Pairwise fun a b => c b ≤ 0 → c a < 0) {p : α → Bool} (hp : ∀ x ∈ xs, p x = (c x == 0)) (h : bsHit c xs = true) : xs.find? p = xs[bsPos c xs]? := by
  cases hf : xs.find? p with
  | none =>
    rw [bs_hit hs] at h
    obtain ⟨x, hx, h0⟩ := List.any_eq_true.1 h
    have := List.find?_eq_none.1 hf x hx
    rw [hp x hx, h0] at this
    exact absurd rfl this
  | some y =>
    have hy := List.mem_of_find?_eq_some hf
    have h0 := List.find?_some hf
    rw [hp y hy] at h0
    obtain ⟨j, hj, rfl⟩ := List.getElem_of_mem hy
    rw [← bs_at hs (List.getElem?_eq_getElem hj) (beq_iff_eq.1 h0), List.getElem?_eq_getElem hj]
theorem bs_isSome (hs : xs.Pairwise fun a b => c b ≤ 0 → c a < 0) {p : α → Bool} (hp : ∀ x ∈ xs, p x = (c x == 0)) : bsHit c xs = (xs.find? p).isSome := by
  rw [bs_hit hs]
  cases hf : xs.find? p with
  | none =>
    simp only [Option.isSome_none]
    rw [List.any_eq_false]
    intro x hx h0
    have := List.find?_eq_none.1 hf x hx
    rw [hp x hx, h0] at this
    exact this rfl
  | some y =>
    simp only [Option.isSome_some]
    rw [List.any_eq_true]
    have hy := List.mem_of_find?_eq_some hf
    have h0 := List.find?_some hf
    rw [hp y hy] at h0
    exact ⟨y, hy, h0⟩
end

/-! Lists that are collected. -/
theorem mem_compactUpTo {d : Array (List UInt8)} {x : List UInt8} : ∀ m, m ≤ d.size → (x ∈ Lib.compactUpTo d m ↔ ∃ j, j < m ∧ d[j]! = x)
  | 0, _ => by simp [Lib.compactUpTo]
  | m + 1, hm => by
    have ih := mem_compactUpTo (d := d) (x := x) m (by omega)
    rw [Lib.compactUpTo_succ, List.mem_append, ih]
    constructor
    · rintro (⟨j, hj, e⟩ | h)
      · exact ⟨j, by omega, e⟩
      · split at h
        · simp at h; exact ⟨m, by omega, h.symm⟩
        · simp at h
    · rintro ⟨j, hj, e⟩
      by_cases hjm : j = m
      · subst hjm
        cases hk : Lib.keeps d j with
        | true => right; simp [e]
        | false =>
          left
          unfold Lib.keeps at hk
          rw [decide_eq_false_iff_not, not_or] at hk
          refine ⟨j - 1, by omega, ?_⟩
          rw [← e]
          exact (Classical.not_not.1 hk.2).symm
      · exact .inl ⟨j, by omega, e⟩
theorem nodup_compactUpTo {d : Array (List UInt8)} (hs : ∀ i j, i ≤ j → j < d.size → Op.bytesLess d[j]! d[i]! = false) : ∀ m, m ≤ d.size → (Lib.compactUpTo d m).Nodup
  | 0, _ => by simp [Lib.compactUpTo]
  | m + 1, hm => by
    have ih := nodup_compactUpTo hs m (by omega)
    rw [Lib.compactUpTo_succ]
    cases hk : Lib.keeps d m with
    | false => simpa using ih
    | true =>
      rw [if_pos rfl]
      refine List.nodup_append.2 ⟨ih, by simp, ?_⟩
      intro a ha b hb
      simp at hb
      subst hb
      rintro rfl
      obtain ⟨j, hj, e⟩ := (mem_compactUpTo m (by omega)).1 ha
      unfold Lib.keeps at hk
      rw [decide_eq_true_eq] at hk
      rcases hk with h | h
      · omega
      · have h1 := hs j (m - 1) (by omega) (by omega)
        have h2 := hs (m - 1) m (by omega) (by omega)
        rw [e] at h1
        apply h
        have q := bl_leq d[m]! d[m - 1]!
        rw [h2, h1] at q
        simpa using q
theorem compS_mem {ss : List (List UInt8)} {x : List UInt8} : x ∈ compS ss ↔ x ∈ ss := by
  unfold compS Lib.compact
  rw [mem_compactUpTo _ (by simp)]
  constructor
  · rintro ⟨j, hj, rfl⟩
    rw [getElem!_pos _ j (by simpa using hj)]
    simp
  · intro h
    obtain ⟨j, hj, rfl⟩ := List.getElem_of_mem h
    refine ⟨j, hj, ?_⟩
    rw [getElem!_pos _ j (by simpa using hj)]
    simp
theorem sortS_mem {ss : List (List UInt8)} {x : List UInt8} : x ∈ sortS ss ↔ x ∈ ss := by
  unfold sortS; exact List.mem_mergeSort
theorem sortS_le (ss : List (List UInt8)) : (sortS ss).Pairwise fun a b => decide (a ≤ b) = true := by
  unfold sortS
  refine List.pairwise_mergeSort (le := fun x y : List UInt8 => decide (x ≤ y)) ?_ ?_ ss
  · intro a b c h1 h2
    simp only [decide_eq_true_eq] at *
    exact List.le_trans h1 h2
  · intro a b
    simp only [Bool.or_eq_true, decide_eq_true_eq]
    exact List.le_total a b
theorem compS_nodup (ss : List (List UInt8)) : (compS (sortS ss)).Nodup := by
  unfold compS Lib.compact
  refine nodup_compactUpTo ?_ _ (by simp)
  intro i j hij hj
  have hj' : j < (sortS ss).length := by simpa using hj
  rw [getElem!_pos _ i (by simp; omega), getElem!_pos _ j (by simpa using hj)]
  simp only [List.getElem_toArray]
  by_cases e : i = j
  · subst e; exact bl_irr _
  · have := List.pairwise_iff_getElem.1 (sortS_le ss) i j (by omega) hj' (by omega)
    rw [decide_eq_true_eq] at this
    rw [bytesLess_eq]
    exact decide_eq_false (List.not_lt.2 this)
end Go.Ab
namespace Go.Ab
open Go.Sort Go.Proofs
set_option linter.unusedVariables false

section
abbrev encI : Int → Value := Value.int .i64
theorem holdsI {w : World} {g : Nat} {cur : Array Value} {e : TypeId} {ss : List Int} (hb : w.heap[g]? = some (.cells cur e (0, 0))) (ht : cur.toList.take ss.length = ss.map encI) : Holds (Value.int .i64) w g 0 ss.toArray := by
  intro j hj
  have hj' : j < ss.length := by simpa using hj
  refine ⟨?_, by simp [World.frozen?, hb]⟩
  have h1 : (cur.toList.take ss.length)[j]? = (ss.map encI)[j]? := by rw [ht]
  rw [List.getElem?_take_of_lt hj'] at h1
  simp only [World.cell?, hb, Nat.zero_add]
  simp only [Option.isSome_none, Bool.false_eq_true, if_false]
  rw [← Array.getElem?_toList, h1]
  simp [hj']
theorem heapI {w : World} {g n : Nat} {os : Array Obj} {cur : Array Value} {e : TypeId} {fr : Nat × Nat} (d : Array Int) (hb : w.heap[g]? = some (.cells cur e fr)) :
    (grow (putRow (Value.int .i64) (Sort.ahead w n) g 0 d) os).heap[g]? = some (.cells (putCells (Value.int .i64) 0 d cur) e fr) := by
  have hg : g < w.heap.size := (Array.getElem?_eq_some_iff.1 hb).1
  rw [heap_grow_old _ _ (by simpa using hg)]
  simp [putRow, mapBlock, Sort.ahead, Array.getElem?_modify, hb, onCells]
theorem grownI {w : World} {g n : Nat} {os : Array Obj} (d : Array Int) : w.grownBy (grow (putRow (Value.int .i64) (Sort.ahead w n) g 0 d) os) (some g) := by
  refine ⟨rfl, rfl, rfl, by simp, fun k hk hne => ?_⟩
  rw [heap_grow_old _ _ (by simpa using hk)]
  have : g ≠ k := fun e => hne (by rw [e])
  simp [putRow, mapBlock, Sort.ahead, Array.getElem?_modify, this]
theorem takeI (cur : Array Value) (ts : List Int) (h : ts.length ≤ cur.size) : (putCells (Value.int .i64) 0 ts.toArray cur).toList.take ts.length = ts.map encI := by
  apply List.ext_getElem?
  intro j
  by_cases hj : j < ts.length
  · rw [List.getElem?_take_of_lt hj, Array.getElem?_toList]
    simp [putCells, hj, show j < cur.size by omega]
  · rw [List.getElem?_take_eq_none (by omega), List.getElem?_eq_none (by simp; omega)]
theorem ownsI {w : World} {base g cap n : Nat} {e : TypeId} {os : Array Obj} {cur : Array Value} {ss ts : List Int} (hl : ts.length = ss.length) (hbase : base ≤ g) (hb : w.heap[g]? = some (.cells cur e (0, 0)))
    (h1 : ss.length ≤ cap) (h2 : cap ≤ maxLen) (h3 : cur.size = cap * 1) :
    (grow (putRow (Value.int .i64) (Sort.ahead w n) g 0 ts.toArray) os).ownsRow base e 1 (.slice (some ⟨g, 0, none⟩) ss.length cap) ss.length (ts.map encI) :=
  ⟨by simp [hl], .inr ⟨g, cap, _, rfl, hbase, heapI _ hb, h1, h2, by simp [putCells, h3], by rw [Nat.mul_one, ← hl]; exact takeI cur ts (by omega)⟩⟩
end
theorem ints_cells {w : World} {ro : Nat → Prop} : ∀ {ss : List Int} {cs : List Value}, LR w ro (ss.map fun l => [AV.int .i64 l]).flatten cs → cs = ss.map encI
  | [], [], _ => rfl
  | [], _ :: _, h => by unfold LR at h; exact h.elim
  | s :: ss, [], h => by simp only [List.map_cons, List.flatten_cons, List.cons_append] at h; unfold LR at h; exact h.elim
  | s :: ss, c :: cs, h => by
    simp only [List.map_cons, List.flatten_cons, List.cons_append, List.nil_append] at h
    unfold LR at h
    have h1 := h.1
    unfold RR at h1
    rw [ints_cells h.2, h1]
    rfl
theorem ints_LR {w : World} {ro : Nat → Prop} : ∀ (ss : List Int), LR w ro (ss.map fun l => [AV.int .i64 l]).flatten (ss.map encI)
  | [] => by simp only [List.map_nil, List.flatten_nil]; unfold LR; trivial
  | s :: ss => by
    simp only [List.map_cons, List.flatten_cons, List.cons_append, List.nil_append]
    unfold LR
    exact ⟨by unfold RR; rfl, ints_LR ss⟩
theorem ints_ones (ss : List Int) : ∀ u ∈ ss.map encI, u.oneCell' = true := by
  intro u hu
  obtain ⟨x, _, rfl⟩ := List.mem_map.1 hu
  rfl
theorem ints_lens {ss : List Int} {n : Nat} (h : 1 = n) : ∀ e ∈ ss.map fun l => [AV.int .i64 l], e.length = n := by
  intro e he
  obtain ⟨x, _, rfl⟩ := List.mem_map.1 he
  exact h
def sortI (ss : List Int) : List Int := ss.mergeSort fun x y => decide (x ≤ y)
def compI (ss : List Int) : List Int := Lib.compact ss
theorem compI_le (ss : List Int) : (compI ss).length ≤ ss.length := by
  unfold compI Lib.compact Lib.compactUpTo
  rw [List.length_map]
  exact Nat.le_trans (List.length_filter_le _ _) (by simp)
theorem CallCompactI {P : Program} {f : Nat} {fn : Func} {c : Code} (hf : P.funcs[f]? = some fn) (hname : (fn.name == "runtime.NumGoroutine") = false) (hb : fn.body = some c)
    (hcom : ∀ (blk off cap : Nat) (zs : List Int) (w : World), Holds (Value.int .i64) w blk off zs.toArray → zs.length ≤ 9223372036854775807 → zs.length ≤ cap →
      Calls P f #[.slice (some ⟨blk, off, none⟩) zs.length cap] w fun e w' => e = .returned (.slice (some ⟨blk, off, none⟩) (Lib.compact zs).length cap) ∧ ∃ q, w' = putRow (Value.int .i64) (Sort.ahead w q) blk off (Lib.compact zs ++ List.replicate (zs.length - (Lib.compact zs).length) 0).toArray)
    (hnone : ∀ (p : Option Addr) (cap : Nat) (w : World), Calls P f #[.slice p 0 cap] w fun e w' => e = .returned (.slice p 0 cap) ∧ w' = w)
    {s : St} {id ty : Nat} {ss : List Int} (hlen : ss.length ≤ 4194304) (ho : s.objs id = some ⟨.slc, ty, 1, ss.map fun l => [AV.int .i64 l]⟩) {nid : Nat} {d : Option Nat} {K : St → Prop}
    (h : St.putN (turned s (killO id) (killP id) (killC id) id (some ⟨.slc, ty, 1, (compI ss).map fun l => [AV.int .i64 l]⟩)) d (.own id) K) : CallA P f [.own id] s nid d K := by
  unfold CallA
  refine .inl fun F w0 gv a w hdr hs vals hargs => (Ans_body hf hname hb).2 ?_
  obtain ⟨k1, k2⟩ := putK_elim (putN_elim h)
  obtain ⟨v, rfl⟩ : ∃ v, vals = [v] := by
    match vals, hargs with
    | [v], _ => exact ⟨v, rfl⟩
    | [], h => unfold VL at h; exact h.elim
    | _ :: _ :: _, h => unfold VL at h; have := h.2; unfold VL at this; exact this.elim
  unfold VL at hargs
  have hv := hargs.1
  unfold VR at hv
  obtain ⟨_, hv⟩ := hv
  replace hv : v = (hdr id).v := hv
  subst hv
  obtain ⟨hpos, hlens, _, cs, hrow, hones, hcl0⟩ := hs.objs id _ ho
  have hlr := fun _ : True => (hcl0.slc rfl).1
  have hcs : cs = ss.map encI := ints_cells (hlr trivial)
  subst hcs
  have fin : ∀ (w' : World) (v' : Value), w.grownBy w' (hdr id).blk → OwnR w' w0.N ty 1 v' (compI ss).length ((compI ss).map encI) → (∀ b, v'.blk = some b → (hdr id).blk = some b ∨ w.heap.size ≤ b) → ∃ s', K s' ∧ SimE F w0 gv s' (a.put d v') w' := by
    intro w' v' hg hown hbb
    have hsim := hs.reown (so := killO id) (sp := killP id) (sc := killC id) ho rfl (w' := w') (v' := v') (es' := (compI ss).map fun l => [AV.int .i64 l]) (cs' := (compI ss).map encI)
      (fun j hj => by simp [killO, hj]) (fun j x y hj => by simp [killP, hj]) (fun j x y z hj => by simp [killC, hj]) (.inl (by simp [killO])) (.inl (fun _ _ => by simp [killP])) (.inl (fun _ _ _ _ e => by simp [killC] at e)) (ints_lens rfl) (ints_LR _) (ints_ones _) (by simpa using hown) hg hbb
    refine ⟨_, k2, _, hsim.put k1 ?_⟩
    unfold VR
    exact ⟨by simp [St.ctx, turned], by simp [St.ctx]⟩
  rcases hrow.2 with ⟨base, e, e2⟩ | ⟨g, cap, cur, e, e0, e1, e3, e4, e5, e6, e7⟩
  · have hnil : ss = [] := by
      have : (ss.map fun l => [AV.int .i64 l]).length = 0 := e2
      simpa using this
    rw [show ([(hdr id).v] : List Value).toArray = #[.slice base 0 0] from by rw [e]]
    refine (hnone base 0 w).mono fun e' w' ⟨q1, q2⟩ => ⟨_, q1, ?_⟩
    subst q2
    refine fin _ _ ⟨rfl, rfl, rfl, Nat.le_refl _, fun _ _ _ => rfl⟩ ?_ (fun b hb => by cases base <;> simp [Value.blk] at hb)
    rw [hnil]
    refine ⟨by simp [compI, Lib.compact, Lib.compactUpTo], .inl ⟨base, rfl, by simp [compI, Lib.compact, Lib.compactUpTo]⟩⟩
  · have hn : (ss.map fun l => [AV.int .i64 l]).length = ss.length := by simp
    rw [hn] at e e4 e7
    simp only [Nat.mul_one] at e7
    rw [show ([(hdr id).v] : List Value).toArray = #[.slice (some ⟨g, 0, none⟩) ss.length cap] from by rw [e]]
    refine (hcom g 0 cap ss w (holdsI e3 e7) (by omega) e4).mono fun e' w' ⟨q1, n, q2⟩ => ⟨_, q1, ?_⟩
    have hbl : (hdr id).blk = some g := by unfold Hdr.blk; rw [e]; exact blk_slice e0
    have hcl := compI_le ss
    generalize hts : (Lib.compact ss ++ List.replicate (ss.length - (Lib.compact ss).length) (0 : Int)) = ts at q2
    have htl : ts.length = ss.length := by
      rw [← hts, List.length_append, List.length_replicate]
      have : (Lib.compact ss).length ≤ ss.length := hcl
      omega
    have q3 : w' = grow (putRow (Value.int .i64) (Sort.ahead w n) g 0 ts.toArray) #[] := by rw [q2]; exact (grow_empty _).symm
    subst q3
    have hrow2 := ownsI (n := n) (os := #[]) (ss := ss) (ts := ts) (base := 0) htl (Nat.zero_le _) e3 e4 e5 (by simpa using e6)
    refine fin _ _ (by rw [hbl]; exact grownI _) ?_ (fun b hb => .inl ?_)
    · obtain ⟨r1, r2⟩ := hrow2
      rcases r2 with ⟨r2, _⟩ | ⟨g', cap', cur', r3, r4, r5, r6, r7, r8, r9⟩
      · cases r2
      · cases r3
        refine ⟨by simp, .inr ⟨g, cap, cur', rfl, e0, e1, r5, Nat.le_trans hcl r6, r7, r8, ?_⟩⟩
        have r9' : (cur'.toList.take ss.length).take (compI ss).length = (ts.map encI).take (compI ss).length := by
          rw [← r9]
          simp only [Nat.mul_one]
        have r10 : (ts.map encI).take (compI ss).length = (compI ss).map encI := by
          rw [← hts, List.map_append]
          have e9 : (compI ss).length = ((Lib.compact ss).map encI).length := by rw [List.length_map]; rfl
          rw [e9, List.take_left]
          rfl
        rw [r10, List.take_take, Nat.min_eq_left hcl] at r9'
        rw [Nat.mul_one]
        exact r9'
    · simp only [Value.blk] at hb
      rw [if_neg (by omega)] at hb
      rw [hbl]
      exact hb
end Go.Ab
namespace Go.Ab
set_option linter.unusedVariables false

def renO (a b : Nat) : Nat → AV := fun j => if j = a then .own b else if j = b then .any else .own j
def renP (a b : Nat) : Nat → Nat → Nat → AV := fun j x y => if j = a then .ptr b x y else if j = b then .any else .ptr j x y
def renC (a b : Nat) : SC := fun j x y z => if j = a then .cel b x y z else if j = b then .any else .cel j x y z
def renS (s : St) (a b : Nat) : St :=
  match s with
  | ⟨e, z, o, n, g⟩ => ⟨fun t => (e t).sub (renO a b) (renP a b) (renC a b), z, fun i => if i = b then (o a).map (subO (renO a b) (renP a b) (renC a b)) else if i = a then none else (o i).map (subO (renO a b) (renP a b) (renC a b)), n, AV.sub.subL (renO a b) (renP a b) (renC a b) g⟩

end Go.Ab
namespace Go.Ab
open Go.RowKit
set_option linter.unusedVariables false

theorem St.le_prom (s : St) (l : List (Nat × List Shp)) (hp : PromAll s l) : s.le (promS s l) := fun F w0 gv a w ⟨hdr, h⟩ => ⟨hdr, (h.prom hp).1⟩
theorem Loop_prom {body : (Exit → St → Prop) → St → Prop} {K : Exit → St → Prop} {s : St} (l : List (Nat × List Shp)) (hp : PromAll s l) (h : Loop body K (promS s l)) : Loop body K s := by
  unfold Loop at h ⊢
  obtain ⟨J, I, m, j0, h0, hb⟩ := h
  exact ⟨J, I, m, j0, St.le_trans (St.le_prom s l hp) h0, hb⟩
structure MOut (w w' : World) (shs : List Shp) (al' : List AV) (vs : List Value) (S : List Nat) : Prop where
  tl : ∃ S', TL w' al' shs vs S' ∧ S'.Nodup ∧ ∀ b ∈ S', b ∈ S ∨ w.heap.size ≤ b
  os : w'.os = w.os
  tape : w'.tape = w.tape
  output : w'.output = w.output
  size : w.heap.size ≤ w'.heap.size
  block : ∀ k, k < w.heap.size → k ∉ S → w'.heap[k]? = w.heap[k]?

def argV (b : Bool) (vs : List Value) : Value :=
  match b with
  | true => .agg vs.toArray
  | false => vs.headD undef
def argA (b : Bool) (cs : List AV) : AV :=
  match b with
  | true => .agg cs
  | false => cs.headD .any

structure MC (P : Program) (f : Nat) (b : Bool) (al : List AV) (shs : List Shp) (k : Int) (al' : List AV) (k' : Int) : Prop where
  one : b = false → al.length = 1
  run : ∀ (w : World) (vs : List Value) (S : List Nat), TL w al shs vs S → S.Nodup → Ans P f #[argV b vs, .int .i64 k] w fun r w' => r = .int .i64 k' ∧ MOut w w' shs al' vs S

/-! The objects of a value that is handed over, named from n on. -/
def numC : Nat → List AV → List Shp → List AV
  | n, a :: al, sh :: shs =>
    match a with
    | .sl _ => .own n :: numC (n + 1) al shs
    | a => a :: numC n al shs
  | _, _, _ => []
def numO : List AV → List Shp → List AObj
  | a :: al, sh :: shs =>
    match a with
    | .sl es =>
      match sh with
      | .sl ty esz cells => ⟨.deep cells, ty, esz, es⟩ :: numO al shs
      | .leaf => numO al shs
    | _ => numO al shs
  | _, _ => []

end Go.Ab
namespace Go.Ab
open Go.RowKit
set_option linter.unusedVariables false

def lookC : List AV → List AV → List Shp → Nat → Option AObj
  | c :: cs, a :: al, sh :: shs, j =>
    match c with
    | .own i =>
      match Nat.beq j i with
      | true =>
        match a with
        | .sl es =>
          match sh with
          | .sl ty esz cells => some ⟨.deep cells, ty, esz, es⟩
          | .leaf => none
        | _ => none
      | false => lookC cs al shs j
    | _ => lookC cs al shs j
  | _, _, _, _ => none
def matchC : List AV → List AV → List Shp → Bool
  | c :: cs, a :: al, sh :: shs =>
    (match c with
    | .own _ =>
      match a with
      | .sl _ => true
      | _ => false
    | _ => flatA sh a) && matchC cs al shs
  | [], [], [] => true
  | _, _, _ => false
def OwnV (hdr : Nat → Hdr) : List AV → List Value → Prop
  | c :: cs, v :: vs => (∀ j, c = .own j → (hdr j).v = v) ∧ OwnV hdr cs vs
  | _, _ => True

theorem OwnV.congr {hdr hdr' : Nat → Hdr} : ∀ {cs : List AV} {vs : List Value}, (∀ j, inL j (ownsOf cs) = true → hdr' j = hdr j) → OwnV hdr cs vs → OwnV hdr' cs vs
  | [], _, _, _ => by unfold OwnV; trivial
  | _ :: _, [], _, _ => by unfold OwnV; trivial
  | c :: cs, v :: vs, he, h => by
    unfold OwnV at h ⊢
    refine ⟨fun j hj => ?_, OwnV.congr (fun j hj => he j ?_) h.2⟩
    · rw [he j (inL_mem.2 (by rw [ownsOf_cons, hj]; simp))]
      exact h.1 j hj
    · exact inL_mem.2 (by rw [ownsOf_cons]; exact List.mem_append_right _ (inL_mem.1 hj))

def updM (s : St) (cs al : List AV) (shs : List Shp) : St :=
  match s with
  | ⟨e, z, o, n, g⟩ => ⟨fun t => (e t).sub (fun i => .own i) (fun i x y => .ptr i x y) (killsC (ownsOf cs)), z,
      fun i => match inL i (ownsOf cs) with | true => lookC cs al shs i | false => (o i).map (subO (fun i => .own i) (fun i x y => .ptr i x y) (killsC (ownsOf cs))), n, AV.sub.subL (fun i => .own i) (fun i x y => .ptr i x y) (killsC (ownsOf cs)) g⟩

section
variable {F : Nat → Prop} {w0 : Base} {gv : List Value} {s : St} {a : Act} {w : World} {hdr : Nat → Hdr}

end

end Go.Ab
namespace Go.Ab
open Go.RowKit
set_option linter.unusedVariables false

@[irreducible] def OutM (P : Program) (rs : List ResultVar) (cs al' : List AV) (shs : List Shp) (k' : Int) (s : St) : Prop :=
  ∃ s', s.le s' ∧ resA P s' rs = some (.int .i64 k') ∧ s'.gh = cs ∧ fitL s' shs cs = true ∧ cs.map (absA s') = al'
end Go.Ab
namespace Go.Ab
set_option linter.unusedVariables false

theorem StoreD_of {s : St} {id idx off : Nat} {ob : AObj} {sh : List Shp} {cs e : List AV} {K : St → Prop} (h1 : fitL s ((sh.drop off).take cs.length) cs = true) (h2 : inL id (ownsOf cs) = false) (h3 : dupL (ownsOf cs) = false)
    (h : forceS (takeIn s (ownsOf cs) id { ob with elems := ob.elems.set idx (splice e off (cs.map (absA s))) }) K) : StoreD s id idx off ob sh cs e K := by
  unfold StoreD
  rw [forceS_eq] at h
  exact ⟨h1, ⟨h2, h3⟩, none, _, (fun _ _ e => by cases e), fun _ _ _ _ _ h => h, h⟩
theorem AppD_of {P : Program} {e : TypeId} {i : TypeInfo} {s : St} {id j : Nat} {o : AObj} {sh : List Shp} {d : Option Nat} {K : St → Prop} {ty esz : Nat} {es : List (List AV)} (hj : s.objs j = some ⟨.deep sh, ty, esz, es⟩)
    (h1 : j ≠ id ∧ esz = i.size ∧ o.ty = e ∧ o.esz = i.size ∧ i.zero.isSome = true ∧ (i.zero.map (·.cells.size)) = some i.size) (h2 : o.elems.length + es.length ≤ 70368744177664 ∧ (o.elems.length + es.length) * i.bytes ≤ 140737488355328)
    (h : forceS (takeIn s [id, j] id { o with elems := o.elems ++ es }) fun s' => s'.putK d (.own id) K) : AppD P e i s id o sh (.own j) d K := by
  unfold AppD
  exact ⟨j, _, rfl, hj, ⟨h1.1, rfl, h1.2.1, h1.2.2.1, h1.2.2.2.1, h1.2.2.2.2.1, h1.2.2.2.2.2⟩, h2, h⟩
theorem AppN_of {P : Program} {e : TypeId} {i : TypeInfo} {s : St} {nid j : Nat} {d : Option Nat} {K : St → Prop} {sh : List Shp} {ty esz : Nat} {es : List (List AV)} (hj : s.objs j = some ⟨.deep sh, ty, esz, es⟩) (hn : s.objs nid = none)
    (h1 : esz = i.size ∧ i.zero.isSome = true ∧ (i.zero.map (·.cells.size)) = some i.size) (h2 : es.length ≤ 70368744177664 ∧ es.length * i.bytes ≤ 140737488355328)
    (h : forceS (takeIn s [j] nid ⟨.deep sh, e, i.size, es⟩) fun s' => s'.putK d (.own nid) K) : AppN P e i s nid j d K := by
  unfold AppN
  exact ⟨_, sh, hj, hn, ⟨rfl, h1.1, h1.2.1, h1.2.2⟩, h2, h⟩

theorem prom_map {α : Type} {f : α → List AV} {sh : List Shp} (h : ∀ x, flatFit sh (f x) = true) {xs : List α} : ∀ e ∈ xs.map f, flatFit sh e = true := fun e he => by
  obtain ⟨x, _, rfl⟩ := List.mem_map.1 he
  exact h x
theorem prom_nil {sh : List Shp} : ∀ e ∈ ([] : List (List AV)), flatFit sh e = true := fun e he => by cases he
theorem prom_one {sh : List Shp} {x : List AV} (h : flatFit sh x = true) : ∀ e ∈ [x], flatFit sh e = true := fun e he => by
  simp at he
  rw [he]; exact h
theorem prom_rep {sh : List Shp} {x : List AV} {n : Nat} (h : flatFit sh x = true) : ∀ e ∈ List.replicate n x, flatFit sh e = true := fun e he => by
  rw [List.eq_of_mem_replicate he]; exact h

/-! Marks through lists: what is written into each element, and how many numbers that takes. -/
def cntL {α : Type} (cnt : α → Nat) (xs : List α) : Nat := (xs.map cnt).sum
def mkL {α : Type} (mk : α → Int → α) (cnt : α → Nat) : List α → Int → List α
  | [], _ => []
  | x :: xs, k => mk x k :: mkL mk cnt xs (k + (cnt x : Int))
def cnt1 {α : Type} (_ : α) : Nat := 1
def mkInt (_ : Int) (k : Int) : Int := k
def mkStr (_ : List UInt8) (k : Int) : List UInt8 := mText k
def mkBool (_ : Bool) (k : Int) : Bool := k.tmod 3 == 0
section
variable {α : Type} {mk : α → Int → α} {cnt : α → Nat} {xs : List α} {k : Int} {i : Nat} {x : α}
theorem mkL_length : ∀ {xs : List α} {k : Int}, (mkL mk cnt xs k).length = xs.length
  | [], _ => rfl
  | x :: xs, k => by simp [mkL, mkL_length (xs := xs)]
def midL (mk : α → Int → α) (cnt : α → Nat) (xs : List α) (k : Int) (i : Nat) : List α := mkL mk cnt (xs.take i) k ++ xs.drop i
end
theorem midL_len {α : Type} {mk : α → Int → α} {cnt : α → Nat} {xs : List α} {k : Int} {i : Nat} : (midL mk cnt xs k i).length = min i xs.length + (xs.length - i) := by
  simp only [midL, List.length_append, mkL_length, List.length_take, List.length_drop]
theorem lensC : (∀ {α β : Type} {xs : List α} {f : α → β}, (xs.map f).length = xs.length) ∧ (∀ {α : Type} {xs ys : List α}, (xs ++ ys).length = xs.length + ys.length) ∧ (∀ {α : Type} {i : Nat} {xs : List α}, (xs.take i).length = min i xs.length) ∧ (∀ {α : Type} {a : α} {xs : List α}, (a :: xs).length = xs.length + 1) ∧ (∀ {α : Type}, ([] : List α).length = 0) :=
  ⟨List.length_map .., List.length_append, List.length_take, List.length_cons, List.length_nil⟩
theorem lensB : (∀ {α β : Type} {xs : List α} {f : α → β}, (xs.map f).length = xs.length) ∧ (∀ {α : Type} {i : Nat} {xs : List α}, (xs.take i).length = min i xs.length) ∧ (∀ {α : Type} {xs ys : List α}, (xs ++ ys).length = xs.length + ys.length) ∧ (∀ {α : Type} {i : Nat} {xs : List α}, (xs.drop i).length = xs.length - i) ∧ (∀ {α : Type} {xs : List α} {i : Nat} {a : α}, (xs.set i a).length = xs.length) ∧ (∀ {α : Type} {c : Int} {f : Int → α} {k : Int} {n : Nat}, (markList c f k n).length = n) :=
  ⟨List.length_map .., List.length_take, List.length_append, List.length_drop, List.length_set, markList_length⟩
end Go.Ab
