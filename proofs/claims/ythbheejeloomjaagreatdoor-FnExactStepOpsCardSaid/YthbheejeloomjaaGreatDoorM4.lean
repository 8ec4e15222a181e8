/-
  Binary search over a list; objects that are given up at an end.
  Calls of the library that turn a slice of the caller's own: Sort, Compact.
  A nil slice as an empty list that is only read.
  Plain laws: lists that rise, searched and collected.
  Calls of the library that turn a slice of numbers of the caller's own: Sort, Compact.
  An object takes another's name.
  Objects that own what they reach: flat ones turned into such; functions that write marks through all that is reached.
  Calls of functions that mark, and what such a function is out of its code.
  What a function that marks is, out of its code; such a function at what lies in a cell.
  Small steps for objects that own what they reach; marks through lists.
  No condition: definitions and lemmas over any program.
-/
import Derived.Test.YthbheejeloomjaaGreatDoorM3
import Derived.Sort.OwnSorted
import Derived.Lib.SlicesCompact
import Derived.Sort.Walk0
namespace Go.Ab
set_option linter.unusedVariables false

def bsGo {α : Type} (c : α → Int) (xs : List α) (i j : Nat) : Nat :=
  if h : i < j then
    match xs[(i + j) / 2]? with
    | some x => if c x < 0 then bsGo c xs ((i + j) / 2 + 1) j else bsGo c xs i ((i + j) / 2)
    | none => i
  else i
termination_by j - i
decreasing_by all_goals omega
section
variable {α : Type} {c : α → Int} {xs : List α} {i j : Nat} {x : α}
theorem bsGo_lt (h : i < j) (hx : xs[(i + j) / 2]? = some x) (hc : c x < 0) : bsGo c xs i j = bsGo c xs ((i + j) / 2 + 1) j := by
  rw [bsGo, dif_pos h, hx]
  simp only [if_pos hc]
theorem bsGo_ge (h : i < j) (hx : xs[(i + j) / 2]? = some x) (hc : ¬ c x < 0) : bsGo c xs i j = bsGo c xs i ((i + j) / 2) := by
  rw [bsGo, dif_pos h, hx]
  simp only [if_neg hc]
theorem bsGo_end (h : ¬ i < j) : bsGo c xs i j = i := by rw [bsGo, dif_neg h]
def bsPos (c : α → Int) (xs : List α) : Nat := bsGo c xs 0 xs.length
def bsHit (c : α → Int) (xs : List α) : Bool := match xs[bsPos c xs]? with | some x => c x == 0 | none => false
theorem bsHit_at (hB : bsPos c xs = i) (hx : xs[i]? = some x) : bsHit c xs = (c x == 0) := by
  unfold bsHit; rw [hB, hx]
theorem bsHit_end (hB : bsPos c xs = i) (hx : ¬ i < xs.length) : bsHit c xs = false := by
  unfold bsHit; rw [hB, List.getElem?_eq_none (by omega)]
theorem bsPos_le : bsPos c xs ≤ xs.length := by
  unfold bsPos
  have : ∀ d i j, j - i ≤ d → i ≤ j → j ≤ xs.length → bsGo c xs i j ≤ xs.length := by
    intro d
    induction d with
    | zero => intro i j h1 h2 h3; rw [bsGo_end (by omega)]; omega
    | succ d ih =>
      intro i j h1 h2 h3
      by_cases hlt : i < j
      · have hx : xs[(i + j) / 2]? = some xs[(i + j) / 2] := List.getElem?_eq_getElem (by omega)
        by_cases hc : c xs[(i + j) / 2] < 0
        · rw [bsGo_lt hlt hx hc]; exact ih _ _ (by omega) (by omega) h3
        · rw [bsGo_ge hlt hx hc]; exact ih _ _ (by omega) (by omega) (by omega)
      · rw [bsGo_end hlt]; omega
  exact this _ 0 _ (Nat.le_refl _) (Nat.zero_le _) (Nat.le_refl _)
theorem bsGo_of (m : Nat) (hm : m ≤ xs.length) (h1 : ∀ k x, k < m → xs[k]? = some x → c x < 0) (h2 : ∀ k x, m ≤ k → xs[k]? = some x → ¬ c x < 0) : ∀ d i j, j - i ≤ d → i ≤ m → m ≤ j → j ≤ xs.length → bsGo c xs i j = m := by
  intro d
  induction d with
  | zero => intro i j h3 h4 h5 h6; rw [bsGo_end (by omega)]; omega
  | succ d ih =>
    intro i j h3 h4 h5 h6
    by_cases hlt : i < j
    · have hx : xs[(i + j) / 2]? = some xs[(i + j) / 2] := List.getElem?_eq_getElem (by omega)
      by_cases hc : c xs[(i + j) / 2] < 0
      · rw [bsGo_lt hlt hx hc]
        refine ih _ _ (by omega) ?_ h5 h6
        by_cases hle : m ≤ (i + j) / 2
        · exact absurd hc (h2 _ _ hle hx)
        · omega
      · rw [bsGo_ge hlt hx hc]
        refine ih _ _ (by omega) h4 ?_ (by omega)
        by_cases hle : (i + j) / 2 < m
        · exact absurd (h1 _ _ hle hx) hc
        · omega
    · rw [bsGo_end hlt]; omega
theorem bsPos_of (m : Nat) (hm : m ≤ xs.length) (h1 : ∀ k x, k < m → xs[k]? = some x → c x < 0) (h2 : ∀ k x, m ≤ k → xs[k]? = some x → ¬ c x < 0) : bsPos c xs = m :=
  bsGo_of m hm h1 h2 _ 0 _ (Nat.le_refl _) (Nat.zero_le _) hm (Nat.le_refl _)
end

theorem mid_eq (i j : Nat) (h : i + j ≤ 18446744073709551614) : IntKind.i64.wrap ((IntKind.u64.wrap (IntKind.i64.wrap ((i : Int) + (j : Int)))).fdiv (2 ^ (min (1 : Int).toNat IntKind.u64.bits))) = (((i + j) / 2 : Nat) : Int) := by
  have hu : ∀ e : Int, IntKind.u64.wrap e = e % 18446744073709551616 := by
    intro e
    unfold IntKind.wrap
    simp [IntKind.bits, IntKind.signed]
  have hp : ((2 : Int) ^ (min (1 : Int).toNat IntKind.u64.bits)) = 2 := by
    have : min (1 : Int).toNat IntKind.u64.bits = 1 := by rfl
    rw [this]; rfl
  rw [hp, hu, i64_wrap_eq, i64_wrap_eq, Int.fdiv_eq_ediv_of_nonneg _ (by omega)]
  omega

theorem mid_next (i j : Nat) (h : i + j ≤ 18446744073709551614) (h2 : (i + j) / 2 < 9223372036854775807) : IntKind.i64.wrap (IntKind.i64.wrap ((IntKind.u64.wrap (IntKind.i64.wrap ((i : Int) + (j : Int)))).fdiv (2 ^ (min (1 : Int).toNat IntKind.u64.bits))) + 1) = (((i + j) / 2 + 1 : Nat) : Int) := by
  rw [mid_eq i j h, i64_wrap_eq]
  omega

theorem one_lenC {L : List (List AV)} {e : List AV} {n : Nat} (hL : L = [e]) (he : e.length = n) : ∀ z ∈ L, z.length = n := by
  subst hL
  intro z hz
  simp at hz
  rw [hz]
  exact he
theorem app_boundC {L M : List (List AV)} {b : Nat} (hM : M.length = 1) (hL : L.length ≤ 2097152) (hb : b ≤ 64) : L.length + M.length ≤ 70368744177664 ∧ (L.length + M.length) * b ≤ 140737488355328 := by
  rw [hM]
  refine ⟨by omega, ?_⟩
  have : (L.length + 1) * b ≤ (L.length + 1) * 64 := Nat.mul_le_mul_left _ hb
  omega

/-! Objects given up. -/
theorem St.le_frz (s : St) (ids : List Nat) : s.le (frzIds s ids) := by
  intro F w0 gv a w ⟨hdr, h⟩
  exact ⟨hdr, (frzIds_ok ids s h).1⟩
theorem OutA_frz {P : Program} {sh : Bool} {rs : List ResultVar} {r : AV} {os : List AObj} {s : St} (ids : List Nat) (h : OutA P sh rs r os (frzIds s ids)) : OutA P sh rs r os s :=
  OutA_le (St.le_frz s ids) h
end Go.Ab
namespace Go.Ab
open Go.Sort Go.Proofs
set_option linter.unusedVariables false

theorem turned_id (s : St) (id : Nat) (o' : AObj) : turned s (fun j => .own j) (fun j x y => .ptr j x y) (fun j x y z => .cel j x y z) id (some o') = setObj s id o' := by
  cases s with
  | mk e z o n g =>
    simp only [turned, setObj]
    congr 1
    · funext t; exact AV.sub_id _
    · funext i
      by_cases h : i = id
      · simp [h]
      · simp only [h, if_false]
        cases o i with
        | none => rfl
        | some x => simp [subO_id]
    · exact AV.subL_id g

section
variable {F : Nat → Prop} {w0 : Base} {gv : List Value} {s : St} {a : Act} {w : World} {hdr : Nat → Hdr}

theorem Sim.reown (h : Sim F w0 gv s a w hdr) {id : Nat} {o : AObj} (ho : s.objs id = some o) (hk : o.kind = .slc) {w' : World} {v' : Value} {es' : List (List AV)} {cs' : List Value} {so : Nat → AV} {sp : Nat → Nat → Nat → AV} {sc : SC}
    (hso : ∀ j, j ≠ id → so j = .own j) (hsp : ∀ j x y, j ≠ id → sp j x y = .ptr j x y) (hsc : ∀ j x y z, j ≠ id → sc j x y z = .cel j x y z)
    (hoid : so id = .any ∨ (so id = .own id ∧ v' = (hdr id).v)) (hpid : (∀ x y, sp id x y = .any) ∨ ((∀ x y, sp id x y = .ptr id x y) ∧ v' = (hdr id).v))
    (hqid : (∀ j x y z, sc id 0 0 [] = .cel j x y z → False) ∨ (sc id 0 0 [] = .cel id 0 0 [] ∧ ∀ b m c, (hdr id).v = .slice (some ⟨b, 0, none⟩) m c → ∃ m', v' = .slice (some ⟨b, 0, none⟩) m' c))
    (hl : ∀ e ∈ es', e.length = o.esz) (hlr : LR w (roOf F w hdr s.objs) es'.flatten cs') (hcs : ∀ u ∈ cs', u.oneCell' = true)
    (hown : OwnR w' w0.N o.ty o.esz v' es'.length cs') (hg : w.grownBy w' (hdr id).blk)
    (hb' : ∀ b, v'.blk = some b → (hdr id).blk = some b ∨ w.heap.size ≤ b) :
    Sim F w0 gv (turned s so sp sc id (some { o with elems := es' })) a w' (fun i => if i = id then ⟨v', []⟩ else hdr i) := by
  have hpos := (h.objs id o ho).pos
  refine h.turn (o0 := o) ho hg (fun j hj => by simp [hj]) hso hsp hsc ?_ ?_ ?_ ?_ ?_ ?_
  · intro v hv
    rcases hoid with e | ⟨e, e2⟩
    · rw [e]; unfold VR; trivial
    · rw [e]
      unfold VR at hv ⊢
      refine ⟨by simp [St.ctx, turned], ?_⟩
      simp [St.ctx]
      rw [e2]
      exact hv.2
  · intro x y v hv
    rcases hpid with e | ⟨e, e2⟩
    · rw [e]; unfold VR; trivial
    · rw [e]
      unfold VR at hv ⊢
      obtain ⟨o1, b, k1, k2, k3⟩ := hv
      have : o1 = o := by
        have k1' : s.objs id = some o1 := k1
        rw [ho] at k1'; cases k1'; rfl
      subst this
      exact ⟨{ o1 with elems := es' }, b, by simp [St.ctx, turned], by simp [St.ctx, Hdr.blk]; rw [e2]; exact k2, k3⟩
  · intro x y z v hv
    exfalso
    unfold VR at hv
    obtain ⟨o1, b, sh, e, k1, k2, _⟩ := hv
    have k1' : s.objs id = some o1 := k1
    rw [ho] at k1'; cases k1'
    rw [hk] at k2; cases k2
  · intro j x y z lo n cp v e hv
    rcases hqid with e1 | ⟨e1, e2⟩
    · exact (e1 _ _ _ _ e).elim
    · rw [e1] at e
      cases e
      obtain ⟨o1, k1, k2, k3, k4⟩ := hv
      replace k1 : s.objs id = some o1 := k1
      rw [ho] at k1
      cases k1
      refine ⟨{ o with elems := es' }, by simp [St.ctx, turned], k2, k3, ?_⟩
      show _ ∨ (_ ∧ ∃ b m, (ite (id = id) (⟨v', []⟩ : Hdr) (hdr id)).v = _ ∧ _)
      rw [if_pos rfl]
      rcases k4 with k4 | ⟨q1, b, m, q2, q3⟩
      · exact .inl k4
      · obtain ⟨m', e3⟩ := e2 b m _ q2
        exact .inr ⟨q1, b, m', e3, q3⟩
  · intro hR o1 e1
    cases e1
    simp only [if_true]
    refine ⟨hpos, hl, nd_nil, cs', hown, hcs, CellsR_slc hk (LR.ofR hR _ _ hlr)⟩
  · intro o1 b _ e
    simp only [if_true] at e
    rcases e with e | e
    · exact (hb' b e).imp .inl (fun h => h)
    · cases e
end

end Go.Ab
namespace Go.Ab
set_option linter.unusedVariables false

theorem VR_nilS {c : Ctx} {v : Value} (h : VR c .nil v) : VR c (.sl []) v := by
  unfold VR at h
  obtain ⟨base, rfl⟩ := h
  unfold VR RR
  exact ⟨base, 0, rfl, Nat.le_refl _, .inl rfl⟩
theorem St.le_nilS {e : Nat → AV} {z : Nat} {o : Nat → Option AObj} {n : Nat} {g : List AV} (t : Nat) (ht : e t = .nil) : St.le ⟨e, z, o, n, g⟩ ⟨upd t (.sl []) e, z, o, n, g⟩ := by
  intro F w0 gv a w ⟨hdr, h⟩
  refine ⟨hdr, fun t' => ?_, h.sz, h.defers, h.gh, h.objs, h.dis, h.below, h.free⟩
  rw [upd_eq]
  by_cases e1 : t' = t
  · subst e1
    have hv := h.env t'
    have ht2 : St.env ⟨e, z, o, n, g⟩ t' = .nil := ht
    rw [ht2] at hv
    show VR _ (if t' = t' then AV.sl [] else e t') _
    rw [if_pos rfl]
    exact VR_nilS (c := St.ctx ⟨e, z, o, n, g⟩ F w hdr) hv
  · show VR _ (if t' = t then AV.sl [] else e t') _
    rw [if_neg e1]
    exact h.env t'
theorem Loop_nilS {body : (Exit → St → Prop) → St → Prop} {K : Exit → St → Prop} {e : Nat → AV} {z : Nat} {o : Nat → Option AObj} {n : Nat} {g : List AV} (t : Nat) (ht : e t = .nil)
    (h : Loop body K ⟨upd t (.sl []) e, z, o, n, g⟩) : Loop body K ⟨e, z, o, n, g⟩ := by
  unfold Loop at h ⊢
  obtain ⟨J, I, m, j0, h0, hb⟩ := h
  exact ⟨J, I, m, j0, St.le_trans (St.le_nilS t ht) h0, hb⟩
theorem OutA_nilS {P : Program} {sh : Bool} {rs : List ResultVar} {r : AV} {os : List AObj} {e : Nat → AV} {z : Nat} {o : Nat → Option AObj} {n : Nat} {g : List AV} (t : Nat) (ht : e t = .nil)
    (h : OutA P sh rs r os ⟨upd t (.sl []) e, z, o, n, g⟩) : OutA P sh rs r os ⟨e, z, o, n, g⟩ := OutA_le (St.le_nilS t ht) h

theorem app_bound2 {L M : List (List AV)} {b : Nat} (h : L.length + M.length ≤ 2097152) (hb : b ≤ 64) : L.length + M.length ≤ 70368744177664 ∧ (L.length + M.length) * b ≤ 140737488355328 := by
  refine ⟨by omega, ?_⟩
  have : (L.length + M.length) * b ≤ (L.length + M.length) * 64 := Nat.mul_le_mul_left _ hb
  omega
theorem ix_at {α : Type} {f : α → List AV} {xs : List α} {n : Int} {m : Nat} {x : α} {Q : List AV → Prop} (e : n = (m : Int)) (hx : xs[m]? = some x) (hQ : Q (f x)) : 0 ≤ n ∧ ∃ y, (xs.map f)[n.toNat]? = some y ∧ Q y := by
  subst e
  exact ⟨by omega, f x, by simp [hx], hQ⟩
theorem idxF_lt {α : Type} {q : α → Bool} : ∀ {xs : List α} {k : Nat} {n : Int}, idxF q k xs = n → 0 ≤ n → ∃ x, xs[n.toNat - k]? = some x ∧ q x = true ∧ (k : Int) ≤ n
  | [], k, n, h, hn => by unfold idxF at h; omega
  | x :: xs, k, n, h, hn => by
    unfold idxF at h
    by_cases hq : q x = true
    · rw [if_pos hq] at h
      subst h
      refine ⟨x, ?_, hq, by omega⟩
      have : (k : Int).toNat - k = 0 := by simp
      rw [this]; rfl
    · rw [if_neg hq] at h
      obtain ⟨y, h1, h2, h3⟩ := idxF_lt (xs := xs) (k := k + 1) h hn
      refine ⟨y, ?_, h2, by omega⟩
      have : n.toNat - k = (n.toNat - (k + 1)) + 1 := by omega
      rw [this]
      simpa using h1
end Go.Ab
namespace Go.Ab
open Go.Proofs
set_option linter.unusedVariables false

theorem bl_irr (a : List UInt8) : Op.bytesLess a a = false := by
  rw [bytesLess_eq]
  exact decide_eq_false (List.lt_irrefl a)
theorem bl_tr {a b c : List UInt8} (h : Op.bytesLess a b = true) (h2 : Op.bytesLess b c = true) : Op.bytesLess a c = true := by
  rw [bytesLess_eq, decide_eq_true_eq] at *
  exact List.lt_trans h h2
theorem bl_tot {a b : List UInt8} (h : Op.bytesLess a b = false) (h2 : ¬ a = b) : Op.bytesLess b a = true := by
  have := bl_leq a b
  rw [h] at this
  have e : (a == b) = false := beq_eq_false_iff_ne.2 h2
  rw [e] at this
  simpa using this.symm
theorem bl_asym {a b : List UInt8} (h : Op.bytesLess a b = true) : Op.bytesLess b a = false := by
  cases h2 : Op.bytesLess b a with
  | false => rfl
  | true => have := bl_tr h h2; rw [bl_irr] at this; cases this
theorem ble_tr2 {a b c : List UInt8} (h : Op.bytesLess a b = true) (h2 : Op.bytesLess c b = false) : Op.bytesLess a c = true := by
  by_cases e : b = c
  · rw [← e]; exact h
  · exact bl_tr h (bl_tot h2 (fun e' => e e'.symm))

section
variable {α : Type} {c : α → Int} {xs : List α}
theorem bs_place (hs : xs.Pairwise fun a b => c b ≤ 0 → c a < 0) : (∀ k x, k < bsPos c xs → xs[k]? = some x → c x < 0) ∧ (∀ k x, bsPos c xs ≤ k → xs[k]? = some x → ¬ c x < 0) := by
  have key : ∃ m, m ≤ xs.length ∧ (∀ k x, k < m → xs[k]? = some x → c x < 0) ∧ (∀ k x, m ≤ k → xs[k]? = some x → ¬ c x < 0) := by
    induction xs with
    | nil => exact ⟨0, Nat.le_refl _, fun k x h => absurd h (Nat.not_lt_zero _), fun k x _ h => by simp at h⟩
    | cons y ys ih =>
      rw [List.pairwise_cons] at hs
      obtain ⟨m, h0, h1, h2⟩ := ih hs.2
      by_cases hy : c y < 0
      · refine ⟨m + 1, by simp; omega, fun k x hk hx => ?_, fun k x hk hx => ?_⟩
        · cases k with
          | zero => simp at hx; subst hx; exact hy
          | succ k => exact h1 k x (by omega) (by simpa using hx)
        · cases k with
          | zero => omega
          | succ k => exact h2 k x (by omega) (by simpa using hx)
      · refine ⟨0, Nat.zero_le _, fun k x hk => absurd hk (Nat.not_lt_zero _), fun k x _ hx => ?_⟩
        cases k with
        | zero => simp at hx; subst hx; exact hy
        | succ k =>
          have hm : x ∈ ys := List.mem_of_getElem? (by simpa using hx)
          intro hc
          exact hy (hs.1 x hm (by omega))
  obtain ⟨m, h0, h1, h2⟩ := key
  rw [bsPos_of m h0 h1 h2]
  exact ⟨h1, h2⟩
theorem bs_at (hs : xs.Pairwise fun a b => c b ≤ 0 → c a < 0) {j : Nat} {x : α} (hx : xs[j]? = some x) (h0 : c x = 0) : j = bsPos c xs := by
  obtain ⟨h1, h2⟩ := bs_place hs
  rcases Nat.lt_trichotomy j (bsPos c xs) with h | h | h
  · have := h1 j x h hx; omega
  · exact h
  · have hlt : bsPos c xs < xs.length := by have := (List.getElem?_eq_some_iff.1 hx).1; omega
    have hy : xs[bsPos c xs]? = some xs[bsPos c xs] := List.getElem?_eq_getElem hlt
    have h3 := h2 _ _ (Nat.le_refl _) hy
    obtain ⟨hj, hjx⟩ := List.getElem?_eq_some_iff.1 hx
    have := List.pairwise_iff_getElem.1 hs _ _ hlt hj h
    rw [hjx] at this
    exact absurd (this (by omega)) h3
theorem bs_hit (hs : xs.Pairwise fun a b => c b ≤ 0 → c a < 0) : bsHit c xs = xs.any fun x => c x == 0 := by
  cases ha : xs.any fun x => c x == 0 with
  | true =>
    obtain ⟨x, hx, h0⟩ := List.any_eq_true.1 ha
    obtain ⟨j, hj, rfl⟩ := List.getElem_of_mem hx
    have hj2 : xs[j]? = some xs[j] := List.getElem?_eq_getElem hj
    have e := bs_at hs hj2 (beq_iff_eq.1 h0)
    unfold bsHit
    rw [← e, hj2]
    exact h0
  | false =>
    unfold bsHit
    split
    · rename_i x hx
      have := List.any_eq_false.1 ha x (List.mem_of_getElem? hx)
      simpa using this
    · rfl
theorem bs_find (hs : xs.Pairwise fun a b => c b ≤ 0 → c a < 0) {p : α → Bool} (hp : ∀ x ∈ xs, p x = (c x == 0)) (h : bsHit c xs = true) : xs.find? p = xs[bsPos c xs]? := by
  cases hf : xs.find? p with
  | none =>
    rw [bs_hit hs] at h
    obtain ⟨x, hx, h0⟩ := List.any_eq_true.1 h
    have := List.find?_eq_none.1 hf x hx
    rw [hp x hx, h0] at this
    exact absurd rfl this
  | some y =>
    have hy := List.mem_of_find?_eq_some hf
    have h0 := List.find?_some hf
    rw [hp y hy] at h0
    obtain ⟨j, hj, rfl⟩ := List.getElem_of_mem hy
    rw [← bs_at hs (List.getElem?_eq_getElem hj) (beq_iff_eq.1 h0), List.getElem?_eq_getElem hj]
theorem bs_isSome (hs : xs.Pairwise fun a b => c b ≤ 0 → c a < 0) {p : α → Bool} (hp : ∀ x ∈ xs, p x = (c x == 0)) : bsHit c xs = (xs.find? p).isSome := by
  rw [bs_hit hs]
  cases hf : xs.find? p with
  | none =>
    simp only [Option.isSome_none]
    rw [List.any_eq_false]
    intro x hx h0
    have := List.find?_eq_none.1 hf x hx
    rw [hp x hx, h0] at this
    exact this rfl
  | some y =>
    simp only [Option.isSome_some]
    rw [List.any_eq_true]
    have hy := List.mem_of_find?_eq_some hf
    have h0 := List.find?_some hf
    rw [hp y hy] at h0
    exact ⟨y, hy, h0⟩
end

/-! Lists that are collected. -/
end Go.Ab
namespace Go.Ab
open Go.Sort Go.Proofs
set_option linter.unusedVariables false

section
end
end Go.Ab
namespace Go.Ab
set_option linter.unusedVariables false

def renO (a b : Nat) : Nat → AV := fun j => if j = a then .own b else if j = b then .any else .own j
def renP (a b : Nat) : Nat → Nat → Nat → AV := fun j x y => if j = a then .ptr b x y else if j = b then .any else .ptr j x y
def renC (a b : Nat) : SC := fun j x y z => if j = a then .cel b x y z else if j = b then .any else .cel j x y z
def renS (s : St) (a b : Nat) : St :=
  match s with
  | ⟨e, z, o, n, g⟩ => ⟨fun t => (e t).sub (renO a b) (renP a b) (renC a b), z, fun i => if i = b then (o a).map (subO (renO a b) (renP a b) (renC a b)) else if i = a then none else (o i).map (subO (renO a b) (renP a b) (renC a b)), n, AV.sub.subL (renO a b) (renP a b) (renC a b) g⟩

theorem St.le_ren (s : St) (a b : Nat) (hab : a ≠ b) (ha : (s.objs a).isSome = true) : s.le (renS s a b) := by
  intro F w0 gv act w ⟨hdr, h⟩
  obtain ⟨oa, hoa⟩ := Option.isSome_iff_exists.1 ha
  let from' : Nat → Nat := fun i => if i = b then a else i
  let hdr' : Nat → Hdr := fun i => if i = b then hdr a else hdr i
  have hh : ∀ i, hdr' i = hdr (from' i) := fun i => by
    show (if i = b then hdr a else hdr i) = hdr (if i = b then a else i)
    split <;> rfl
  have hob : ∀ i o, (renS s a b).objs i = some o → ∃ o1, s.objs (from' i) = some o1 ∧ o = subO (renO a b) (renP a b) (renC a b) o1 ∧ (i = b ∨ i ≠ a) := by
    intro i o hi
    show ∃ o1, s.objs (if i = b then a else i) = some o1 ∧ _ ∧ _
    have hi2 : (if i = b then (s.objs a).map (subO (renO a b) (renP a b) (renC a b)) else if i = a then none else (s.objs i).map (subO (renO a b) (renP a b) (renC a b))) = some o := hi
    by_cases e : i = b
    · rw [if_pos e] at hi2 ⊢
      rw [hoa] at hi2
      exact ⟨oa, hoa, by simpa using hi2.symm, .inl e⟩
    · rw [if_neg e] at hi2 ⊢
      by_cases e2 : i = a
      · rw [if_pos e2] at hi2; cases hi2
      · rw [if_neg e2] at hi2
        cases hs : s.objs i with
        | none => rw [hs] at hi2; cases hi2
        | some o1 => rw [hs] at hi2; exact ⟨o1, rfl, by simpa using hi2.symm, .inr e2⟩
  have hsoV : ∀ j v, VR (s.ctx F w hdr) (.own j) v → VR ((renS s a b).ctx F w hdr') (renO a b j) v := by
    intro j v hv
    unfold VR at hv
    obtain ⟨h1, h2⟩ := hv
    obtain ⟨o1, ho1⟩ := Option.isSome_iff_exists.1 h1
    replace ho1 : s.objs j = some o1 := ho1
    replace h2 : v = (hdr j).v := h2
    unfold renO
    by_cases e : j = a
    · subst e
      rw [if_pos rfl]
      unfold VR
      refine ⟨?_, ?_⟩
      · show ((renS s j b).objs b).isSome = true
        simp [renS, ho1]
      · show v = (if b = b then hdr j else hdr b).v
        rw [if_pos rfl]; exact h2
    · rw [if_neg e]
      by_cases e2 : j = b
      · rw [if_pos e2]; unfold VR; trivial
      · rw [if_neg e2]
        unfold VR
        refine ⟨?_, ?_⟩
        · show ((renS s a b).objs j).isSome = true
          simp [renS, ho1, e, e2]
        · show v = (if j = b then hdr a else hdr j).v
          rw [if_neg e2]; exact h2
  have hspV : ∀ j x y v, VR (s.ctx F w hdr) (.ptr j x y) v → VR ((renS s a b).ctx F w hdr') (renP a b j x y) v := by
    intro j x y v hv
    unfold VR at hv
    obtain ⟨o1, k, h1, h2, h3⟩ := hv
    replace h1 : s.objs j = some o1 := h1
    replace h2 : (hdr j).blk = some k := h2
    unfold renP
    by_cases e : j = a
    · subst e
      rw [if_pos rfl]
      unfold VR
      refine ⟨subO (renO j b) (renP j b) (renC j b) o1, k, ?_, ?_, ?_⟩
      · show (renS s j b).objs b = _
        simp [renS, h1]
      · show (if b = b then hdr j else hdr b).blk = some k
        rw [if_pos rfl]; exact h2
      · rw [(subO_esz _ _ _ o1).1]; exact h3
    · rw [if_neg e]
      by_cases e2 : j = b
      · rw [if_pos e2]; unfold VR; trivial
      · rw [if_neg e2]
        unfold VR
        refine ⟨subO (renO a b) (renP a b) (renC a b) o1, k, ?_, ?_, ?_⟩
        · show (renS s a b).objs j = _
          simp [renS, h1, e, e2]
        · show (if j = b then hdr a else hdr j).blk = some k
          rw [if_neg e2]; exact h2
        · rw [(subO_esz _ _ _ o1).1]; exact h3
  have hscV : ∀ j x y z v, VR (s.ctx F w hdr) (.cel j x y z) v → VR ((renS s a b).ctx F w hdr') (renC a b j x y z) v := by
    intro j x y z v hv
    unfold VR at hv
    obtain ⟨o1, k, sh, el, h1, hk, q1, q2, h2, h3⟩ := hv
    replace h1 : s.objs j = some o1 := h1
    replace h2 : (hdr j).blk = some k := h2
    have hsame : subO (renO a b) (renP a b) (renC a b) o1 = o1 := by simp [subO, hk]
    unfold renC
    by_cases e : j = a
    · subst e
      rw [if_pos rfl]
      unfold VR
      refine ⟨o1, k, sh, el, ?_, hk, q1, q2, ?_, h3⟩
      · show (renS s j b).objs b = _
        simp [renS, h1, hsame]
      · show (if b = b then hdr j else hdr b).blk = some k
        rw [if_pos rfl]; exact h2
    · rw [if_neg e]
      by_cases e2 : j = b
      · rw [if_pos e2]; unfold VR; trivial
      · rw [if_neg e2]
        unfold VR
        refine ⟨o1, k, sh, el, ?_, hk, q1, q2, ?_, h3⟩
        · show (renS s a b).objs j = _
          simp [renS, h1, e, e2, hsame]
        · show (if j = b then hdr a else hdr j).blk = some k
          rw [if_neg e2]; exact h2
  have hptV : ∀ i j x y z lo n cp v, renC a b i 0 0 [] = .cel j x y z → PrtR (s.ctx F w hdr) i lo n cp v → PrtR ((renS s a b).ctx F w hdr') j lo n cp v := by
    intro i j x y z lo n cp v e hv
    obtain ⟨o1, h1, h2, h3, h4⟩ := hv
    replace h1 : s.objs i = some o1 := h1
    obtain ⟨s1, s2, s3, s4⟩ := subO_esz (renO a b) (renP a b) (renC a b) o1
    have key : (renS s a b).objs j = some (subO (renO a b) (renP a b) (renC a b) o1) ∧ (hdr' j) = hdr i := by
      unfold renC at e
      by_cases e1 : i = a
      · rw [if_pos e1] at e
        cases e
        subst e1
        refine ⟨by simp [renS, h1], ?_⟩
        show (if b = b then hdr i else hdr b) = _
        rw [if_pos rfl]
      · rw [if_neg e1] at e
        by_cases e2 : i = b
        · rw [if_pos e2] at e; cases e
        · rw [if_neg e2] at e
          cases e
          refine ⟨by simp [renS, h1, e1, e2], ?_⟩
          show (if i = b then hdr a else hdr i) = _
          rw [if_neg e2]
    refine ⟨_, key.1, by rw [subO_box]; exact h2, h3, ?_⟩
    rw [s1]
    show _ ∨ (_ ∧ ∃ b0 m, (hdr' j).v = _ ∧ _)
    rw [key.2]
    exact h4
  refine ⟨hdr', h.recast (s' := renS s a b) (hdr' := hdr') (so := renO a b) (sp := renP a b) (sc := renC a b) (fun _ => False) (fun _ => True) rfl rfl rfl (Nat.le_refl _) (fun _ _ _ => rfl) (fun _ h => h.elim) (fun t => rfl) rfl rfl ?_ hsoV hspV hscV hptV (fun i o' _ hc => absurd trivial hc) ?_ ?_⟩
  · intro i o k hi hk
    obtain ⟨o1, ho1, _, _⟩ := hob i o hi
    rw [hh] at hk
    exact .inl ⟨_, o1, ho1, hk⟩
  · intro hR i o hi _
    obtain ⟨o1, ho1, rfl, _⟩ := hob i o hi
    obtain ⟨k2, k3, kn, cs, k4, k5, k6⟩ := h.objs _ o1 ho1
    obtain ⟨s1, s2, s3, s4⟩ := subO_esz (renO a b) (renP a b) (renC a b) o1
    rw [hh]
    refine ⟨by rw [s1]; exact k2, ?_, kn, cs, by rw [s1, s2, s4]; exact k4, k5, ?_⟩
    · intro e he
      rw [s1]
      unfold subO at he
      split at he
      · simp at he
        obtain ⟨e0, he0, rfl⟩ := he
        rw [subL_length]; exact k3 e0 he0
      · exact k3 e he
      · exact k3 e he
    · cases hk : o1.kind with
      | box =>
        obtain ⟨q1, q2⟩ := k6.box hk
        rw [q2]
        refine CellsR_box (by rw [s3]; exact hk) ?_
        have : (subO (renO a b) (renP a b) (renC a b) o1).elems.flatten = AV.sub.subL (renO a b) (renP a b) (renC a b) o1.elems.flatten := by simp [subO, hk, subL_flatten]
        rw [this]
        exact VL.sub (c := s.ctx F w hdr) (c' := (renS s a b).ctx F w hdr') hR hsoV hspV hscV hptV _ _ q1
      | slc =>
        obtain ⟨q1, q2⟩ := k6.slc hk
        rw [q2]
        have : (subO (renO a b) (renP a b) (renC a b) o1) = o1 := by simp [subO, hk]
        rw [this]
        exact CellsR_slc hk (LR.ofR hR _ _ q1)
      | deep sh =>
        have : (subO (renO a b) (renP a b) (renC a b) o1) = o1 := by simp [subO, hk]
        rw [this]
        exact CellsR_deep hk (k6.deep hk)
  · intro i j o oo k hi hj bi bj
    obtain ⟨o1, q1, _, e1⟩ := hob i o hi
    obtain ⟨o2, q2, _, e2⟩ := hob j oo hj
    rw [hh] at bi bj
    have e := h.dis _ _ o1 o2 k q1 q2 bi bj
    have e3 : (if i = b then a else i) = (if j = b then a else j) := e
    split at e3 <;> split at e3 <;> rename_i u v
    · rw [u, v]
    · rcases e2 with e2 | e2
      · exact absurd e2 v
      · exact absurd e3.symm e2
    · rcases e1 with e1 | e1
      · exact absurd e1 u
      · exact absurd e3 e1
    · exact e3
theorem Again_ren {J : Type} {p : J → Prop} {mods : J → List (Nat × AV)} {omods : J → List (Nat × AObj)} {m : J → Nat} {j : J} {el : List (Nat × AV)} {ol : List (Nat × AObj)} {z n : Nat} {g : List AV} {s : St} (a b : Nat) (hab : a ≠ b) (ha : (s.objs a).isSome = true) (h : Again p mods omods m j el ol z n g (renS s a b)) : Again p mods omods m j el ol z n g s :=
  Again_le (St.le_ren s a b hab ha) h
end Go.Ab
namespace Go.Ab
open Go.RowKit
set_option linter.unusedVariables false

theorem St.le_prom (s : St) (l : List (Nat × List Shp)) (hp : PromAll s l) : s.le (promS s l) := fun F w0 gv a w ⟨hdr, h⟩ => ⟨hdr, (h.prom hp).1⟩
theorem Loop_prom {body : (Exit → St → Prop) → St → Prop} {K : Exit → St → Prop} {s : St} (l : List (Nat × List Shp)) (hp : PromAll s l) (h : Loop body K (promS s l)) : Loop body K s := by
  unfold Loop at h ⊢
  obtain ⟨J, I, m, j0, h0, hb⟩ := h
  exact ⟨J, I, m, j0, St.le_trans (St.le_prom s l hp) h0, hb⟩
structure MOut (w w' : World) (shs : List Shp) (al' : List AV) (vs : List Value) (S : List Nat) : Prop where
  tl : ∃ S', TL w' al' shs vs S' ∧ S'.Nodup ∧ ∀ b ∈ S', b ∈ S ∨ w.heap.size ≤ b
  os : w'.os = w.os
  tape : w'.tape = w.tape
  output : w'.output = w.output
  size : w.heap.size ≤ w'.heap.size
  block : ∀ k, k < w.heap.size → k ∉ S → w'.heap[k]? = w.heap[k]?

def argV (b : Bool) (vs : List Value) : Value :=
  match b with
  | true => .agg vs.toArray
  | false => vs.headD undef
def argA (b : Bool) (cs : List AV) : AV :=
  match b with
  | true => .agg cs
  | false => cs.headD .any

structure MC (P : Program) (f : Nat) (b : Bool) (al : List AV) (shs : List Shp) (k : Int) (al' : List AV) (k' : Int) : Prop where
  one : b = false → al.length = 1
  run : ∀ (w : World) (vs : List Value) (S : List Nat), Tab w (fun x => x ∈ S ∨ w.heap.size ≤ x) → TL w al shs vs S → S.Nodup → Ans P f #[argV b vs, .int .i64 k] w fun r w' => r = .int .i64 k' ∧ MOut w w' shs al' vs S

/-! The objects of a value that is handed over, named from n on. -/
def numC : Nat → List AV → List Shp → List AV
  | n, a :: al, sh :: shs =>
    match a with
    | .sl _ => .own n :: numC (n + 1) al shs
    | a => a :: numC n al shs
  | _, _, _ => []
end Go.Ab
namespace Go.Ab
open Go.RowKit
set_option linter.unusedVariables false

def lookC : List AV → List AV → List Shp → Nat → Option AObj
  | c :: cs, a :: al, sh :: shs, j =>
    match c with
    | .own i =>
      match Nat.beq j i with
      | true =>
        match a with
        | .sl es =>
          match sh with
          | .sl ty esz cells => some ⟨.deep cells, ty, esz, es⟩
          | .leaf => none
        | _ => none
      | false => lookC cs al shs j
    | _ => lookC cs al shs j
  | _, _, _, _ => none
def matchC : List AV → List AV → List Shp → Bool
  | c :: cs, a :: al, sh :: shs =>
    (match c with
    | .own _ =>
      match a with
      | .sl _ => true
      | _ => false
    | _ => flatA sh a) && matchC cs al shs
  | [], [], [] => true
  | _, _, _ => false
def OwnV (hdr : Nat → Hdr) : List AV → List Value → Prop
  | c :: cs, v :: vs => (∀ j, c = .own j → (hdr j).v = v) ∧ OwnV hdr cs vs
  | _, _ => True

theorem OwnV.congr {hdr hdr' : Nat → Hdr} : ∀ {cs : List AV} {vs : List Value}, (∀ j, inL j (ownsOf cs) = true → hdr' j = hdr j) → OwnV hdr cs vs → OwnV hdr' cs vs
  | [], _, _, _ => by unfold OwnV; trivial
  | _ :: _, [], _, _ => by unfold OwnV; trivial
  | c :: cs, v :: vs, he, h => by
    unfold OwnV at h ⊢
    refine ⟨fun j hj => ?_, OwnV.congr (fun j hj => he j ?_) h.2⟩
    · rw [he j (inL_mem.2 (by rw [ownsOf_cons, hj]; simp))]
      exact h.1 j hj
    · exact inL_mem.2 (by rw [ownsOf_cons]; exact List.mem_append_right _ (inL_mem.1 hj))

theorem objs_of {w : World} {N : Nat → Prop} : ∀ (cs al : List AV) (shs : List Shp) (vs : List Value) (S : List Nat), matchC cs al shs = true → dupL (ownsOf cs) = false → TL w al shs vs S → S.Nodup → (∀ b ∈ S, N b) →
    ∃ hdr : Nat → Hdr, (∀ j, inL j (ownsOf cs) = true → ∃ o, lookC cs al shs j = some o ∧ o.isOwn = true ∧ (∀ c : Ctx, c.w = w → ObjR N c o (hdr j)) ∧ ∀ b, (hdr j).has b → b ∈ S) ∧
      (∀ i j b, inL i (ownsOf cs) = true → inL j (ownsOf cs) = true → (hdr i).has b → (hdr j).has b → i = j) ∧ OwnV hdr cs vs
  | [], [], [], vs, S, _, _, _, _, _ => ⟨fun _ => ⟨.nilFunc, []⟩, fun j hj => by simp [ownsOf, inL] at hj, fun i j b hi => by simp [ownsOf, inL] at hi, by unfold OwnV; trivial⟩
  | c :: cs, a :: al, sh :: shs, vs, S, hm, hd, ht, hn, hN => by
    simp only [matchC, Bool.and_eq_true] at hm
    unfold TL at ht
    obtain ⟨sh', shs', v, vs', S1, S2, h1, h2, h3, h4, h5⟩ := ht
    cases h1
    subst h2 h3
    rw [List.nodup_append] at hn
    have hd2 : dupL (ownsOf cs) = false := by
      cases c <;> simp only [ownsOf] at hd <;> try exact hd
      simp only [dupL, Bool.or_eq_false_iff] at hd
      exact hd.2
    obtain ⟨hdr, k1, k2, k3⟩ := objs_of cs al shs vs' S2 hm.2 hd2 h5 hn.2.1 (fun b hb => hN b (by simp [hb]))
    have hm1 := hm.1
    by_cases hc : ∃ i, c = .own i
    · obtain ⟨i, rfl⟩ := hc
      simp only at hm1
      split at hm1
      · rename_i es
        unfold TR at h4
        obtain ⟨ty, esz, cells, cs0, S', e1, e2, e3, e4, e5, e6⟩ := h4
        subst e1
        simp only [ownsOf, dupL, Bool.or_eq_false_iff] at hd
        have hni : ∀ j, inL j (ownsOf cs) = true → j ≠ i := fun j hj e => by rw [e, hd.1] at hj; cases hj
        have hhas : ∀ b, Hdr.has ⟨v, S'⟩ b → b ∈ S1 := fun b hb => by
          rw [e5]
          rcases hb with hb | hb
          · exact List.mem_append_left _ (by simpa using show v.blk = some b from hb)
          · exact List.mem_append_right _ hb
        refine ⟨fun j => if j = i then ⟨v, S'⟩ else hdr j, fun j hj => ?_, fun x y b hx hy bx by' => ?_, ?_⟩
        · by_cases hji : j = i
          · subst hji
            refine ⟨⟨.deep cells, ty, esz, es⟩, by simp [lookC, Nat.beq_refl], rfl, fun c' hc' => ?_, fun b hb => ?_⟩
            · simp only [if_true]
              have hn1 := hn.1
              rw [e5, List.nodup_append] at hn1
              refine ⟨e2, (TEs.reads (ro := fun _ => True) esz cells es cs0 S' (fun _ _ => trivial) e6).2, ⟨hn1.2.1, fun b hb hb' => hn1.2.2 b (by simpa using show v.blk = some b from hb) b hb' rfl, fun b hb => ⟨hN b (by rw [e5]; simp [hb]), by rw [hc']; exact TEs.lt _ _ _ _ _ e6 b hb⟩⟩, cs0, ?_, e4, CellsR_deep (sh := cells) rfl (by rw [hc']; exact e6)⟩
              rw [hc']
              exact e3.mono (fun _ _ => rfl) (fun b hb _ => hN b (by rw [e5]; simp [hb]))
            · simp only [if_true] at hb
              exact List.mem_append_left _ (hhas b hb)
          · have hj' : inL j (ownsOf cs) = true := by
              simp only [ownsOf] at hj
              have := inL_mem.1 hj
              simp only [List.mem_cons] at this
              rcases this with e | e
              · exact absurd e hji
              · exact inL_mem.2 e
            obtain ⟨o, q1, q0, q2, q3⟩ := k1 j hj'
            refine ⟨o, ?_, q0, by simp only [if_neg hji]; exact q2, by simp only [if_neg hji]; exact fun b hb => List.mem_append_right _ (q3 b hb)⟩
            simp only [lookC]
            cases hb : Nat.beq j i with
            | true => exact absurd (Nat.eq_of_beq_eq_true hb) hji
            | false => exact q1
        · have mem : ∀ z, inL z (ownsOf (AV.own i :: cs)) = true → z = i ∨ inL z (ownsOf cs) = true := by
            intro z hz
            simp only [ownsOf] at hz
            have := inL_mem.1 hz
            simp only [List.mem_cons] at this
            exact this.imp (fun h => h) inL_mem.2
          have cross : ∀ z b, inL z (ownsOf cs) = true → Hdr.has ⟨v, S'⟩ b → (hdr z).has b → False := by
            intro z b hz h1 h2
            obtain ⟨o, _, _, _, q3⟩ := k1 z hz
            exact hn.2.2 b (hhas b h1) b (q3 b h2) rfl
          rcases mem x hx with ex | ex <;> rcases mem y hy with ey | ey
          · rw [ex, ey]
          · simp only [ex, if_true] at bx
            simp only [if_neg (hni y ey)] at by'
            exact (cross y b ey bx by').elim
          · simp only [ey, if_true] at by'
            simp only [if_neg (hni x ex)] at bx
            exact (cross x b ex by' bx).elim
          · simp only [if_neg (hni x ex)] at bx
            simp only [if_neg (hni y ey)] at by'
            exact k2 x y b ex ey bx by'
        · unfold OwnV
          refine ⟨fun j hj => by cases hj; simp, OwnV.congr (fun j hj => by simp [hni j hj]) k3⟩
      · cases hm1
    · have hno : ownsOf (c :: cs) = ownsOf cs := by
        cases c <;> first | rfl | exact absurd ⟨_, rfl⟩ hc
      have hlk : ∀ j, lookC (c :: cs) (a :: al) (sh :: shs) j = lookC cs al shs j := by
        intro j
        cases c <;> first | rfl | exact absurd ⟨_, rfl⟩ hc
      rw [hno]
      refine ⟨hdr, fun j hj => ?_, k2, ?_⟩
      · obtain ⟨o, q1, q0, q2, q3⟩ := k1 j hj
        exact ⟨o, by rw [hlk]; exact q1, q0, q2, fun b hb => List.mem_append_right _ (q3 b hb)⟩
      · unfold OwnV
        exact ⟨fun j hj => absurd ⟨j, hj⟩ hc, k3⟩
  | [], [], _ :: _, _, _, hm, _, _, _, _ => by simp [matchC] at hm
  | [], _ :: _, _, _, _, hm, _, _, _, _ => by simp [matchC] at hm
  | _ :: _, [], _, _, _, hm, _, _, _, _ => by simp [matchC] at hm
  | _ :: _, _ :: _, [], _, _, hm, _, _, _, _ => by simp [matchC] at hm

def updM (s : St) (cs al : List AV) (shs : List Shp) : St :=
  match s with
  | ⟨e, z, o, n, g⟩ => ⟨fun t => (e t).sub (fun i => .own i) (fun i x y => .ptr i x y) (killsC (ownsOf cs)), z,
      fun i => match inL i (ownsOf cs) with | true => lookC cs al shs i | false => (o i).map (subO (fun i => .own i) (fun i x y => .ptr i x y) (killsC (ownsOf cs))), n, AV.sub.subL (fun i => .own i) (fun i x y => .ptr i x y) (killsC (ownsOf cs)) g⟩

section
variable {F : Nat → Prop} {w0 : Base} {gv : List Value} {s : St} {a : Act} {w : World} {hdr : Nat → Hdr}

theorem fit_look : ∀ {cs al : List AV} {shs : List Shp}, fitL s shs cs = true → dupL (ownsOf cs) = false → ∀ j, inL j (ownsOf cs) = true → ∃ oj sh, s.objs j = some oj ∧ oj.kind = .deep sh ∧ ∀ o, lookC cs al shs j = some o → o.esz = oj.esz
  | [], _, _, _, _, j, hj => by simp [ownsOf, inL] at hj
  | c :: cs, _, [], hf, _, _, _ => by simp [fitL] at hf
  | c :: cs, al, sh :: shs, hf, hd, j, hj => by
    simp only [fitL, Bool.and_eq_true] at hf
    have hd2 : dupL (ownsOf cs) = false := by
      cases c <;> simp only [ownsOf] at hd <;> try exact hd
      simp only [dupL, Bool.or_eq_false_iff] at hd
      exact hd.2
    by_cases hc : c = .own j
    · subst hc
      have hf1 := hf.1
      unfold fitA at hf1
      split at hf1
      · simp at hf1
      · rename_i ty esz cells
        simp only at hf1
        split at hf1
        · rename_i o ho
          split at hf1
          · rename_i sh' hk
            simp only [Bool.and_eq_true] at hf1
            refine ⟨o, sh', ho, hk, fun o' h' => ?_⟩
            cases al with
            | nil => simp [lookC] at h'
            | cons x al =>
              simp only [lookC, Nat.beq_refl] at h'
              split at h' <;> cases h'
              exact (Nat.eq_of_beq_eq_true hf1.2.1).symm
          · cases hf1
          · cases hf1
        · cases hf1
    · have hj2 : inL j (ownsOf cs) = true := by
        have := inL_mem.1 hj
        rw [ownsOf_cons, List.mem_append] at this
        rcases this with h | h
        · exfalso
          cases c <;> simp at h
          exact hc (by rw [h])
        · exact inL_mem.2 h
      cases al with
      | nil =>
        obtain ⟨oj, sh', q1, q2, _⟩ := fit_look (al := []) hf.2 hd2 j hj2
        exact ⟨oj, sh', q1, q2, fun o h => by simp [lookC] at h⟩
      | cons x al =>
        obtain ⟨oj, sh', q1, q2, q3⟩ := fit_look (al := al) hf.2 hd2 j hj2
        refine ⟨oj, sh', q1, q2, fun o h => q3 o ?_⟩
        cases c <;> simp only [lookC] at h <;> try exact h
        rename_i i
        cases hb : Nat.beq j i with
        | true => exact absurd (by rw [Nat.eq_of_beq_eq_true hb]) hc
        | false => simpa [hb] using h

theorem own_v : ∀ {cs : List AV} {vs : List Value} {h1 : Nat → Hdr}, VL (s.ctx F w hdr) cs vs → OwnV h1 cs vs → ∀ j, inL j (ownsOf cs) = true → (h1 j).v = (hdr j).v
  | [], _, _, _, _, j, hj => by simp [ownsOf, inL] at hj
  | c :: cs, [], _, hv, _, _, _ => by unfold VL at hv; exact hv.elim
  | c :: cs, v :: vs, h1, hv, ho, j, hj => by
    unfold VL at hv
    unfold OwnV at ho
    have := inL_mem.1 hj
    rw [ownsOf_cons, List.mem_append] at this
    rcases this with h | h
    · cases c <;> simp at h
      rename_i i
      subst h
      have q := hv.1
      unfold VR at q
      rw [ho.1 j rfl]
      exact q.2
    · exact own_v hv.2 ho.2 j (inL_mem.2 h)

theorem Sim.marked (h : Sim F w0 gv s a w hdr) {cs al' : List AV} {shs : List Shp} {vs : List Value} {S : List Nat} {w' : World} (hfit : fitL s shs cs = true) (hdup : dupL (ownsOf cs) = false) (hv : VL (s.ctx F w hdr) cs vs)
    (hS : ∀ b ∈ S, ∃ j oj, inL j (ownsOf cs) = true ∧ s.objs j = some oj ∧ (hdr j).has b) (hm : MOut w w' shs al' vs S) (hma : matchC cs al' shs = true) :
    ∃ hdr', Sim F w0 gv (updM s cs al' shs) a w' hdr' := by
  obtain ⟨S', t1, t2, t3⟩ := hm.tl
  have hSN : ∀ b ∈ S, w0.N b := fun b hb => by obtain ⟨j, oj, _, q1, q2⟩ := hS b hb; exact (h.ge q1 q2).1
  obtain ⟨hdr1, k1, k2, k3⟩ := objs_of (N := w0.N) cs al' shs vs S' hma hdup t1 t2 (fun b hb => (t3 b hb).elim (hSN b) (fun hb => w0.up b (Nat.le_trans h.below.size hb)))
  have hov := own_v hv k3
  have hlook := fun j hj => fit_look (al := al') hfit hdup j hj
  refine ⟨fun i => if inL i (ownsOf cs) = true then hdr1 i else hdr i, ?_⟩
  have hin : ∀ i, inL i (ownsOf cs) = true → (if inL i (ownsOf cs) = true then hdr1 i else hdr i) = hdr1 i := fun i hi => if_pos hi
  have hout : ∀ i, ¬ inL i (ownsOf cs) = true → (if inL i (ownsOf cs) = true then hdr1 i else hdr i) = hdr i := fun i hi => if_neg hi
  have hobj : ∀ i, (updM s cs al' shs).objs i = if inL i (ownsOf cs) = true then lookC cs al' shs i else (s.objs i).map (subO (fun i => .own i) (fun i x y => .ptr i x y) (killsC (ownsOf cs))) := by
    intro i
    show (match inL i (ownsOf cs) with | true => lookC cs al' shs i | false => (s.objs i).map (subO (fun i => .own i) (fun i x y => .ptr i x y) (killsC (ownsOf cs)))) = _
    cases inL i (ownsOf cs) <;> simp
  have hO : ∀ i o, s.objs i = some o → ∃ o', (updM s cs al' shs).objs i = some o' ∧ o'.esz = o.esz ∧ (if inL i (ownsOf cs) = true then hdr1 i else hdr i).v = (hdr i).v := by
    intro i o hi
    by_cases hx : inL i (ownsOf cs) = true
    · obtain ⟨o', q1, _⟩ := k1 i hx
      obtain ⟨oj, sh, r1, r2, r3⟩ := hlook i hx
      rw [hi] at r1
      cases r1
      exact ⟨o', by rw [hobj, if_pos hx]; exact q1, r3 o' q1, by rw [if_pos hx]; exact hov i hx⟩
    · exact ⟨_, by rw [hobj, if_neg hx, hi]; rfl, (subO_esz _ _ _ o).1, by rw [if_neg hx]⟩
  have hdisS : ∀ i o b, ¬ inL i (ownsOf cs) = true → s.objs i = some o → (hdr i).has b → b ∉ S := by
    intro i o b hx hi hb hS'
    obtain ⟨j, oj, q0, q1, q2⟩ := hS b hS'
    have := h.dis i j o oj b hi q1 hb q2
    rw [this] at hx
    exact hx q0
  refine h.recast (s' := updM s cs al' shs) (so := fun i => .own i) (sp := fun i x y => .ptr i x y) (sc := killsC (ownsOf cs)) (fun b => b ∈ S) (fun i => inL i (ownsOf cs) = true) hm.os hm.tape hm.output hm.size hm.block
    (fun b hb => by obtain ⟨j, oj, _, q1, q2⟩ := hS b hb; exact ⟨j, oj, q1, q2⟩) (fun t => rfl) rfl rfl ?_
    (own_keep (c := s.ctx F w hdr) (c' := (updM s cs al' shs).ctx F w' (fun i => if inL i (ownsOf cs) = true then hdr1 i else hdr i)) hO)
    (ptr_keep (c := s.ctx F w hdr) (c' := (updM s cs al' shs).ctx F w' (fun i => if inL i (ownsOf cs) = true then hdr1 i else hdr i)) hO) ?_ (fun i j x y z lo n cp v e hv => by
      simp only [killsC] at e
      cases hl : inL i (ownsOf cs) with
      | true => rw [hl] at e; cases e
      | false =>
        rw [hl] at e
        cases e
        obtain ⟨o1, q1, q2, q3, q4⟩ := hv
        replace q1 : s.objs i = some o1 := q1
        have hnx : ¬ inL i (ownsOf cs) = true := by rw [hl]; decide
        obtain ⟨s1, s2, s3, s4⟩ := subO_esz (fun i => .own i) (fun i x y => .ptr i x y) (killsC (ownsOf cs)) o1
        refine ⟨_, by show (updM s cs al' shs).objs i = _; rw [hobj, if_neg hnx, q1]; rfl, by rw [subO_box]; exact q2, q3, ?_⟩
        rw [s1]
        show _ ∨ (_ ∧ ∃ b m, (ite (inL i (ownsOf cs) = true) (hdr1 i) (hdr i)).v = _ ∧ _)
        rw [if_neg hnx]
        exact q4) ?_ ?_ ?_
  · intro i o b hi hb
    by_cases hx : inL i (ownsOf cs) = true
    · rw [hin i hx] at hb
      obtain ⟨o', _, _, _, q3⟩ := k1 i hx
      rcases t3 b (q3 b hb) with hb' | hb'
      · obtain ⟨j, oj, _, r1, r2⟩ := hS b hb'
        exact .inl ⟨j, oj, r1, r2⟩
      · exact .inr hb'
    · rw [hout i hx] at hb
      rw [hobj, if_neg hx] at hi
      cases hs : s.objs i with
      | none => rw [hs] at hi; cases hi
      | some o1 => exact .inl ⟨i, o1, hs, hb⟩
  · intro i x y z v hv'
    simp only [killsC]
    cases hx : inL i (ownsOf cs) with
    | true => exact any_ok
    | false =>
      simp only
      have hx' : ¬ inL i (ownsOf cs) = true := by rw [hx]; simp
      unfold VR at hv' ⊢
      obtain ⟨o, b, sh, e, q1, q2, q3, q4, q5, q6⟩ := hv'
      replace q1 : s.objs i = some o := q1
      refine ⟨o, b, sh, e, ?_, q2, q3, q4, ?_, ?_⟩
      · show (updM s cs al' shs).objs i = some o
        rw [hobj, if_neg hx', q1]
        simp [subO, q2]
      · show (if inL i (ownsOf cs) = true then hdr1 i else hdr i).blk = some b
        rw [if_neg hx']; exact q5
      · refine (World.cell?_of_block (w := w) (w' := w') (a := ⟨b, _, none⟩) (hm.block b (h.ge q1 (.inl q5)).2 (hdisS i o b hx' q1 (.inl q5)))).trans q6
  · intro i o hi hx
    rw [hobj, if_neg hx] at hi
    cases hs : s.objs i with
    | none => rw [hs] at hi; cases hi
    | some o1 =>
      rw [hs] at hi
      exact ⟨o1, rfl, by simpa using hi.symm, if_neg hx, fun b hb => hdisS i o1 b hx hs hb⟩
  · intro _ i o hi hx
    rw [hobj, if_pos hx] at hi
    obtain ⟨o', q1, _, q2, _⟩ := k1 i hx
    rw [q1] at hi
    cases hi
    rw [if_pos hx]
    exact q2 _ rfl
  · have key : ∀ i j o oo b, (updM s cs al' shs).objs i = some o → (updM s cs al' shs).objs j = some oo → inL i (ownsOf cs) = true → ¬ inL j (ownsOf cs) = true → (hdr1 i).has b → (hdr j).has b → False := by
      intro i j o oo b hi hj ei ej bi bj
      rw [hobj, if_neg ej] at hj
      cases hs : s.objs j with
      | none => rw [hs] at hj; cases hj
      | some o1 =>
        obtain ⟨o', _, _, _, q3⟩ := k1 i ei
        rcases t3 b (q3 b bi) with hb' | hb'
        · exact hdisS j o1 b ej hs bj hb'
        · have := (h.ge hs bj).2
          omega
    intro i j o oo b hi hj bi bj
    by_cases ei : inL i (ownsOf cs) = true
    · rw [if_pos ei] at bi
      by_cases ej : inL j (ownsOf cs) = true
      · rw [if_pos ej] at bj
        exact k2 i j b ei ej bi bj
      · rw [if_neg ej] at bj
        exact (key i j o oo b hi hj ei ej bi bj).elim
    · rw [if_neg ei] at bi
      by_cases ej : inL j (ownsOf cs) = true
      · rw [if_pos ej] at bj
        exact (key j i oo o b hj hi ej ei bj bi).elim
      · rw [if_neg ej] at bj
        rw [hobj, if_neg ei] at hi
        rw [hobj, if_neg ej] at hj
        cases hsi : s.objs i with
        | none => rw [hsi] at hi; cases hi
        | some o1 =>
          cases hsj : s.objs j with
          | none => rw [hsj] at hj; cases hj
          | some o2 => exact h.dis i j o1 o2 b hsi hsj bi bj
end

theorem CallM {P : Program} {f : Nat} {b : Bool} {cs al al' : List AV} {shs : List Shp} {k k' : Int} {s : St} {nid : Nat} {d : Option Nat} {K : St → Prop} (hmc : MC P f b al shs k al' k') (pl : List (Nat × List Shp)) (hp : PromAll s pl) (h1 : b = false → cs.length = 1)
    (hal : cs.map (absA (promS s pl)) = al) (hfit : (fitL (promS s pl) shs cs && (!dupL (ownsOf cs) && matchC cs al' shs)) = true)
    (h : St.putN (updM (promS s pl) cs al' shs) d (.int .i64 k') K) : CallA P f [argA b cs, .int .i64 k] s nid d K := by
  unfold CallA
  simp only [Bool.and_eq_true, Bool.not_eq_true'] at hfit
  obtain ⟨hfit, hdup, hma⟩ := hfit
  refine .inl fun F w0 gv a w hdr hs0 vals hargs => ?_
  obtain ⟨hs, hup⟩ := hs0.prom hp
  obtain ⟨k1, k2⟩ := putK_elim (putN_elim h)
  obtain ⟨v, hvals, hv⟩ : ∃ v, vals = [v, .int .i64 k] ∧ VR (s.ctx F w hdr) (argA b cs) v := by
    match vals, hargs with
    | [v, u], hargs =>
      unfold VL at hargs
      have h2 := hargs.2
      unfold VL at h2
      have h3 := h2.1
      unfold VR at h3
      exact ⟨v, by rw [h3], hargs.1⟩
    | [], h => unfold VL at h; exact h.elim
    | [_], h => unfold VL at h; have := h.2; unfold VL at this; exact this.elim
    | _ :: _ :: _ :: _, h => unfold VL at h; have := h.2; unfold VL at this; have := this.2; unfold VL at this; exact this.elim
  subst hvals
  have hv' := hup _ _ hv
  obtain ⟨vs, e1, e2⟩ : ∃ vs, v = argV b vs ∧ VL ((promS s pl).ctx F w hdr) cs vs := by
    cases b with
    | true =>
      simp only [argA] at hv'
      unfold VR at hv'
      obtain ⟨vs, rfl, h2⟩ := hv'
      exact ⟨vs.toList, by simp [argV], h2⟩
    | false =>
      match cs, h1 rfl, hv' with
      | [c], _, hv' => exact ⟨[v], rfl, VL.cons hv' VL.nil⟩
  obtain ⟨S, t1, t2, t3⟩ := fitL_ok hs hfit e2 hdup
  rw [hal] at t1
  subst e1
  refine (show Ans P f #[argV b vs, .int .i64 k] w _ from ?_)
  have hTab : Tab w (fun x => x ∈ S ∨ w.heap.size ≤ x) := hs.tab fun x hx => by
    rcases hx with hx | hx
    · obtain ⟨j, oj, _, y2, y3⟩ := t3 x hx
      exact (hs.ge y2 y3).1
    · exact w0.up x (Nat.le_trans hs.below.size hx)
  have hrun := hmc.run w vs S hTab t1 t2
  have mono : ∀ {R R' : Value → World → Prop}, (∀ v w, R v w → R' v w) → Ans P f #[argV b vs, .int .i64 k] w R → Ans P f #[argV b vs, .int .i64 k] w R' := by
    intro R R' hR h
    unfold Ans at h ⊢
    split at h
    · exact hR _ _ h
    · exact h.mono fun e w' ⟨v, q1, q2⟩ => ⟨v, q1, hR _ _ q2⟩
    · exact h.elim
  refine mono (fun r w' ⟨q1, q2⟩ => ?_) hrun
  obtain ⟨hdr', hsim⟩ := hs.marked hfit hdup e2 t3 q2 hma
  subst q1
  exact ⟨_, k2, hdr', hsim.put k1 (by unfold VR; rfl)⟩

end Go.Ab
namespace Go.Ab
open Go.RowKit
set_option linter.unusedVariables false

theorem look_in : ∀ {cs al : List AV} {shs : List Shp} {j : Nat} {o : AObj}, lookC cs al shs j = some o → inL j (ownsOf cs) = true
  | [], _, _, _, _, h => by simp [lookC] at h
  | _ :: _, [], _, _, _, h => by simp [lookC] at h
  | _ :: _, _ :: _, [], _, _, h => by simp [lookC] at h
  | c :: cs, a :: al, sh :: shs, j, o, h => by
    by_cases hc : c = .own j
    · rw [inL_mem, ownsOf_cons, hc]; simp
    · have h2 : lookC cs al shs j = some o := by
        cases c <;> simp only [lookC] at h <;> try exact h
        rename_i i
        cases hb : Nat.beq j i with
        | true => exact absurd (by rw [Nat.eq_of_beq_eq_true hb]) hc
        | false => simpa [hb] using h
      rw [inL_mem, ownsOf_cons]
      exact List.mem_append_right _ (inL_mem.1 (look_in h2))

theorem start_vals {c : Ctx} {w : World} {hdr : Nat → Hdr} (hh : ∀ i, c.hdr i = hdr i) : ∀ {n : Nat} {al : List AV} {shs : List Shp} {vs : List Value} {S : List Nat}, TL w al shs vs S → matchC (numC n al shs) al shs = true → OwnV hdr (numC n al shs) vs →
    (∀ j, inL j (ownsOf (numC n al shs)) = true → (c.objs j).isSome = true) → VL c (numC n al shs) vs
  | n, [], shs, vs, S, ht, _, _, _ => by unfold TL at ht; rw [ht.2.1]; unfold numC; exact VL.nil
  | n, a :: al, [], vs, S, ht, _, _, _ => by unfold TL at ht; obtain ⟨_, _, _, _, _, _, h, _⟩ := ht; cases h
  | n, a :: al, sh :: shs, vs, S, ht, hm, ho, hs => by
    unfold TL at ht
    obtain ⟨sh', shs', v, vs', S1, S2, h1, h2, h3, h4, h5⟩ := ht
    cases h1
    subst h2
    have tail : ∀ {m : Nat}, (∀ j, inL j (ownsOf (numC m al shs)) = true → (c.objs j).isSome = true) → matchC (numC m al shs) al shs = true → OwnV hdr (numC m al shs) vs' → VL c (numC m al shs) vs' :=
      fun h6 h7 h8 => start_vals hh h5 h7 h8 h6
    by_cases ha : ∃ es, a = .sl es
    · obtain ⟨es, rfl⟩ := ha
      simp only [numC] at hm ho hs ⊢
      simp only [matchC, Bool.and_eq_true] at hm
      unfold OwnV at ho
      refine VL.cons ?_ (tail (fun j hj => hs j ?_) hm.2 ho.2)
      · unfold VR
        exact ⟨hs n (by simp [ownsOf, inL, Nat.beq_refl]), by rw [hh, ho.1 n rfl]⟩
      · rw [inL_mem, ownsOf_cons]
        exact List.mem_append_right _ (inL_mem.1 hj)
    · have e : numC n (a :: al) (sh :: shs) = a :: numC n al shs := by
        cases a <;> first | rfl | exact absurd ⟨_, rfl⟩ ha
      rw [e] at hm ho hs ⊢
      have hno : ∀ i, a ≠ .own i := by
        rintro i rfl
        unfold TR at h4
        exact h4
      simp only [matchC, Bool.and_eq_true] at hm
      unfold OwnV at ho
      refine VL.cons ?_ (tail (fun j hj => hs j ?_) hm.2 ho.2)
      · have := h4.val (c := c)
        have ea : hideA a = a := by cases a <;> first | rfl | exact absurd ⟨_, rfl⟩ ha
        rwa [ea] at this
      · rw [inL_mem, ownsOf_cons]
        exact List.mem_append_right _ (inL_mem.1 hj)

@[irreducible] def OutM (P : Program) (rs : List ResultVar) (cs al' : List AV) (shs : List Shp) (k' : Int) (s : St) : Prop :=
  ∃ s', s.le s' ∧ resA P s' rs = some (.int .i64 k') ∧ s'.gh = cs ∧ fitL s' shs cs = true ∧ cs.map (absA s') = al'
theorem OutM_of {P : Program} {rs : List ResultVar} {cs al' : List AV} {shs : List Shp} {k' : Int} {s : St} {v : AV} (h1 : resA P s rs = some v) (h2 : s.gh = cs) (h3 : fitL s shs cs = true) (hv : v = .int .i64 k') (h4 : cs.map (absA s) = al') : OutM P rs cs al' shs k' s := by
  unfold OutM
  exact ⟨s, St.le_refl s, by rw [h1, hv], h2, h3, h4⟩
theorem mc_of {P : Program} {f : Nat} {fn : Func} {c : Code} (hf : P.funcs[f]? = some fn) (hb : fn.body = some c) (hname : (fn.name == "runtime.NumGoroutine") = false) {b : Bool} {al al' : List AV} {shs : List Shp} {k k' : Int} (z : Nat) (rs : List ResultVar) (cs : List AV)
    (hz : 2 + (fn.ntmps - 2) = z) (hr : fn.results.toList = rs) (h1 : b = false → al.length = 1) (hcs : numC 0 al shs = cs) (hm : (matchC cs al shs && !dupL (ownsOf cs)) = true)
    (h : codeA P c (fun e s => match e with
      | .normal => OutM P rs cs al' shs k' s
      | .ret => OutM P rs cs al' shs k' s
      | _ => False) ⟨fun t => [argA b cs, .int .i64 k].getD t .any, z, fun i => lookC cs al shs i, 16, cs⟩) : MC P f b al shs k al' k' := by
  subst hr hz
  simp only [Bool.and_eq_true, Bool.not_eq_true'] at hm
  obtain ⟨hma, hdup⟩ := hm
  refine ⟨h1, fun w vs S hT ht hn => (Ans_body hf hname hb).2 ?_⟩
  obtain ⟨hdr, k1, k2, k3⟩ := objs_of (N := fun x => x ∈ S ∨ w.heap.size ≤ x) cs al shs vs S hma hdup ht hn (fun x hx => .inl hx)
  have hlen1 : b = false → vs.length = 1 := fun e => by rw [← ht.length.1, h1 e]
  generalize hs0 : (⟨fun t => [argA b cs, .int .i64 k].getD t .any, 2 + (fn.ntmps - 2), fun i => lookC cs al shs i, 16, cs⟩ : St) = s0 at h
  have hobj : ∀ i, s0.objs i = lookC cs al shs i := fun i => by rw [← hs0]
  have hVL : VL (s0.ctx (fun x => x ∈ S ∨ w.heap.size ≤ x) w hdr) cs vs := by
    have := start_vals (c := s0.ctx (fun x => x ∈ S ∨ w.heap.size ≤ x) w hdr) (hdr := hdr) (fun _ => rfl) (n := 0) ht (by rw [hcs]; exact hma) (by rw [hcs]; exact k3) (fun j hj => by
      rw [hcs] at hj
      obtain ⟨o, q1, _⟩ := k1 j hj
      show (s0.objs j).isSome = true
      rw [hobj, q1]; rfl)
    rwa [hcs] at this
  have harg : VR (s0.ctx (fun x => x ∈ S ∨ w.heap.size ≤ x) w hdr) (argA b cs) (argV b vs) := by
    cases b with
    | true => unfold argA argV; unfold VR; exact ⟨_, rfl, hVL⟩
    | false =>
      have hl := hlen1 rfl
      match vs, hl, cs, hVL with
      | [v], _, [x], hVL => unfold VL at hVL; exact hVL.1
      | [v], _, [], hVL => unfold VL at hVL; exact hVL.elim
      | [v], _, _ :: _ :: _, hVL => unfold VL at hVL; have := hVL.2; unfold VL at this; exact this.elim
  let B0 : Base := ⟨w, fun x => x ∈ S ∨ w.heap.size ≤ x, fun _ h => .inr h, hT⟩
  have hs : SimE (fun x => x ∈ S ∨ w.heap.size ≤ x) B0 vs s0 { tmps := #[argV b vs, .int .i64 k] ++ Array.replicate (fn.ntmps - 2) undef, defers := [] } w := by
    refine ⟨hdr, fun t => ?_, ?_, rfl, ?_, ?_, ?_, Frame.refl _, fun x hx => hx⟩
    · have he : s0.env t = [argA b cs, .int .i64 k].getD t .any := by rw [← hs0]
      rw [he]
      match t with
      | 0 =>
        have hev : Act.eval { tmps := #[argV b vs, .int .i64 k] ++ Array.replicate (fn.ntmps - 2) undef, defers := [] } (.tmp 0) = argV b vs := by
          simp only [Act.eval, Array.getD_eq_getD_getElem?]
          rw [Array.getElem?_append_left (by simp)]
          simp
        rw [hev]
        exact harg
      | 1 =>
        have hev : Act.eval { tmps := #[argV b vs, .int .i64 k] ++ Array.replicate (fn.ntmps - 2) undef, defers := [] } (.tmp 1) = .int .i64 k := by
          simp only [Act.eval, Array.getD_eq_getD_getElem?]
          rw [Array.getElem?_append_left (by simp)]
          simp
        rw [hev]
        show VR _ (AV.int .i64 k) _
        unfold VR; rfl
      | t + 2 => exact any_ok
    · have he : s0.sz = 2 + (fn.ntmps - 2) := by rw [← hs0]
      rw [he]
      simp
    · have he : s0.gh = cs := by rw [← hs0]
      rw [he]
      exact hVL
    · intro i o hi
      rw [hobj] at hi
      obtain ⟨o', q1, _, q2, _⟩ := k1 i (look_in hi)
      rw [hi] at q1
      cases q1
      exact q2 _ rfl
    · intro i j o o' x hi hj bi bj
      rw [hobj] at hi hj
      exact k2 i j x (look_in hi) (look_in hj) bi bj
  have hcall := calls_of_wp (P := P) (f := f) (args := #[argV b vs, .int .i64 k]) (w := w) hf hb (R := fun e w' => ∃ v, e = .returned v ∧ v = .int .i64 k' ∧ MOut w w' shs al' vs S) (codeA_ok c _ _ h _ B0 vs { tmps := #[argV b vs, .int .i64 k] ++ Array.replicate (fn.ntmps - 2) undef, defers := [] } w hs _ ?_)
  · exact hcall
  intro e s' a' w' hk hsim0
  have main : OutM P fn.results.toList cs al' shs k' s' → a'.defers = [] ∧ ∃ v, (results fn a'.tmps).run P w' = .ok v w' ∧ ∃ v', Ending.returned v = .returned v' ∧ v' = .int .i64 k' ∧ MOut w w' shs al' vs S := by
    intro hout
    unfold OutM at hout
    obtain ⟨s'', hle, hres, hgh, hfit, hal⟩ := hout
    obtain ⟨hdr', hsim⟩ := hle _ _ _ _ _ hsim0
    obtain ⟨v, q1, q2⟩ := resA_ok hsim hres
    unfold VR at q2
    have hgv := hsim.gh
    rw [hgh] at hgv
    obtain ⟨S', t1, t2, t3⟩ := fitL_ok hsim hfit hgv hdup
    rw [hal] at t1
    refine ⟨hsim.defers, v, q1, v, rfl, q2, ⟨S', t1, t2, fun x hx => ?_⟩, hsim.below.os, hsim.below.tape, hsim.below.output, hsim.below.size, fun x hx hn' => hsim.below.block x hx ?_⟩
    · obtain ⟨j, oj, _, r1, r2⟩ := t3 x hx
      exact (hsim.ge r1 r2).1
    · rintro (hx' | hx')
      · exact hn' hx'
      · have : w.heap.size ≤ x := hx'
        have : x < w.heap.size := hx
        omega
  cases e <;> simp only at hk
  case normal => exact main hk
  case ret => exact main hk

theorem TL_one {w : World} {a : AV} {sh : Shp} {v : Value} {S : List Nat} : TL w [a] [sh] [v] S ↔ TR w a sh v S := by
  constructor
  · intro h
    unfold TL at h
    obtain ⟨_, _, _, _, S1, S2, h1, h2, h3, h4, h5⟩ := h
    unfold TL at h5
    cases h1
    cases h2
    rw [h3, h5.2.2, List.append_nil]
    exact h4
  · intro h
    unfold TL
    exact ⟨sh, [], v, [], S, [], rfl, rfl, (List.append_nil _).symm, h, by unfold TL; exact ⟨rfl, rfl, rfl⟩⟩

theorem CallMcL {P : Program} {f : Nat} {xs : List (List AV)} {a' : AV} {shc : Shp} {k k' : Int} {s : St} {id idx off : Nat} {sh : List Shp} {ty esz : Nat} {es : List (List AV)} {e : List AV} {nid : Nat} {d : Option Nat} {K : St → Prop} (hmc : MC P f false [.sl xs] [shc] k [a'] k')
    (ho : s.objs id = some ⟨.deep sh, ty, esz, es⟩) (he : es[idx]? = some e) (hsh : sh[off]? = some shc)
    {s2 : St} (hle : (takeIn s [] id ⟨.deep sh, ty, esz, es.set idx (e.set off a')⟩).le s2) (h : St.putN s2 d (.int .i64 k') K) : CallA P f [.cel id idx off xs, .int .i64 k] s nid d K := by
  unfold CallA
  refine .inl fun F w0 gv a w hdr hs vals hargs => ?_
  obtain ⟨k1, k2⟩ := putK_elim (putN_elim h)
  obtain ⟨v, hvals, hv⟩ : ∃ v, vals = [v, .int .i64 k] ∧ VR (s.ctx F w hdr) (.cel id idx off xs) v := by
    match vals, hargs with
    | [v, u], hargs =>
      unfold VL at hargs
      have h2 := hargs.2
      unfold VL at h2
      have h3 := h2.1
      unfold VR at h3
      exact ⟨v, by rw [h3], hargs.1⟩
    | [], h => unfold VL at h; exact h.elim
    | [_], h => unfold VL at h; have := h.2; unfold VL at this; exact this.elim
    | _ :: _ :: _ :: _, h => unfold VL at h; have := h.2; unfold VL at this; have := this.2; unfold VL at this; exact this.elim
  subst hvals
  unfold VR at hv
  obtain ⟨o1, blk, sh1, e1, r1, r2, r3, r4, r5, r6⟩ := hv
  replace r1 : s.objs id = some o1 := r1
  rw [ho] at r1
  cases r1
  cases r2
  replace r3 : es[idx]? = some e1 := r3
  rw [he] at r3
  cases r3
  obtain ⟨hpos, hlens, ⟨n1, n2, n3⟩, cs, hrow, hone, hcl⟩ := hs.objs id _ ho
  have htree := hcl.deep rfl
  obtain ⟨S1, Se, S2, q1, q2, q3, q4⟩ := htree.at he
  obtain ⟨T1, Ta, T2, shc', v', f1, f2, f3, f4, f5, f6⟩ := q2.at r4
  rw [hsh] at f2
  cases f2
  have hlt : off < esz := by
    have h1 : e.length = esz := hlens e (List.mem_of_getElem? he)
    have h2 := (List.getElem?_eq_some_iff.1 r4).1
    omega
  have f7 : cs[idx * esz + off]? = some v' := by
    rw [List.getElem?_take, if_pos hlt, List.getElem?_drop] at f3
    exact f3
  have hc := hrow.cells r5 _ _ f7
  rw [Addr.add_lit, Nat.zero_add] at hc
  have hvv : v' = v := Option.some.inj (hc.symm.trans r6)
  subst hvv
  have hfp : (hdr id).fp = (S1 ++ T1) ++ Ta ++ (T2 ++ S2) := by rw [q1, f1]; simp [List.append_assoc]
  have hTaN : Ta.Nodup := by
    have := n1
    rw [hfp, List.nodup_append] at this
    have := this.1
    rw [List.nodup_append] at this
    exact this.2.1
  have hTab : Tab w (fun x => x ∈ Ta ∨ w.heap.size ≤ x) := hs.tab fun x hx => by
    rcases hx with hx | hx
    · exact (hs.ge ho (.inr (by rw [hfp]; exact List.mem_append_left _ (List.mem_append_right _ hx)))).1
    · exact w0.up x (Nat.le_trans hs.below.size hx)
  have hrun := hmc.run w [v'] Ta hTab (TL_one.2 f4) hTaN
  have mono : ∀ {R R' : Value → World → Prop}, (∀ v w, R v w → R' v w) → Ans P f #[argV false [v'], .int .i64 k] w R → Ans P f #[argV false [v'], .int .i64 k] w R' := by
    intro R R' hR h
    unfold Ans at h ⊢
    split at h
    · exact hR _ _ h
    · exact h.mono fun e w' ⟨v, q1, q2⟩ => ⟨v, q1, hR _ _ q2⟩
    · exact h.elim
  refine (show Ans P f #[argV false [v'], .int .i64 k] w _ from mono (fun r w' ⟨u1, u2⟩ => ?_) hrun)
  subst u1
  obtain ⟨S', t1, t2, t3⟩ := u2.tl
  rw [TL_one] at t1
  have hin : ∀ b ∈ Ta, b ∈ (hdr id).fp := fun b hb => by rw [hfp]; exact List.mem_append_left _ (List.mem_append_right _ hb)
  have hnd0 := n1
  rw [hfp] at hnd0
  have hsep : ∀ b ∈ Ta, b ∉ S1 ++ T1 ∧ b ∉ T2 ++ S2 := by
    intro b hb
    have h0 := hnd0
    rw [List.nodup_append] at h0
    have h1 := h0.1
    rw [List.nodup_append] at h1
    exact ⟨fun h => h1.2.2 b h b hb rfl, fun h => h0.2.2 b (List.mem_append_right _ hb) b h rfl⟩
  have hold : ∀ b, b ∈ S1 ++ T1 ∨ b ∈ T2 ++ S2 → b ∈ (hdr id).fp := fun b hb => by
    rw [hfp]
    rcases hb with hb | hb
    · exact List.mem_append_left _ (List.mem_append_left _ hb)
    · exact List.mem_append_right _ hb
  have hsame : ∀ b, b ∈ S1 ++ T1 ∨ b ∈ T2 ++ S2 → w'.heap[b]? = w.heap[b]? := fun b hb => u2.block b (n3 b (hold b hb)).2 fun hb' => by
    rcases hb with hb | hb
    · exact (hsep b hb').1 hb
    · exact (hsep b hb').2 hb
  have hS'lt : ∀ b ∈ S', w0.N b ∧ b < w'.heap.size := fun b hb => by
    refine ⟨?_, TR.lt _ _ _ _ t1 b hb⟩
    rcases t3 b hb with hb' | hb'
    · exact (n3 b (hin b hb')).1
    · exact w0.up b (Nat.le_trans hs.below.size hb')
  have hS'fresh : ∀ b ∈ S', ∀ x, x ∈ (hdr id).fp → b = x → x ∈ Ta := fun b hb x hx e => by
    rcases t3 b hb with hb' | hb'
    · rw [← e]; exact hb'
    · have : x < w.heap.size := (n3 x hx).2
      omega
  have hblkid : ∀ b, (hdr id).blk = some b → b ∉ Ta := fun b hb hb' => n2 b hb (hin b hb')
  have hO : ∀ i oi, s.objs i = some oi → ∃ o', (takeIn s [] id ⟨.deep sh, ty, esz, es.set idx (e.set off a')⟩).objs i = some o' ∧ o'.esz = oi.esz ∧ (if i = id then (⟨(hdr id).v, (S1 ++ T1) ++ S' ++ (T2 ++ S2)⟩ : Hdr) else hdr i).v = (hdr i).v := by
    intro i oi hi
    by_cases hx : i = id
    · subst hx
      rw [ho] at hi
      cases hi
      exact ⟨⟨.deep sh, ty, esz, es.set idx (e.set off a')⟩, by simp [takeIn], rfl, by simp⟩
    · exact ⟨_, by simp [takeIn, hx, inL, hi]; rfl, (subO_esz _ _ _ oi).1, by simp [hx]⟩
  have hsim : Sim F w0 gv (takeIn s [] id ⟨.deep sh, ty, esz, es.set idx (e.set off a')⟩) a w' (fun i => if i = id then ⟨(hdr id).v, (S1 ++ T1) ++ S' ++ (T2 ++ S2)⟩ else hdr i) := by
    refine hs.recast (s' := takeIn s [] id ⟨.deep sh, ty, esz, es.set idx (e.set off a')⟩) (so := killsO []) (sp := killsP []) (sc := killsC [id]) (fun b => b ∈ Ta) (fun i => i = id) u2.os u2.tape u2.output u2.size u2.block
      (fun b hb => ⟨id, _, ho, .inr (hin b hb)⟩) (fun t => rfl) rfl rfl ?_
      (own_keep (c := s.ctx F w hdr) (c' := (takeIn s [] id ⟨.deep sh, ty, esz, es.set idx (e.set off a')⟩).ctx F w' (fun i => if i = id then ⟨(hdr id).v, (S1 ++ T1) ++ S' ++ (T2 ++ S2)⟩ else hdr i)) hO)
      (ptr_keep (c := s.ctx F w hdr) (c' := (takeIn s [] id ⟨.deep sh, ty, esz, es.set idx (e.set off a')⟩).ctx F w' (fun i => if i = id then ⟨(hdr id).v, (S1 ++ T1) ++ S' ++ (T2 ++ S2)⟩ else hdr i)) hO) ?_ (fun i j x y z lo n cp v e hv => by
        simp only [killsC, inL] at e
        by_cases hx : i = id
        · subst hx; simp at e
        · have hb : Nat.beq i id = false := by
            cases hq : Nat.beq i id with
            | true => exact absurd (Nat.eq_of_beq_eq_true hq) hx
            | false => rfl
          rw [hb] at e
          cases e
          obtain ⟨o1, q1, q2, q3, q4⟩ := hv
          replace q1 : s.objs i = some o1 := q1
          obtain ⟨s1, s2, s3, s4⟩ := subO_esz (killsO []) (killsP []) (killsC [id]) o1
          refine ⟨subO (killsO []) (killsP []) (killsC [id]) o1, by simp [St.ctx, takeIn, hx, inL, q1], by rw [subO_box]; exact q2, q3, ?_⟩
          rw [s1]
          show _ ∨ (_ ∧ ∃ b m, (ite (i = id) (⟨(hdr id).v, (S1 ++ T1) ++ S' ++ (T2 ++ S2)⟩ : Hdr) (hdr i)).v = _ ∧ _)
          rw [if_neg hx]
          exact q4) ?_ ?_ ?_
    · intro i o b hi hb
      by_cases hx : i = id
      · subst hx
        simp only [if_true] at hb
        rcases hb with hb | hb
        · exact .inl ⟨i, _, ho, .inl hb⟩
        · rcases List.mem_append.1 hb with hb | hb
          · rcases List.mem_append.1 hb with hb | hb
            · exact .inl ⟨i, _, ho, .inr (hold b (.inl hb))⟩
            · rcases t3 b hb with hb' | hb'
              · exact .inl ⟨i, _, ho, .inr (hin b hb')⟩
              · exact .inr hb'
          · exact .inl ⟨i, _, ho, .inr (hold b (.inr hb))⟩
      · simp only [hx, if_false] at hb
        simp only [takeIn, hx, if_false, inL] at hi
        cases hs1 : s.objs i with
        | none => rw [hs1] at hi; cases hi
        | some o1 => exact .inl ⟨i, o1, hs1, hb⟩
    · intro i x y z v hv'
      simp only [killsC]
      cases hx : inL i [id] with
      | true => exact any_ok
      | false =>
        simp only
        have hne : i ≠ id := by
          have := inL_no.1 hx
          simpa using this
        unfold VR at hv' ⊢
        obtain ⟨o, b, sh2, e2, w1, w2, w3, w4, w5, w6⟩ := hv'
        replace w1 : s.objs i = some o := w1
        refine ⟨o, b, sh2, e2, ?_, w2, w3, w4, ?_, ?_⟩
        · show (takeIn s [] id _).objs i = some o
          simp [takeIn, hne, inL, w1, subO, w2]
        · show (if i = id then (⟨(hdr id).v, (S1 ++ T1) ++ S' ++ (T2 ++ S2)⟩ : Hdr) else hdr i).blk = some b
          rw [if_neg hne]; exact w5
        · refine (World.cell?_of_block (w := w) (w' := w') (a := ⟨b, _, none⟩) (u2.block b (hs.ge w1 (.inl w5)).2 fun hb' => hne ?_)).trans w6
          exact hs.dis i id o _ b w1 ho (.inl w5) (.inr (hin b hb'))
    · intro i o hi hx
      simp only [takeIn, hx, if_false, inL] at hi
      cases hs1 : s.objs i with
      | none => rw [hs1] at hi; cases hi
      | some o1 =>
        rw [hs1] at hi
        exact ⟨o1, rfl, by simpa using hi.symm, if_neg hx, fun b hb hb' => hx (hs.dis i id o1 _ b hs1 ho hb (.inr (hin b hb')))⟩
    · intro _ i o hi hx
      subst hx
      have hoo : (⟨.deep sh, ty, esz, es.set idx (e.set off a')⟩ : AObj) = o := by simpa [takeIn] using hi
      subst hoo
      simp only [if_true]
      have hel : e.length = esz := hlens e (List.mem_of_getElem? he)
      refine ⟨hpos, ?_, ⟨?_, ?_, ?_⟩, cs, ?_, hone, CellsR_deep (sh := sh) rfl ?_⟩
      · intro x hx'
        rcases List.mem_or_eq_of_mem_set hx' with hx' | hx'
        · exact hlens x hx'
        · rw [hx', List.length_set]; exact hel
      · exact nodup_mid hnd0 t2 fun b hb => by
          constructor
          · intro hb'
            exact (hsep b (hS'fresh b hb b (hold b (.inl hb')) rfl)).1 hb'
          · intro hb'
            exact (hsep b (hS'fresh b hb b (hold b (.inr hb')) rfl)).2 hb'
      · intro b hb hb'
        rcases List.mem_append.1 hb' with hb' | hb'
        · rcases List.mem_append.1 hb' with hb' | hb'
          · exact n2 b hb (hold b (.inl hb'))
          · rcases t3 b hb' with h3 | h3
            · exact n2 b hb (hin b h3)
            · have : b < w.heap.size := (hs.ge ho (.inl hb)).2
              omega
        · exact n2 b hb (hold b (.inr hb'))
      · intro b hb
        rcases List.mem_append.1 hb with hb | hb
        · rcases List.mem_append.1 hb with hb | hb
          · exact ⟨(n3 b (hold b (.inl hb))).1, Nat.lt_of_lt_of_le (n3 b (hold b (.inl hb))).2 u2.size⟩
          · exact hS'lt b hb
        · exact ⟨(n3 b (hold b (.inr hb))).1, Nat.lt_of_lt_of_le (n3 b (hold b (.inr hb))).2 u2.size⟩
      · show OwnR w' w0.N ty esz (hdr i).v (es.set idx (e.set off a')).length cs
        rw [List.length_set]
        exact hrow.mono (fun b hb => u2.block b (hs.ge ho (.inl hb)).2 (hblkid b hb)) (fun _ _ h => h)
      · have hidx : idx < es.length := (List.getElem?_eq_some_iff.1 he).1
        have hofflt : off < e.length := (List.getElem?_eq_some_iff.1 r4).1
        have hcsl : cs.length = es.length * esz := hrow.1
        have hidx2 : idx * esz + esz ≤ es.length * esz := by
          have := Nat.mul_le_mul_right esz (show idx + 1 ≤ es.length by omega)
          simpa [Nat.add_mul] using this
        have hve : ((cs.drop (idx * esz)).take esz).length = esz := by rw [List.length_take, List.length_drop]; omega
        have hTL : TL w' (e.set off a') sh ((cs.drop (idx * esz)).take esz) (T1 ++ S' ++ T2) := by
          have e2 : e.set off a' = e.take off ++ [a'] ++ e.drop (off + 1) := by rw [List.set_eq_take_append_cons_drop, if_pos hofflt]; simp
          have e3 : sh = sh.take off ++ [shc] ++ sh.drop (off + 1) := by
            obtain ⟨hl, hg⟩ := List.getElem?_eq_some_iff.1 hsh
            have := List.take_append_drop off sh
            rw [List.drop_eq_getElem_cons hl, hg] at this
            simpa using this.symm
          have e4 : (cs.drop (idx * esz)).take esz = ((cs.drop (idx * esz)).take esz).take off ++ [v'] ++ ((cs.drop (idx * esz)).take esz).drop (off + 1) := by
            obtain ⟨hl, hg⟩ := List.getElem?_eq_some_iff.1 f3
            have := List.take_append_drop off ((cs.drop (idx * esz)).take esz)
            rw [List.drop_eq_getElem_cons hl, hg] at this
            simpa using this.symm
          rw [e2, e3, e4]
          have e5 : (sh.take off ++ [shc] ++ sh.drop (off + 1)).take off = sh.take off := by rw [← e3]
          refine ((TL.mono _ _ _ _ (fun b hb => hsame b (.inl (List.mem_append_right _ hb))) f5).append (TL_one.2 t1)).append ?_
          exact TL.mono _ _ _ _ (fun b hb => hsame b (.inr (List.mem_append_left _ hb))) f6
        have := TEs.set (w' := w') (esz := esz) (cells := sh) (vs := cs) hidx hve (TEs.mono _ _ _ _ _ (fun b hb => hsame b (.inl (List.mem_append_left _ hb))) q3) hTL (TEs.mono _ _ _ _ _ (fun b hb => hsame b (.inr (List.mem_append_right _ hb))) q4)
        have e6 : cs.take (idx * esz) ++ (cs.drop (idx * esz)).take esz ++ cs.drop (idx * esz + esz) = cs := by
          rw [List.append_assoc, ← List.drop_drop, List.take_append_drop, List.take_append_drop]
        rw [e6] at this
        show TEs w' esz sh (es.set idx (e.set off a')) cs ((S1 ++ T1) ++ S' ++ (T2 ++ S2))
        simpa [List.append_assoc] using this
    · have key : ∀ j oo b, (takeIn s [] id ⟨.deep sh, ty, esz, es.set idx (e.set off a')⟩).objs j = some oo → j ≠ id → Hdr.has ⟨(hdr id).v, (S1 ++ T1) ++ S' ++ (T2 ++ S2)⟩ b → (hdr j).has b → False := by
        intro j oo b hj ej bi bj
        simp only [takeIn, ej, if_false, inL] at hj
        cases hs1 : s.objs j with
        | none => rw [hs1] at hj; cases hj
        | some o1 =>
          have fin : (hdr id).has b → False := fun hb => ej (hs.dis j id o1 _ b hs1 ho bj hb)
          rcases bi with hb | hb
          · exact fin (.inl hb)
          · rcases List.mem_append.1 hb with hb | hb
            · rcases List.mem_append.1 hb with hb | hb
              · exact fin (.inr (hold b (.inl hb)))
              · rcases t3 b hb with hb' | hb'
                · exact fin (.inr (hin b hb'))
                · have := (hs.ge hs1 bj).2
                  omega
            · exact fin (.inr (hold b (.inr hb)))
      intro i j o oo b hi hj bi bj
      by_cases ei : i = id
      · by_cases ej : j = id
        · rw [ei, ej]
        · simp only [ei, if_true] at bi
          simp only [ej, if_false] at bj
          exact (key j oo b hj ej bi bj).elim
      · by_cases ej : j = id
        · simp only [ej, if_true] at bj
          simp only [ei, if_false] at bi
          exact (key i o b hi ei bj bi).elim
        · simp only [ei, if_false] at bi
          simp only [ej, if_false] at bj
          simp only [takeIn, ei, if_false, inL] at hi
          simp only [takeIn, ej, if_false, inL] at hj
          cases hsi : s.objs i with
          | none => rw [hsi] at hi; cases hi
          | some o1 =>
            cases hsj : s.objs j with
            | none => rw [hsj] at hj; cases hj
            | some o2 => exact hs.dis i j o1 o2 b hsi hsj bi bj
  obtain ⟨hdr2, hsim2⟩ := hle _ _ _ _ _ ⟨_, hsim⟩
  exact ⟨_, k2, _, hsim2.put k1 (by unfold VR; rfl)⟩
theorem CallMc {P : Program} {f : Nat} {xs : List (List AV)} {a' : AV} {shc : Shp} {k k' : Int} {s : St} {id idx off : Nat} {sh : List Shp} {ty esz : Nat} {es : List (List AV)} {e : List AV} {nid : Nat} {d : Option Nat} {K : St → Prop} (hmc : MC P f false [.sl xs] [shc] k [a'] k')
    (ho : s.objs id = some ⟨.deep sh, ty, esz, es⟩) (he : es[idx]? = some e) (hsh : sh[off]? = some shc)
    (h : St.putN (takeIn s [] id ⟨.deep sh, ty, esz, es.set idx (e.set off a')⟩) d (.int .i64 k') K) : CallA P f [.cel id idx off xs, .int .i64 k] s nid d K :=
  CallMcL hmc ho he hsh (St.le_refl _) h

end Go.Ab
namespace Go.Ab
set_option linter.unusedVariables false

theorem StoreD_of {s : St} {id idx off : Nat} {ob : AObj} {sh : List Shp} {cs e : List AV} {K : St → Prop} (h1 : fitL s ((sh.drop off).take cs.length) cs = true) (h2 : inL id (ownsOf cs) = false) (h3 : dupL (ownsOf cs) = false)
    (h : forceS (takeIn s (ownsOf cs) id { ob with elems := ob.elems.set idx (splice e off (cs.map (absA s))) }) K) : StoreD s id idx off ob sh cs e K := by
  unfold StoreD
  rw [forceS_eq] at h
  exact ⟨h1, ⟨h2, h3⟩, none, _, (fun _ _ e => by cases e), fun _ _ _ _ _ h => h, h⟩
theorem StoreD_cut {id idx off : Nat} {ob : AObj} {sh : List Shp} {cs e : List AV} {K : St → Prop} {ev : Nat → AV} {z : Nat} {o : Nat → Option AObj} {n : Nat} {g : List AV} (el : List (Nat × AV)) (ol : List (Nat × AObj)) (hown : ownsOf cs = [])
    (h1 : fitL ⟨ev, z, o, n, g⟩ ((sh.drop off).take cs.length) cs = true) (he : EnvAll ⟨ev, z, o, n, g⟩ el) (hel : el.all (fun p => match p.2 with | .cel _ _ _ _ => false | .prt _ _ _ _ => false | .agg _ => false | .tup _ => false | .fn _ _ => false | _ => true) = true)
    (ho : ObjAll (setObj ⟨ev, z, o, n, g⟩ id { ob with elems := ob.elems.set idx (splice e off (cs.map (absA ⟨ev, z, o, n, g⟩))) }) ol) (hc : (closedE ol el && closedO ol ol && closedL ol g) = true) (hg : g.all (fun x => match x with | .cel _ _ _ _ => false | .prt _ _ _ _ => false | .agg _ => false | .tup _ => false | .fn _ _ => false | _ => true) = true)
    (hob : ol.length = 1 ∧ ∀ p ∈ ol, p.1 = id)
    (h : K ⟨envOf el, z, objsOf ol, n, g⟩) : StoreD ⟨ev, z, o, n, g⟩ id idx off ob sh cs e K := by
  unfold StoreD
  rw [hown]
  refine ⟨h1, ⟨rfl, rfl⟩, none, _, (fun _ _ e => by cases e), ?_, h⟩
  have keep : ∀ x : AV, (match x with | .cel _ _ _ _ => false | .prt _ _ _ _ => false | .agg _ => false | .tup _ => false | .fn _ _ => false | _ => true) = true → x.sub (killsO []) (killsP []) (killsC [id]) = x := by
    intro x hx
    cases x <;> simp at hx <;> unfold AV.sub <;> rfl
  have hg' : AV.sub.subL (killsO []) (killsP []) (killsC [id]) g = g := by
    clear hc h h1 he ho
    induction g with
    | nil => unfold AV.sub.subL; rfl
    | cons x g ih =>
      simp only [List.all_cons, Bool.and_eq_true] at hg
      unfold AV.sub.subL
      rw [keep x hg.1, ih hg.2]
  have hE : EnvAll (takeIn ⟨ev, z, o, n, g⟩ [] id { ob with elems := ob.elems.set idx (splice e off (cs.map (absA ⟨ev, z, o, n, g⟩))) }) el := by
    clear hc h
    induction el with
    | nil => trivial
    | cons p el ih =>
      obtain ⟨k, v⟩ := p
      simp only [List.all_cons, Bool.and_eq_true] at hel
      refine ⟨?_, ih he.2 hel.2⟩
      show (ev k).sub _ _ _ = v
      have e1 : ev k = v := he.1
      rw [e1]
      exact keep v hel.1
  have hO : ObjAll (takeIn ⟨ev, z, o, n, g⟩ [] id { ob with elems := ob.elems.set idx (splice e off (cs.map (absA ⟨ev, z, o, n, g⟩))) }) ol := by
    obtain ⟨hl1, hid⟩ := hob
    match ol, hl1, hid, ho with
    | [(k, x)], _, hid, ho =>
      have e1 : k = id := hid (k, x) (by simp)
      subst e1
      refine ⟨?_, trivial⟩
      have h2 := ho.1
      simp only [setObj, if_true] at h2
      simp only [takeIn, if_true]
      exact h2
  have := St.le_list hE hO (by
    have : (takeIn ⟨ev, z, o, n, g⟩ [] id { ob with elems := ob.elems.set idx (splice e off (cs.map (absA ⟨ev, z, o, n, g⟩))) }).gh = g := hg'
    rw [this]; exact hc)
  have e2 : (⟨envOf el, (takeIn ⟨ev, z, o, n, g⟩ [] id { ob with elems := ob.elems.set idx (splice e off (cs.map (absA ⟨ev, z, o, n, g⟩))) }).sz, objsOf ol, (takeIn ⟨ev, z, o, n, g⟩ [] id { ob with elems := ob.elems.set idx (splice e off (cs.map (absA ⟨ev, z, o, n, g⟩))) }).nxt, (takeIn ⟨ev, z, o, n, g⟩ [] id { ob with elems := ob.elems.set idx (splice e off (cs.map (absA ⟨ev, z, o, n, g⟩))) }).gh⟩ : St) = ⟨envOf el, z, objsOf ol, n, g⟩ := by
    show (⟨envOf el, z, objsOf ol, n, AV.sub.subL (killsO []) (killsP []) (killsC [id]) g⟩ : St) = _
    rw [hg']
  rw [e2] at this
  exact this
theorem AppD_of {P : Program} {e : TypeId} {i : TypeInfo} {s : St} {id j : Nat} {o : AObj} {sh : List Shp} {d : Option Nat} {K : St → Prop} {ty esz : Nat} {es : List (List AV)} (hj : s.objs j = some ⟨.deep sh, ty, esz, es⟩)
    (h1 : j ≠ id ∧ esz = i.size ∧ o.ty = e ∧ o.esz = i.size ∧ i.zero.isSome = true ∧ (i.zero.map (·.cells.size)) = some i.size) (h2 : o.elems.length + es.length ≤ 70368744177664 ∧ (o.elems.length + es.length) * i.bytes ≤ 140737488355328)
    (h : forceS (takeIn s [id, j] id { o with elems := o.elems ++ es }) fun s' => s'.putK d (.own id) K) : AppD P e i s id o sh (.own j) d K := by
  unfold AppD
  exact ⟨j, _, rfl, hj, ⟨h1.1, rfl, h1.2.1, h1.2.2.1, h1.2.2.2.1, h1.2.2.2.2.1, h1.2.2.2.2.2⟩, h2, h⟩
theorem AppN_of {P : Program} {e : TypeId} {i : TypeInfo} {s : St} {nid j : Nat} {d : Option Nat} {K : St → Prop} {sh : List Shp} {ty esz : Nat} {es : List (List AV)} (hj : s.objs j = some ⟨.deep sh, ty, esz, es⟩) (hn : s.objs nid = none)
    (h1 : esz = i.size ∧ i.zero.isSome = true ∧ (i.zero.map (·.cells.size)) = some i.size) (h2 : es.length ≤ 70368744177664 ∧ es.length * i.bytes ≤ 140737488355328)
    (h : forceS (takeIn s [j] nid ⟨.deep sh, e, i.size, es⟩) fun s' => s'.putK d (.own nid) K) : AppN P e i s nid j d K := by
  unfold AppN
  exact ⟨_, sh, hj, hn, ⟨rfl, h1.1, h1.2.1, h1.2.2⟩, h2, h⟩

theorem CallM1 {P : Program} {f id : Nat} {al al' : List AV} {shs : List Shp} {k k' : Int} {s : St} {nid : Nat} {d : Option Nat} {K : St → Prop} (hmc : MC P f false al shs k al' k') (pl : List (Nat × List Shp)) (hp : PromAll s pl)
    (hal : [AV.own id].map (absA (promS s pl)) = al) (hfit : (fitL (promS s pl) shs [.own id] && (!dupL (ownsOf [.own id]) && matchC [.own id] al' shs)) = true)
    (h : St.putN (updM (promS s pl) [.own id] al' shs) d (.int .i64 k') K) : CallA P f [.own id, .int .i64 k] s nid d K :=
  CallM (b := false) (cs := [.own id]) hmc pl hp (fun _ => rfl) hal hfit h
theorem prom_map {α : Type} {f : α → List AV} {sh : List Shp} (h : ∀ x, flatFit sh (f x) = true) {xs : List α} : ∀ e ∈ xs.map f, flatFit sh e = true := fun e he => by
  obtain ⟨x, _, rfl⟩ := List.mem_map.1 he
  exact h x
theorem prom_nil {sh : List Shp} : ∀ e ∈ ([] : List (List AV)), flatFit sh e = true := fun e he => by cases he
theorem prom_one {sh : List Shp} {x : List AV} (h : flatFit sh x = true) : ∀ e ∈ [x], flatFit sh e = true := fun e he => by
  simp at he
  rw [he]; exact h
theorem prom_rep {sh : List Shp} {x : List AV} {n : Nat} (h : flatFit sh x = true) : ∀ e ∈ List.replicate n x, flatFit sh e = true := fun e he => by
  rw [List.eq_of_mem_replicate he]; exact h

/-! Marks through lists: what is written into each element, and how many numbers that takes. -/
def cntL {α : Type} (cnt : α → Nat) (xs : List α) : Nat := (xs.map cnt).sum
def mkL {α : Type} (mk : α → Int → α) (cnt : α → Nat) : List α → Int → List α
  | [], _ => []
  | x :: xs, k => mk x k :: mkL mk cnt xs (k + (cnt x : Int))
def cnt1 {α : Type} (_ : α) : Nat := 1
def mkBool (_ : Bool) (k : Int) : Bool := k.tmod 3 == 0
section
variable {α : Type} {mk : α → Int → α} {cnt : α → Nat} {xs : List α} {k : Int} {i : Nat} {x : α}
theorem mkL_length : ∀ {xs : List α} {k : Int}, (mkL mk cnt xs k).length = xs.length
  | [], _ => rfl
  | x :: xs, k => by simp [mkL, mkL_length (xs := xs)]
theorem mkL_append : ∀ {xs ys : List α} {k : Int}, mkL mk cnt (xs ++ ys) k = mkL mk cnt xs k ++ mkL mk cnt ys (k + (cntL cnt xs : Int))
  | [], ys, k => by simp [mkL, cntL]
  | x :: xs, ys, k => by
    simp only [List.cons_append, mkL, mkL_append (xs := xs)]
    congr 3
    simp only [cntL, List.map_cons, List.sum_cons]
    omega
theorem cntL_append {xs ys : List α} : cntL cnt (xs ++ ys) = cntL cnt xs + cntL cnt ys := by simp [cntL]
theorem cntL_take (hx : xs[i]? = some x) : cntL cnt (xs.take (i + 1)) = cntL cnt (xs.take i) + cnt x := by
  rw [take_get hx, cntL_append]
  simp [cntL]
theorem cntL_le (hx : xs[i]? = some x) : cntL cnt (xs.take i) + cnt x ≤ cntL cnt xs := by
  have e : xs = xs.take i ++ xs.drop i := (List.take_append_drop i xs).symm
  have h2 : cntL cnt xs = cntL cnt (xs.take i) + cntL cnt (xs.drop i) := by
    rw [← cntL_append, List.take_append_drop]
  rw [drop_get hx] at h2
  simp only [cntL, List.map_cons, List.sum_cons] at h2 ⊢
  omega
theorem cntL_cnt1 {xs : List α} : cntL cnt1 xs = xs.length := by
  induction xs with
  | nil => rfl
  | cons x xs ih => simp only [cntL, List.map_cons, List.sum_cons, cnt1, List.length_cons] at ih ⊢; omega
theorem mkL_take (hx : xs[i]? = some x) : mkL mk cnt (xs.take (i + 1)) k = mkL mk cnt (xs.take i) k ++ [mk x (k + (cntL cnt (xs.take i) : Int))] := by
  rw [take_get hx, mkL_append]
  rfl
theorem mkL_get (hx : xs[i]? = some x) : (mkL mk cnt xs k)[i]? = some (mk x (k + (cntL cnt (xs.take i) : Int))) := by
  have e : xs = xs.take i ++ x :: xs.drop (i + 1) := by rw [← drop_get hx, List.take_append_drop]
  have hi : i < xs.length := (List.getElem?_eq_some_iff.1 hx).1
  have hl : (mkL mk cnt (xs.take i) k).length = i := by rw [mkL_length, List.length_take]; omega
  have h2 : mkL mk cnt xs k = mkL mk cnt (xs.take i) k ++ mkL mk cnt (x :: xs.drop (i + 1)) (k + (cntL cnt (xs.take i) : Int)) := by
    rw [← mkL_append, ← e]
  rw [h2, List.getElem?_append_right (by omega), hl, Nat.sub_self]
  rfl
theorem cntL_end (h : xs.length ≤ i) : cntL cnt (xs.take i) = cntL cnt xs := by rw [List.take_of_length_le h]
theorem mkL_end (h : xs.length ≤ i) : mkL mk cnt (xs.take i) k = mkL mk cnt xs k := by rw [List.take_of_length_le h]

def midL (mk : α → Int → α) (cnt : α → Nat) (xs : List α) (k : Int) (i : Nat) : List α := mkL mk cnt (xs.take i) k ++ xs.drop i
theorem midL_get (hx : xs[i]? = some x) : (midL mk cnt xs k i)[i]? = some x := by
  have hi : i < xs.length := (List.getElem?_eq_some_iff.1 hx).1
  have hl : (mkL mk cnt (xs.take i) k).length = i := by rw [mkL_length, List.length_take]; omega
  rw [midL, List.getElem?_append_right (by omega), hl, Nat.sub_self, drop_get hx]
  rfl
theorem midL_next (hx : xs[i]? = some x) {C : α → List AV} {e : List AV} (he : e = C (mk x (k + (cntL cnt (xs.take i) : Int)))) : ((midL mk cnt xs k i).map C).set i e = (midL mk cnt xs k (i + 1)).map C := by
  have hi : i < xs.length := (List.getElem?_eq_some_iff.1 hx).1
  have hl : (mkL mk cnt (xs.take i) k).length = i := by rw [mkL_length, List.length_take]; omega
  rw [he]
  simp only [midL, List.map_append]
  rw [List.set_append_right _ _ (by simp [hl]), mkL_take hx, drop_get hx]
  simp [hl]
theorem midL_zero : midL mk cnt xs k 0 = xs := by simp [midL, mkL]
theorem midL_end (h : xs.length ≤ i) : midL mk cnt xs k i = mkL mk cnt xs k := by
  simp only [midL]
  rw [mkL_end h, List.drop_eq_nil_of_le h, List.append_nil]

theorem ix_mid {C : α → List AV} {Q : List AV → Prop} (hi : i < xs.length) (hQ : ∀ x, xs[i]? = some x → Q (C x)) : ∃ e, ((midL mk cnt xs k i).map C)[(i : Int).toNat]? = some e ∧ Q e := by
  have hx : xs[i]? = some xs[i] := by simp [hi]
  refine ⟨C xs[i], ?_, hQ _ hx⟩
  rw [Int.toNat_natCast, List.getElem?_map, midL_get hx]
  rfl
theorem ix_setN {L : List (List AV)} {e : List AV} {Q : List AV → Prop} (h : i < L.length) (hQ : Q e) : ∃ e', (L.set (i : Int).toNat e)[(i : Int).toNat]? = some e' ∧ Q e' := ⟨e, by simp [h], hQ⟩
theorem ix_mk {C : α → List AV} {n : Int} {Q : List AV → Prop} (e : n = (i : Int)) (hi : i < xs.length) (hQ : ∀ x, xs[i]? = some x → Q (C (mk x (k + (cntL cnt (xs.take i) : Int))))) : 0 ≤ n ∧ ∃ y, ((mkL mk cnt xs k).map C)[n.toNat]? = some y ∧ Q y := by
  subst e
  have hx : xs[i]? = some xs[i] := by simp [hi]
  refine ⟨by omega, C (mk xs[i] (k + (cntL cnt (xs.take i) : Int))), ?_, hQ _ hx⟩
  rw [Int.toNat_natCast, List.getElem?_map, mkL_get hx]
  rfl
end
theorem cnt0_eq {α : Type} {cnt : α → Nat} {xs : List α} {k : Int} : AV.int .i64 k = AV.int .i64 (k + (cntL cnt (xs.take 0) : Int)) := by
  have e : k + (cntL cnt (xs.take 0) : Int) = k := by simp [cntL]
  rw [e]
theorem midL_len {α : Type} {mk : α → Int → α} {cnt : α → Nat} {xs : List α} {k : Int} {i : Nat} : (midL mk cnt xs k i).length = min i xs.length + (xs.length - i) := by
  simp only [midL, List.length_append, mkL_length, List.length_take, List.length_drop]
theorem mid_at {α : Type} {mk : α → Int → α} {cnt : α → Nat} {xs : List α} {k : Int} {i : Nat} {x : α} {C : α → List AV} (hx : xs[i]? = some x) : ((midL mk cnt xs k i).map C)[(i : Int).toNat]? = some (C x) := by
  rw [Int.toNat_natCast, List.getElem?_map, midL_get hx]
  rfl
theorem setN_at {L : List (List AV)} {e : List AV} {i : Nat} (h : i < L.length) : (L.set (i : Int).toNat e)[(i : Int).toNat]? = some e := by simp [h]
theorem ix_mk_at {α : Type} {mk : α → Int → α} {cnt : α → Nat} {xs : List α} {k : Int} {i : Nat} {x : α} {C : α → List AV} {Q : List AV → Prop} (hx : xs[i]? = some x) (hQ : Q (C (mk x (k + (cntL cnt (xs.take i) : Int))))) : 0 ≤ (i : Int) ∧ ∃ y, ((mkL mk cnt xs k).map C)[(i : Int).toNat]? = some y ∧ Q y := by
  refine ⟨by omega, C (mk x (k + (cntL cnt (xs.take i) : Int))), ?_, hQ⟩
  rw [Int.toNat_natCast, List.getElem?_map, mkL_get hx]
  rfl
theorem heldB_no {a b : List UInt8} (h : b = a) : (!(a == b)) = false := by rw [h]; simp
theorem lensC : (∀ {α β : Type} {xs : List α} {f : α → β}, (xs.map f).length = xs.length) ∧ (∀ {α : Type} {xs ys : List α}, (xs ++ ys).length = xs.length + ys.length) ∧ (∀ {α : Type} {i : Nat} {xs : List α}, (xs.take i).length = min i xs.length) ∧ (∀ {α : Type} {a : α} {xs : List α}, (a :: xs).length = xs.length + 1) ∧ (∀ {α : Type}, ([] : List α).length = 0) ∧ (∀ {α : Type} {n : Nat} {a : α}, (List.replicate n a).length = n) :=
  ⟨List.length_map .., List.length_append, List.length_take, List.length_cons, List.length_nil, List.length_replicate⟩
theorem lensB : (∀ {α β : Type} {xs : List α} {f : α → β}, (xs.map f).length = xs.length) ∧ (∀ {α : Type} {i : Nat} {xs : List α}, (xs.take i).length = min i xs.length) ∧ (∀ {α : Type} {xs ys : List α}, (xs ++ ys).length = xs.length + ys.length) ∧ (∀ {α : Type} {i : Nat} {xs : List α}, (xs.drop i).length = xs.length - i) ∧ (∀ {α : Type} {xs : List α} {i : Nat} {a : α}, (xs.set i a).length = xs.length) ∧ (∀ {α : Type} {c : Int} {f : Int → α} {k : Int} {n : Nat}, (markList c f k n).length = n) ∧ (∀ {α : Type} {mk : α → Int → α} {cnt : α → Nat} {xs : List α} {k : Int} {i : Nat}, (midL mk cnt xs k i).length = min i xs.length + (xs.length - i)) ∧ (∀ {α : Type} {mk : α → Int → α} {cnt : α → Nat} {xs : List α} {k : Int}, (mkL mk cnt xs k).length = xs.length) ∧ (∀ n : Nat, ((n : Int)).toNat = n) ∧ (∀ {a b : UInt8}, ((a.toNat : Int) = b.toNat) ↔ a = b) :=
  ⟨List.length_map .., List.length_take, List.length_append, List.length_drop, List.length_set, markList_length, midL_len, mkL_length, Int.toNat_natCast, fact_byte⟩
theorem nmL : (∀ {α : Type} [BEq α] [LawfulBEq α] {a b : α}, (a != b) = true ↔ a ≠ b) ∧ (∀ {α : Type} (a b : α), (a ≠ b) = ¬ a = b) ∧ (∀ {α : Type} [BEq α] [LawfulBEq α] {a b : α}, (a != b) = false ↔ a = b) ∧ (∀ {α : Type} [BEq α] [LawfulBEq α] {a b : α}, (a == b) = true ↔ a = b) ∧ (∀ {α : Type} [BEq α] [LawfulBEq α] {a b : α}, (a == b) = false ↔ a ≠ b) ∧ (∀ b : Bool, ((!b) = true) = (b = false)) ∧ (∀ b : Bool, ((!b) = false) = (b = true)) ∧ (∀ a b : Bool, ((a || b) = true) = (a = true ∨ b = true)) ∧ (∀ a b : Bool, ((a || b) = false) = (a = false ∧ b = false)) :=
  ⟨bne_iff_ne, fun _ _ => rfl, bne_eq_false_iff_eq, beq_iff_eq, beq_eq_false_iff_ne, by simp, by simp, by simp, by simp⟩
theorem i64w {e : Int} (h : 0 ≤ e) (h' : e ≤ 2305843009213693952) : IntKind.i64.wrap e = e := i64_wrap (by omega) (by omega)
theorem cntL_w100 {α : Type} {cnt w : α → Nat} (h : ∀ x, cnt x ≤ 100 * (1 + w x)) (xs : List α) : cntL cnt xs ≤ 100 * wL w xs := by
  induction xs with
  | nil => exact Nat.zero_le _
  | cons x xs ih =>
    simp only [cntL, wL, List.map_cons, List.sum_cons, List.length_cons] at ih ⊢
    have := h x
    omega
theorem cntL_l100 {α : Type} {cnt : α → Nat} (h : ∀ x, cnt x ≤ 100) (xs : List α) : cntL cnt xs ≤ 100 * xs.length := by
  induction xs with
  | nil => exact Nat.zero_le _
  | cons x xs ih =>
    simp only [cntL, List.map_cons, List.sum_cons, List.length_cons] at ih ⊢
    have := h x
    omega
theorem cells_eq {a b : AV} {l m : List AV} (h : a = b) (ht : l = m) : a :: l = b :: m := by rw [h, ht]

end Go.Ab
