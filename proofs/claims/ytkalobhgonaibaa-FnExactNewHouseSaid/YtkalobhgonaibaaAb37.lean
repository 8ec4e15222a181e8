/-
  Plain laws: lists from which elements are struck, into which elements are put.
  No condition: definitions and lemmas over any program.
-/
import Derived.Test.YtkalobhgonaibaaM5
namespace Go.Ab
open Go.RowKit
set_option linter.unusedVariables false

/-- A copy to an object's own header. -/
theorem hook_copyO {P : Program} {s : St} {K : St → Prop} {dst : Option Tmp} {type : TypeId} {pos : String} {after : Array Edge} {guard : Option (Nat × Bool)} {nid : Nat} {x y : Operand} {T T' e : TypeId} {args : Array Operand} {tys : Array TypeId} {id ty esz m : Nat} {es ys : List (List AV)} (ha : args.toList = [x, y]) (hty : tys.toList = [T, T']) (he : elemOf? P T = some e) (hz : sizeOf? P e = some esz)
    (hx : s.val x = .own id) (ho : s.objs id = some ⟨.slc, ty, esz, es⟩) (hy : srcE s (s.val y) = some (esz, ys)) (hf : srcFit s (s.val y)) (hm : min ys.length es.length = m)
    (h : forceS (setObj s id ⟨.slc, ty, esz, splice es 0 (ys.take m)⟩) fun s' => s'.putK dst (.int .i64 (m : Int)) K) : HookA P ⟨dst, .call ⟨.builtin .copy, args, tys⟩, type, pos, after, guard⟩ nid s K := by
  replace hm : Nat.min ys.length es.length = m := hm
  have ha' : args = #[x, y] := by rw [← ha]
  have ht' : tys = #[T, T'] := by rw [← hty]
  subst ha' ht'
  rw [forceS_eq] at h
  refine hook_of ?_
  intro F w0 gv a w ⟨hdr, hs⟩ next Q hn
  obtain ⟨k1, k2⟩ := putK_elim h
  have hT := elemOf?_some he
  obtain ⟨i', hi', hsz⟩ := sizeOf?_info hz
  obtain ⟨cp, base, c1, c2, c3, _⟩ := hs.raw ho
  have hv := hs.val x
  rw [hx] at hv
  unfold VR at hv
  obtain ⟨_, hv⟩ := hv
  replace hv : a.eval x = (hdr id).v := hv
  rw [c3] at hv
  obtain ⟨sb, sc, news, f1, f2, f3, f4, f5⟩ := srcArg hs (hs.val y) hy hf
  have hnl : news.length = ys.length * esz := by rw [← f2.length, flatten_length esz ys f4]
  have hmy : m ≤ ys.length := by rw [← hm]; exact Nat.min_le_left _ _
  have hmn : m ≤ es.length := by rw [← hm]; exact Nat.min_le_right _ _
  replace f5 := f5.imp_left fun q => (⟨by rw [q.1]; rfl, q.2⟩ : ys.length = 0 ∧ sb = none)
  have htl : (ys.take m).length = m := by rw [List.length_take]; omega
  have hfl : LR w (roOf F w hdr s.objs) (ys.take m).flatten (news.take (m * esz)) := by
    rw [flatten_take esz m ys f4]
    exact f2.take _
  have fin : ∀ w' hdr', (Builtin.copy_ #[T, T'] type #[a.eval x, a.eval y]).run P w = .ok (goInt m) w' → Sim F w0 gv (setObj s id ⟨.slc, ty, esz, splice es 0 (ys.take m)⟩) a w' hdr' → Oper.wp P ⟨dst, .call ⟨.builtin .copy, #[x, y], #[T, T']⟩, type, pos, after, guard⟩ a w next Q := by
    intro w' hdr' hr hsim
    have hrun : (execOp a.eval ⟨dst, .call ⟨.builtin .copy, #[x, y], #[T, T']⟩, type, pos, after, guard⟩).run P w = .ok (.value (.int .i64 (m : Int))) w' := by
      simp [execOp, resolve, invoke, builtin, hr, goInt]
    unfold Oper.wp
    rw [hrun]
    exact hn _ _ _ k2 ⟨hdr', hsim.put k1 (by unfold VR; rfl)⟩
  obtain ⟨cs, hrow, _⟩ := (hs.objs id _ ho).row
  rcases hrow.2 with ⟨b0, e1, e2⟩ | ⟨g, cap, cur, e1, e0, _⟩
  · have hm0 : m = 0 := by
      have : es.length = 0 := e2
      omega
    refine fin w hdr ?_ ?_
    · rw [hv, f1, ← hm]
      refine run_copyK hT hi' hsz hnl f5 (fun ad _ => ?_) (fun _ => rfl)
      rw [hm, hm0]
      simp [storeCells]
    · rw [hm0, List.take_zero, splice_nil, setObj_self ho]
      exact hs
  · replace e1 : (hdr id).v = _ := e1
    rw [c3] at e1
    cases e1
    obtain ⟨w', r1, _, r2, _⟩ := hs.storeEs ho (b := g) (m := es.length) (cap := cp) c3 e0 (k := 0) (ys := ys.take m) (vs := news.take (m * esz)) (Nat.zero_le _) (by rw [htl]; omega) (fun z hz => f4 z (List.mem_of_mem_take hz)) hfl (fun u hu => f3 u (List.mem_of_mem_take hu))
    obtain ⟨hdr', _, _, hsim⟩ := r2 (by rw [htl]; omega)
    refine fin w' hdr' ?_ hsim
    rw [hv, f1, ← hm]
    refine run_copyK hT hi' hsz hnl f5 (fun ad had => ?_) (fun e => by cases e)
    cases had
    rw [hm]
    have := r1 P
    rw [Nat.zero_mul] at this
    exact this

/-! A nil slice in a cell that owns, as an empty list. -/
def deNil (a : AV) : AV := match a with | .nil => .sl [] | a => a
def posS : Shp → Bool
  | .leaf => true
  | .sl _ e _ => Nat.blt 0 e
theorem TR.deNil {w : World} {a : AV} {sh : Shp} {v : Value} {S : List Nat} (hp : posS sh = true) (h : TR w a sh v S) : TR w (deNil a) sh v S := by
  unfold Ab.deNil
  split
  · unfold TR at h
    obtain ⟨⟨ty, esz, cells, rfl⟩, ⟨base, rfl⟩, rfl⟩ := h
    have hpos : 0 < esz := Nat.le_of_ble_eq_true hp
    unfold TR
    refine ⟨ty, esz, cells, [], [], rfl, hpos, ⟨by simp, .inl ⟨base, rfl, rfl⟩⟩, by simp, by rw [blk_zero]; rfl, ?_⟩
    unfold TEs
    exact ⟨rfl, rfl⟩
  · exact h
theorem TL.deNil {w : World} : ∀ {al : List AV} {shs : List Shp} {vs : List Value} {S : List Nat}, shs.all posS = true → TL w al shs vs S → TL w (al.map Ab.deNil) shs vs S
  | [], shs, vs, S, _, h => by simpa using h
  | a :: al, shs, vs, S, hp, h => by
    unfold TL at h
    obtain ⟨sh, shs', v, vs', S1, S2, rfl, rfl, rfl, h1, h2⟩ := h
    simp only [List.all_cons, Bool.and_eq_true] at hp
    simp only [List.map_cons]
    unfold TL
    exact ⟨sh, shs', v, vs', S1, S2, rfl, rfl, rfl, TR.deNil hp.1 h1, TL.deNil hp.2 h2⟩
theorem TEs.deNil {w : World} {esz : Nat} {cells : List Shp} (hp : cells.all posS = true) : ∀ {xs : List (List AV)} {vs : List Value} {S : List Nat}, TEs w esz cells xs vs S → TEs w esz cells (xs.map (List.map Ab.deNil)) vs S
  | [], vs, S, h => by simpa using h
  | x :: xs, vs, S, h => by
    unfold TEs at h
    obtain ⟨v1, v2, S1, S2, e1, e2, e3, h1, h2⟩ := h
    simp only [List.map_cons]
    unfold TEs
    exact ⟨v1, v2, S1, S2, e1, e2, e3, TL.deNil hp h1, TEs.deNil hp h2⟩
theorem St.le_deNil {s : St} {ty esz : Nat} {sh : List Shp} {es : List (List AV)} (id : Nat) (ho : s.objs id = some ⟨.deep sh, ty, esz, es⟩) (hp : sh.all posS = true) : s.le (takeIn s [] id ⟨.deep sh, ty, esz, es.map (List.map deNil)⟩) := by
  intro F w0 gv a w ⟨hdr, hs⟩
  obtain ⟨hpos, hlens, hnd, cs, hrow, hone, hcl⟩ := hs.objs id _ ho
  have hH : (fun i => if i = id then hdr id else hdr i) = hdr := by
    funext i
    by_cases e : i = id
    · simp [e]
    · simp [e]
  have := hs.moved (ids := []) (id := id) (o' := ⟨.deep sh, ty, esz, es.map (List.map deNil)⟩) (w' := w) (h' := hdr id) rfl rfl rfl (Nat.le_refl _) (fun _ _ _ => rfl) (fun _ o1 h1 => by rw [ho] at h1; cases h1; exact ⟨rfl, rfl⟩) ?_ ?_
  · exact ⟨_, this⟩
  · intro _
    refine ⟨hpos, fun e he => ?_, hnd, cs, ?_, hone, CellsR_deep (sh := sh) rfl ?_⟩
    · simp only [List.mem_map] at he
      obtain ⟨e0, h0, rfl⟩ := he
      rw [List.length_map]
      exact hlens e0 h0
    · show OwnR w w0.N ty esz (hdr id).v (es.map (List.map deNil)).length cs
      rw [List.length_map]
      exact hrow
    · exact TEs.deNil hp (hcl.deep rfl)
  · intro b hb
    exact .inl ⟨_, ho, hb⟩
theorem OutA_deNil {P : Program} {sh : Bool} {rs : List ResultVar} {r : AV} {os : List AObj} {s : St} {ty esz : Nat} {shp : List Shp} {es : List (List AV)} (id : Nat) (ho : s.objs id = some ⟨.deep shp, ty, esz, es⟩) (hp : shp.all posS = true)
    (h : OutA P sh rs r os (takeIn s [] id ⟨.deep shp, ty, esz, es.map (List.map deNil)⟩)) : OutA P sh rs r os s := OutA_le (St.le_deNil id ho hp) h

theorem OutA_cook {P : Program} {sh : Bool} {rs : List ResultVar} {r : AV} {os : List AObj} {s : St} {id m cp ty esz : Nat} {es : List (List AV)} (t : Nat) (ht : s.env t = .prt id 0 m cp) (ho : s.objs id = some ⟨.slc, ty, esz, es⟩) (hm : m ≤ es.length)
    (h : OutA P sh rs r os (cookS s t id m ⟨.slc, ty, esz, es⟩)) : OutA P sh rs r os s := OutA_le (St.le_cook ht ho hm) h

theorem splice_take_at {α : Type} {A ys : List α} {k : Nat} (h : k ≤ A.length) : (splice A k ys).take k = A.take k := by
  unfold splice
  rw [List.append_assoc, List.take_append, List.length_take, Nat.min_eq_left h, Nat.sub_self, List.take_zero, List.append_nil, List.take_take, Nat.min_self]

section
variable {α : Type} {q : α → Bool} {xs es : List α} {i j : Nat} {x : α}

theorem idxF_none : ∀ {xs : List α} {k : Nat}, idxF q k xs = -1 → ∀ x ∈ xs, q x = false
  | [], _, _, x, hx => by cases hx
  | y :: ys, k, h, x, hx => by
    unfold idxF at h
    split at h
    · omega
    · rename_i hq
      rcases List.mem_cons.1 hx with rfl | hx
      · simpa using hq
      · exact idxF_none h x hx
theorem idxF_some : ∀ {xs : List α} {k i : Nat}, idxF q k xs = ((k + i : Nat) : Int) → ∃ x, xs[i]? = some x ∧ q x = true ∧ ∀ y ∈ xs.take i, q y = false
  | [], k, i, h => by unfold idxF at h; omega
  | y :: ys, k, i, h => by
    unfold idxF at h
    split at h
    · rename_i hq
      have : i = 0 := by omega
      subst this
      exact ⟨y, rfl, hq, fun z hz => by simp at hz⟩
    · rename_i hq
      have hi : i ≠ 0 := by
        intro e
        subst e
        rcases Int.lt_or_le (idxF q (k + 1) ys) 0 with h1 | h1
        · omega
        · obtain ⟨_, _, _, h2⟩ := idxF_lt (q := q) (xs := ys) (k := k + 1) rfl h1
          omega
      obtain ⟨i', rfl⟩ : ∃ i', i = i' + 1 := ⟨i - 1, by omega⟩
      obtain ⟨x, h1, h2, h3⟩ := idxF_some (xs := ys) (k := k + 1) (i := i') (by rw [h]; congr 1; omega)
      refine ⟨x, by simpa using h1, h2, fun z hz => ?_⟩
      simp only [List.take_succ_cons, List.mem_cons] at hz
      rcases hz with rfl | hz
      · simpa using hq
      · exact h3 z hz
theorem idxF_bound (q : α → Bool) (xs : List α) : idxF q 0 xs = -1 ∨ (0 ≤ idxF q 0 xs ∧ idxF q 0 xs < xs.length) := by
  rcases Int.lt_or_le (idxF q 0 xs) 0 with h | h
  · left
    have : ∀ (xs : List α) (k : Nat), idxF q k xs < 0 → idxF q k xs = -1 := by
      intro xs
      induction xs with
      | nil => intro k _; rfl
      | cons y ys ih =>
        intro k hk
        unfold idxF at hk ⊢
        split
        · rename_i hq; rw [if_pos hq] at hk; omega
        · rename_i hq; rw [if_neg hq] at hk; exact ih _ hk
    exact this xs 0 h
  · right
    obtain ⟨x, h1, _⟩ := idxF_lt (q := q) (xs := xs) (k := 0) rfl h
    have := (List.getElem?_eq_some_iff.1 h1).1
    omega

/-- Elements are struck from a list: the first i that were kept of the first j. -/
def DelInv (q : α → Bool) (xs es : List α) (i j : Nat) : Prop := es.length = xs.length ∧ i < j ∧ j ≤ xs.length ∧ es.take i = (xs.take j).filter (fun y => !q y) ∧ es.drop j = xs.drop j
theorem DelInv.arith (h : DelInv q xs es i j) : es.length = xs.length ∧ i < j ∧ j ≤ xs.length := ⟨h.1, h.2.1, h.2.2.1⟩
theorem DelInv.start (h : ¬ idxF q 0 xs = -1) : DelInv q xs xs (idxF q 0 xs).toNat ((idxF q 0 xs).toNat + 1) := by
  rcases idxF_bound q xs with h1 | ⟨h1, h2⟩
  · exact absurd h1 h
  · obtain ⟨x, e1, e2, e3⟩ := idxF_some (q := q) (xs := xs) (k := 0) (i := (idxF q 0 xs).toNat) (by omega)
    refine ⟨rfl, by omega, by omega, ?_, rfl⟩
    rw [List.take_add_one, e1, List.filter_append, List.filter_eq_self.2 (fun y hy => by rw [e3 y hy]; rfl)]
    simp [e2]
theorem DelInv.get (h : DelInv q xs es i j) (hx : es[j]? = some x) : xs[j]? = some x := by
  have h1 : (es.drop j)[0]? = some x := by simpa using hx
  rw [h.2.2.2.2] at h1
  simpa using h1
theorem DelInv.keep (h : DelInv q xs es i j) (hx : es[j]? = some x) (hq : q x = false) : DelInv q xs (es.set i x) (i + 1) (j + 1) := by
  have hx2 := h.get hx
  obtain ⟨h1, h2, h3, h4, h5⟩ := h
  have hj := (List.getElem?_eq_some_iff.1 hx2).1
  refine ⟨by simp [h1], by omega, by omega, ?_, ?_⟩
  · rw [List.take_add_one, List.take_set_of_le (Nat.le_refl _), h4, List.getElem?_set, if_pos rfl, if_pos (by omega), List.take_add_one, hx2, List.filter_append]
    simp [hq]
  · rw [List.drop_set_of_lt (by omega)]
    rw [← List.drop_drop, ← List.drop_drop, h5]
theorem DelInv.skip (h : DelInv q xs es i j) (hx : es[j]? = some x) (hq : q x = true) : DelInv q xs es i (j + 1) := by
  have hx2 := h.get hx
  obtain ⟨h1, h2, h3, h4, h5⟩ := h
  have hj := (List.getElem?_eq_some_iff.1 hx2).1
  refine ⟨h1, by omega, by omega, ?_, ?_⟩
  · rw [h4, List.take_add_one, hx2, List.filter_append]
    simp [hq]
  · rw [← List.drop_drop, ← List.drop_drop, h5]
theorem DelInv.done (h : DelInv q xs es i j) (hj : ¬ (j : Int) < xs.length) : es.take i = xs.filter (fun y => !q y) := by
  rw [h.2.2.2.1, List.take_of_length_le (by omega)]
theorem filter_none (h : idxF q 0 xs = -1) : xs = xs.filter (fun y => !q y) := (List.filter_eq_self.2 (fun y hy => by rw [idxF_none h y hy]; rfl)).symm
end

/-- What is left of an object from which elements were struck. -/
theorem del_end {α : Type} {C : α → List AV} {q : α → Bool} {xs es : List α} {i j m : Nat} {ys : List (List AV)} {k : Nat} (h : DelInv q xs es i j) (hj : ¬ (j : Int) < xs.length) (hm : m = i) (hk : k = i) : (xs.filter (fun y => !q y)).map C = (splice (es.map C) k ys).take m := by
  subst hm hk
  rw [splice_take_at (by rw [List.length_map]; have := h.1; have := h.2.1; have := h.2.2.1; omega), ← h.done hj, List.map_take]
theorem splice_lenU {α : Type} {A ys : List α} {k : Nat} : (splice A k ys).length = min k A.length + ys.length + (A.length - (k + ys.length)) := by
  unfold splice
  simp only [List.length_append, List.length_take, List.length_drop]
theorem ix_ownX {α : Type} {f : α → List AV} {xs : List α} {n : Nat} {Q : List AV → Prop} (h : n < xs.length) (hQ : ∀ x, xs[n]? = some x → Q (f x)) : ∃ y, (xs.map f)[n]? = some y ∧ Q y :=
  ⟨f xs[n], by simp [h], hQ _ (by simp [h])⟩
end Go.Ab
