/-
  The program's answers on states are the reference's.
  No condition: plain laws, no program in sight.
-/
import Derived.Test.YthbheejeloomjaaGreatState9
import Derived.Test.YthbheejeloomjaaGreatM4
namespace Go.Proofs.YthbheejeloomjaaGreat
open Go.Ab
set_option linter.unusedSimpArgs false
set_option linter.unusedVariables false

theorem cmpS_neg {a b : List UInt8} : cmpS a b < 0 ↔ Op.bytesLess a b = true := by
  unfold cmpS
  cases h : Op.bytesLess a b with
  | true => simp
  | false => cases h2 : Op.bytesLess b a <;> simp
theorem cmpS_zero {a b : List UInt8} : cmpS a b = 0 ↔ a = b := by
  unfold cmpS
  cases h : Op.bytesLess a b with
  | true =>
    simp only [if_true]
    constructor
    · intro e; omega
    · rintro rfl; rw [bl_irr] at h; cases h
  | false =>
    cases h2 : Op.bytesLess b a with
    | true =>
      simp only [Bool.false_eq_true, if_false, if_true]
      constructor
      · intro e; omega
      · rintro rfl; rw [bl_irr] at h2; cases h2
    | false =>
      simp only [Bool.false_eq_true, if_false, true_iff]
      have q := bl_leq a b
      rw [h, h2] at q
      simpa using q
theorem cmpS_le {a b : List UInt8} (h : cmpS a b ≤ 0) : Op.bytesLess b a = false := by
  by_cases e : a = b
  · subst e; exact bl_irr _
  · exact bl_asym (cmpS_neg.1 (by have : ¬ cmpS a b = 0 := fun h0 => e (cmpS_zero.1 h0); omega))
theorem cmpI_neg {a b : Int} : cmpI a b < 0 ↔ a < b := by
  unfold cmpI
  split
  · simp [*]
  · split <;> simp <;> omega
theorem cmpI_zero {a b : Int} : cmpI a b = 0 ↔ a = b := by
  unfold cmpI
  split
  · simp; omega
  · split <;> simp <;> omega
theorem allPre_pair {α : Type} {q : List α → α → Bool} {r : α → α → Bool} (tr : ∀ a b c, r a b = true → r b c = true → r a c = true) (hq : ∀ pre x, q pre x = true → prevB r pre x = true) : ∀ (xs pre : List α), pre.Pairwise (fun a b => r a b = true) → allPre q pre xs = true → (pre ++ xs).Pairwise fun a b => r a b = true
  | [], pre, hp, _ => by simpa using hp
  | x :: xs, pre, hp, h => by
    simp only [allPre, Bool.and_eq_true] at h
    have h1 := hq pre x h.1
    have : (pre ++ [x]).Pairwise fun a b => r a b = true := by
      refine List.pairwise_append.2 ⟨hp, by simp, fun a ha b hb => ?_⟩
      simp at hb
      subst hb
      unfold prevB at h1
      cases hl : pre.getLast? with
      | none => rw [List.getLast?_eq_none_iff] at hl; subst hl; simp at ha
      | some y =>
        simp only [hl] at h1
        obtain ⟨ini, rfl⟩ := List.getLast?_eq_some_iff.1 hl
        rcases List.mem_append.1 ha with ha | ha
        · exact tr _ _ _ ((List.pairwise_append.1 hp).2.2 a ha y (by simp)) h1
        · simp at ha; subst ha; exact h1
    have ih := allPre_pair tr hq xs (pre ++ [x]) this h.2
    simpa using ih
theorem okCells_pair {cs : List CellT} (h : okCells cs = true) : cs.Pairwise fun a b => Op.bytesLess a.Key b.Key = true := by
  simp only [okCells, Bool.and_eq_true] at h
  have := allPre_pair (r := fun a b : CellT => Op.bytesLess a.Key b.Key) (fun a b c => bl_tr) (fun pre x hx => by simp only [cellAt, Bool.and_eq_true] at hx; exact hx.2) cs [] (by simp) h.1
  simpa using this
theorem okWrites_pair {ws : List WriteT} (h : okWrites ws = true) : ws.Pairwise fun a b => Op.bytesLess a.Key b.Key = true := by
  simp only [okWrites, Bool.and_eq_true] at h
  have := allPre_pair (r := fun a b : WriteT => Op.bytesLess a.Key b.Key) (fun a b c => bl_tr) (fun pre x hx => by simp only [wrAt, Bool.and_eq_true] at hx; exact hx.2) ws [] (by simp) h.1
  simpa using this
theorem cells_bs {cs : List CellT} (h : okCells cs = true) (key : List UInt8) : cs.Pairwise fun a b => cK key b ≤ 0 → cK key a < 0 :=
  (okCells_pair h).imp fun hab hb => cmpS_neg.2 (ble_tr2 hab (cmpS_le hb))
theorem writes_bs {cs : List WriteT} (h : okWrites cs = true) (key : List UInt8) : cs.Pairwise fun a b => wK key b ≤ 0 → wK key a < 0 :=
  (okWrites_pair h).imp fun hab hb => cmpS_neg.2 (ble_tr2 hab (cmpS_le hb))
theorem kEq_c {key : List UInt8} (c : CellT) : kEq key c = (cK key c == 0) := by
  unfold kEq cK
  rw [Bool.eq_iff_iff, beq_iff_eq, beq_iff_eq]
  exact cmpS_zero.symm
theorem last_eq {cs : List CellT} (h : okCells cs = true) (key : List UInt8) : lastI cs key = lastS cs key := by
  cases hb : bsHit (cK key) cs with
  | true =>
    have hf := bs_find (cells_bs h key) (p := kEq key) (fun x _ => kEq_c x) hb
    unfold lastI lastS
    rw [hf, hb]
    cases cs[bsPos (cK key) cs]? with
    | none => rfl
    | some c => simp only [if_true]; cases c.Vers.getLast? <;> rfl
  | false =>
    rw [lastI_no hb]
    have hs := bs_isSome (cells_bs h key) (p := kEq key) (fun x _ => kEq_c x)
    rw [hb] at hs
    unfold lastS
    rw [eq_comm, Option.isSome_eq_false_iff, Option.isNone_iff_eq_none] at hs
    rw [hs]
theorem full_eq {cs : List CellT} (h : okCells cs = true) (w : WriteT) : fullI cs w = fullS cs w := by
  cases hb : bsHit (cK w.Key) cs with
  | true =>
    have hf := bs_find (cells_bs h w.Key) (p := kEq w.Key) (fun x _ => kEq_c x) hb
    unfold fullI fullS
    rw [hf, hb]
    cases cs[bsPos (cK w.Key) cs]? <;> simp
  | false =>
    rw [fullI_no hb]
    have hs := bs_isSome (cells_bs h w.Key) (p := kEq w.Key) (fun x _ => kEq_c x)
    rw [hb] at hs
    unfold fullS
    rw [eq_comm, Option.isSome_eq_false_iff, Option.isNone_iff_eq_none] at hs
    rw [hs]
theorem hit_wrote {ws : List WriteT} (h : okWrites ws = true) (key : List UInt8) : bsHit (wK key) ws = wrote ws key := by
  rw [bs_hit (writes_bs h key)]
  unfold wrote
  congr 1
  funext x
  unfold wK
  rw [Bool.eq_iff_iff, beq_iff_eq, beq_iff_eq]
  exact cmpS_zero
/-! Keys collected. -/
theorem putS_mem {l : List (List UInt8)} {s x : List UInt8} : x ∈ putS l s ↔ x ∈ l ∨ x = s := by
  unfold putS
  split
  · rename_i h
    constructor
    · exact .inl
    · rintro (h1 | rfl)
      · exact h1
      · exact List.mem_of_getElem? h.2
  · conv => rhs; rw [← List.take_append_drop (putGo l s l.length) l]
    simp only [List.mem_append, List.mem_cons, List.not_mem_nil, or_false]
    constructor
    · rintro ((h | h) | h)
      · exact .inl (.inl h)
      · exact .inr h
      · exact .inl (.inr h)
    · rintro ((h | h) | h)
      · exact .inl (.inl h)
      · exact .inr h
      · exact .inl (.inr h)
theorem putGo_hi {l : List (List UInt8)} {s : List UInt8} : ∀ k, k ≤ l.length → ∀ j x, putGo l s k ≤ j → j < k → l[j]? = some x → Op.bytesLess s x = true
  | 0, _, j, x, _, h, _ => by omega
  | k + 1, hk, j, x, h1, h2, hx => by
    have hy : l[k]? = some l[k] := List.getElem?_eq_getElem (by omega)
    unfold putGo at h1
    simp only [hy] at h1
    cases hb : Op.bytesLess s l[k] with
    | true =>
      simp only [hb, if_true] at h1
      by_cases e : j = k
      · subst e; rw [hy] at hx; cases hx; exact hb
      · exact putGo_hi k (by omega) j x h1 (by omega) hx
    | false => simp only [hb, Bool.false_eq_true, if_false] at h1; omega
theorem putGo_lo {l : List (List UInt8)} {s : List UInt8} : ∀ k, k ≤ l.length → ∀ x, 0 < putGo l s k → l[putGo l s k - 1]? = some x → Op.bytesLess s x = false
  | 0, _, x, h, _ => by unfold putGo at h; omega
  | k + 1, hk, x, h, hx => by
    have hy : l[k]? = some l[k] := List.getElem?_eq_getElem (by omega)
    unfold putGo at h hx
    simp only [hy] at h hx
    cases hb : Op.bytesLess s l[k] with
    | true =>
      simp only [hb, if_true] at h hx
      exact putGo_lo k (by omega) x h hx
    | false =>
      simp only [hb, Bool.false_eq_true, if_false, Nat.add_sub_cancel] at hx
      rw [hy] at hx; cases hx; exact hb
theorem putS_pair {l : List (List UInt8)} {s : List UInt8} (hl : l.Pairwise fun a b => Op.bytesLess a b = true) : (putS l s).Pairwise fun a b => Op.bytesLess a b = true := by
  unfold putS
  split
  · exact hl
  · rename_i hne
    have hk := putGo_le l s l.length
    rw [List.append_assoc]
    have hsp : (l.take (putGo l s l.length) ++ l.drop (putGo l s l.length)).Pairwise fun a b => Op.bytesLess a b = true := by rw [List.take_append_drop]; exact hl
    obtain ⟨p1, p2, p3⟩ := List.pairwise_append.1 hsp
    have hup : ∀ b ∈ l.drop (putGo l s l.length), Op.bytesLess s b = true := by
      intro b hb
      obtain ⟨j, hj, rfl⟩ := List.getElem_of_mem hb
      rw [List.getElem_drop]
      rw [List.length_drop] at hj
      exact putGo_hi l.length (Nat.le_refl _) (putGo l s l.length + j) _ (by omega) (by omega) (List.getElem?_eq_getElem (by omega))
    refine List.pairwise_append.2 ⟨p1, List.pairwise_cons.2 ⟨hup, p2⟩, ?_⟩
    intro a ha b hb
    have hlo : Op.bytesLess a s = true := by
      obtain ⟨j, hj, rfl⟩ := List.getElem_of_mem ha
      rw [List.length_take] at hj
      rw [List.getElem_take]
      have hlt : putGo l s l.length - 1 < l.length := by omega
      have hlast : l[putGo l s l.length - 1]? = some l[putGo l s l.length - 1] := List.getElem?_eq_getElem hlt
      have h1 := putGo_lo l.length (Nat.le_refl _) _ (by omega) hlast
      have h2 : ¬ l[putGo l s l.length - 1] = s := fun e => hne ⟨by omega, by rw [hlast, e]⟩
      have h3 : Op.bytesLess l[putGo l s l.length - 1] s = true := bl_tot h1 (fun e => h2 e.symm)
      by_cases e : j = putGo l s l.length - 1
      · subst e; exact h3
      · exact bl_tr (List.pairwise_iff_getElem.1 hl j _ (by omega) hlt (by omega)) h3
    rcases List.mem_cons.1 hb with rfl | hb
    · exact hlo
    · exact bl_tr hlo (hup b hb)
theorem fold_put : ∀ (ks l : List (List UInt8)), l.Pairwise (fun a b => Op.bytesLess a b = true) → (ks.foldl putS l).Pairwise (fun a b => Op.bytesLess a b = true) ∧ ∀ x, x ∈ ks.foldl putS l ↔ x ∈ l ∨ x ∈ ks
  | [], l, h => ⟨h, fun x => by simp⟩
  | k :: ks, l, h => by
    obtain ⟨h1, h2⟩ := fold_put ks (putS l k) (putS_pair h)
    refine ⟨h1, fun x => ?_⟩
    simp only [List.foldl_cons, List.mem_cons]
    rw [h2 x, putS_mem, or_assoc]
theorem pair_nodup {l : List (List UInt8)} (h : l.Pairwise fun a b => Op.bytesLess a b = true) : l.Nodup := h.imp fun hab e => by subst e; rw [bl_irr] at hab; cases hab
theorem foldC_map (cs : List CellT) (l : List (List UInt8)) : cs.foldl pC l = (cs.map CellT.Key).foldl putS l := by rw [List.foldl_map]; rfl
theorem foldW_map (ws : List WriteT) (l : List (List UInt8)) : ws.foldl pW l = (ws.map WriteT.Key).foldl putS l := by rw [List.foldl_map]; rfl
theorem flatW_map (hs : List HeldT) : ((hs.map HeldT.Writes).flatten).map WriteT.Key = flatW hs := by
  unfold flatW
  rw [List.map_flatten, List.map_map]; rfl
theorem keys_len (cs : List CellT) (hs : List HeldT) (ws : List WriteT) : (compS (sortS (cs.map CellT.Key ++ (flatW hs ++ ws.map WriteT.Key)))).length = (keysS cs (allW ws hs)).length := by
  refine List.Perm.length_eq ((List.perm_ext_iff_of_nodup (compS_nodup _) ?_).2 fun x => ?_)
  · unfold keysS
    rw [foldC_map, foldW_map]
    exact pair_nodup (fold_put _ _ (fold_put _ _ (by simp)).1).1
  · rw [compS_mem, sortS_mem]
    unfold keysS
    rw [foldC_map, foldW_map, (fold_put _ _ (fold_put _ _ (by simp)).1).2, (fold_put _ _ (by simp)).2]
    unfold allW
    rw [List.map_append, flatW_map]
    simp only [List.mem_append, List.not_mem_nil, false_or]
    constructor
    · rintro (h | h | h)
      · exact .inl h
      · exact .inr (.inr h)
      · exact .inr (.inl h)
    · rintro (h | h | h)
      · exact .inl h
      · exact .inr (.inr h)
      · exact .inr (.inl h)
theorem any_flat {p : WriteT → Bool} : ∀ (hs : List HeldT), (hs.any fun h => h.Writes.any p) = ((hs.map HeldT.Writes).flatten).any p
  | [] => rfl
  | h :: hs => by
    simp only [List.any_cons, List.map_cons, List.flatten_cons, List.any_append, any_flat hs]
theorem room_eq {cs : List CellT} (hs : List HeldT) (h : okCells cs = true) : roomI cs hs = (decide ((hs.length : Int) ≤ 12) && roomS cs hs []) := by
  unfold roomI roomS
  have e1 : (hs.any fun h => h.Writes.any (fullI cs)) = (allW [] hs).any (fullS cs) := by
    rw [any_flat]
    unfold allW
    rw [List.nil_append]
    congr 1
    funext w
    exact full_eq h w
  have e2 := keys_len cs hs []
  simp only [List.map_nil, List.append_nil] at e2
  rw [e1]
  unfold keysI
  rw [e2]
  cases (allW [] hs).any (fullS cs) <;> simp
/-! Held transactions. -/
theorem okRec_writes {h : HeldT} (q : okRec h.rec1 = true) : okWrites h.Writes = true := by
  unfold okRec at q
  rw [if_pos (show h.rec1.Kind = 1 from rfl)] at q
  simp only [Bool.and_eq_true] at q
  exact q.1.1.2
theorem any_swap {α β : Type} {p : α → β → Bool} {xs : List α} {ys : List β} : (xs.any fun x => ys.any fun y => p x y) = (ys.any fun y => xs.any fun x => p x y) := by
  rw [Bool.eq_iff_iff]
  simp only [List.any_eq_true]
  constructor
  · rintro ⟨x, hx, y, hy, h⟩; exact ⟨y, hy, x, hx, h⟩
  · rintro ⟨y, hy, x, hx, h⟩; exact ⟨x, hx, y, hy, h⟩
theorem any_or {α : Type} {p q : α → Bool} {xs : List α} : (xs.any fun x => p x || q x) = (xs.any p || xs.any q) := by
  rw [Bool.eq_iff_iff]
  simp only [List.any_eq_true, Bool.or_eq_true]
  constructor
  · rintro ⟨x, hx, h | h⟩
    · exact .inl ⟨x, hx, h⟩
    · exact .inr ⟨x, hx, h⟩
  · rintro (⟨x, hx, h⟩ | ⟨x, hx, h⟩)
    · exact ⟨x, hx, .inl h⟩
    · exact ⟨x, hx, .inr h⟩
theorem over_eq {ws others : List WriteT} {reads : List (List UInt8)} (h : okWrites others = true) : overB ws reads others = ((ws.any fun w => wrote others w.Key) || (ws.any fun w => reads.any fun x => w.Key == x)) := by
  unfold overB
  rw [← any_or]
  congr 1
  funext w
  rw [hit_wrote h]
theorem beq_sw {a b : List UInt8} : (a == b) = (b == a) := by
  rw [Bool.eq_iff_iff, beq_iff_eq, beq_iff_eq]; exact eq_comm
theorem clash_apart {h k : HeldT} (hh : okWrites h.Writes = true) (hk : okWrites k.Writes = true) : clashB h k = !apartS k h.Reads h.Writes := by
  unfold clashB apartS
  rw [over_eq hk, over_eq hh, any_or, Bool.not_and, Bool.not_not, Bool.not_not]
  have e1 : (k.Writes.any fun w => wrote h.Writes w.Key) = (h.Writes.any fun w => wrote k.Writes w.Key) := by
    unfold wrote
    rw [any_swap]
    congr 1; funext a; congr 1; funext b; exact beq_sw
  have e2 : (k.Writes.any fun w => h.Reads.any fun x => w.Key == x) = (h.Reads.any fun x => wrote k.Writes x) := by
    unfold wrote
    rw [any_swap]
  have e3 : (h.Writes.any fun w => k.Reads.any fun x => w.Key == x) = (h.Writes.any fun w => k.Reads.any fun x => x == w.Key) := by
    congr 1; funext a; congr 1; funext b; exact beq_sw
  rw [e1, e2, e3]
  cases (h.Writes.any fun w => wrote k.Writes w.Key) <;> cases (h.Writes.any fun w => k.Reads.any fun x => x == w.Key) <;> cases (h.Reads.any fun x => wrote k.Writes x) <;> rfl
theorem allPre_congr {α : Type} {q q' : List α → α → Bool} {ok : α → Prop} (h1 : ∀ pre x, (∀ p ∈ pre, ok p) → q pre x = q' pre x) (h2 : ∀ pre x, q pre x = true → ok x) : ∀ (xs pre : List α), (∀ p ∈ pre, ok p) → allPre q pre xs = allPre q' pre xs
  | [], _, _ => rfl
  | x :: xs, pre, hp => by
    simp only [allPre]
    rw [← h1 pre x hp]
    cases hq : q pre x with
    | false => simp
    | true =>
      rw [allPre_congr h1 h2 xs (pre ++ [x]) ?_]
      intro p hm
      rcases List.mem_append.1 hm with hm | hm
      · exact hp p hm
      · simp at hm; subst hm; exact h2 pre p hq
theorem held_eq {s : StateT} (hc : okCells s.Cells = true) (pre : List HeldT) (h : HeldT) (hp : ∀ p ∈ pre, okWrites p.Writes = true) : heldI s pre h = heldS s pre h := by
  unfold heldI heldS
  cases hr : okRec h.rec1 with
  | false => simp only [Bool.false_and]
  | true =>
    have hw := okRec_writes hr
    have e1 : (!pre.any (clashB h)) = (pre.all fun g => apartS g h.Reads h.Writes) := by
      rw [Bool.eq_iff_iff]
      simp only [Bool.not_eq_true', List.any_eq_false, List.all_eq_true]
      constructor
      · intro q g hg
        have := q g hg
        rw [clash_apart hw (hp g hg)] at this
        simpa using this
      · intro q g hg
        rw [clash_apart hw (hp g hg), q g hg]
        simp
    have e2 : (h.Writes.any fun w => decide (h.Time ≤ lastI s.Cells w.Key)) = (h.Writes.any fun w => decide (lastS s.Cells w.Key ≥ h.Time)) := by
      congr 1; funext w; rw [last_eq hc]
    rw [e1, e2]
theorem areHeld_eq {s : StateT} (hc : okCells s.Cells = true) : areHeldI s = areHeldS s := by
  unfold areHeldI areHeldS
  rw [room_eq s.Held hc, allPre_congr (ok := fun h : HeldT => okWrites h.Writes = true) (fun pre x hp => held_eq hc pre x hp) (fun pre x hx => ?_) s.Held [] (by simp)]
  simp only [heldI, Bool.and_eq_true] at hx
  exact okRec_writes hx.1.1.1.1
theorem held_pair {s : StateT} (h : areHeldI s = true) : s.Held.Pairwise fun a b => decide (a.Txn < b.Txn) = true := by
  simp only [areHeldI, Bool.and_eq_true] at h
  have := allPre_pair (r := fun a b : HeldT => decide (a.Txn < b.Txn)) (fun a b c h1 h2 => by simp only [decide_eq_true_eq] at *; omega) (fun pre x hx => by simp only [heldI, Bool.and_eq_true] at hx; exact hx.1.1.2) s.Held [] (by simp) h.1
  simpa using this
theorem held_bs {s : StateT} (h : areHeldI s = true) (t : Int) : s.Held.Pairwise fun a b => hK t b ≤ 0 → hK t a < 0 :=
  (held_pair h).imp fun hab hb => by
    unfold hK at *
    rw [decide_eq_true_eq] at hab
    refine cmpI_neg.2 ?_
    rename_i a b
    by_cases e : cmpI b.Txn t = 0
    · have := cmpI_zero.1 e; omega
    · have := cmpI_neg.1 (show cmpI b.Txn t < 0 by omega); omega
theorem hEq_c {t : Int} (c : HeldT) : hEq t c = (hK t c == 0) := by
  unfold hEq hK
  rw [Bool.eq_iff_iff, beq_iff_eq, beq_iff_eq]
  exact cmpI_zero.symm
theorem told_eq {s : StateT} (h : areHeldI s = true) (pre : List ToldT) (t : ToldT) : toldI s pre t = tolS s pre t := by
  unfold toldI tolS
  rw [bs_isSome (held_bs h t.Txn) (p := hEq t.Txn) (fun x _ => hEq_c x)]
  cases s.Held.find? (hEq t.Txn) <;> simp [Bool.and_comm, Bool.and_left_comm, Bool.and_assoc]
theorem okState_eq (s : StateT) : okStateI s = okStateS s := by
  unfold okStateI okStateS
  cases hc : okCells s.Cells with
  | false => simp only [Bool.and_false, Bool.false_and]
  | true =>
    rw [← areHeld_eq hc]
    cases hh : areHeldI s with
    | false => simp only [Bool.and_false, Bool.false_and]
    | true =>
      have e1 : (s.Cells.any fun c => decide (lastI s.Cells c.Key > s.Floor)) = (s.Cells.any fun c => decide (lastS s.Cells c.Key > s.Floor)) := by
        congr 1; funext c; rw [last_eq hc]
      rw [e1, allPre_congr (q := toldI s) (q' := tolS s) (ok := fun _ => True) (fun pre x _ => told_eq hh pre x) (fun _ _ _ => trivial) s.Told [] (by simp)]
end Go.Proofs.YthbheejeloomjaaGreat
