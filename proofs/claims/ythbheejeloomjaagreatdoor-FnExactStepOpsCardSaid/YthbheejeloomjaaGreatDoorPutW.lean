/-
  A write put into a rising list: the program's way and the reference's, and that they are alike.
  No condition.
-/
import Derived.Test.YthbheejeloomjaaGreatDoorIns1
import Derived.Test.YthbheejeloomjaaGreatDoorBase
namespace Go.Proofs.YthbheejeloomjaaGreatDoor
open Go.Ab
set_option linter.unusedSimpArgs false
set_option maxRecDepth 20000
set_option maxHeartbeats 4000000
set_option linter.unusedVariables false

def putGoW (l : List WriteT) (s : List UInt8) : Nat → Nat
  | 0 => 0
  | k + 1 => match l[k]? with | some x => if Op.bytesLess s x.Key = true then putGoW l s k else k + 1 | none => k + 1
theorem putGoW_le (l : List WriteT) (s : List UInt8) : ∀ k, putGoW l s k ≤ k
  | 0 => Nat.le_refl _
  | k + 1 => by
    have ih := putGoW_le l s k
    unfold putGoW
    split
    · split <;> omega
    · omega
def putWS (l : List WriteT) (w : WriteT) : List WriteT := if 0 < putGoW l w.Key l.length ∧ (l[putGoW l w.Key l.length - 1]?).map WriteT.Key = some w.Key then l.set (putGoW l w.Key l.length - 1) w else insW l (putGoW l w.Key l.length) w
theorem insW_len (l : List WriteT) (i : Nat) (w : WriteT) : (insW l i w).length = l.length + 1 := by
  unfold insW
  simp only [List.length_append, List.length_take, List.length_cons, List.length_nil, List.length_drop]; omega
theorem putWS_len (l : List WriteT) (w : WriteT) : (putWS l w).length ≤ l.length + 1 := by
  unfold putWS
  split
  · rw [List.length_set]; omega
  · rw [insW_len]; omega
theorem putGoW_next {l : List WriteT} {s : List UInt8} {x : WriteT} {k K : Nat} (h : putGoW l s k = K) (hk : (k : Int) > 0) (hx : l[k - 1]? = some x) (hb : Op.bytesLess s x.Key = true) : putGoW l s (k - 1) = K := by
  obtain ⟨k, rfl⟩ : ∃ m, k = m + 1 := ⟨k - 1, by omega⟩
  simp only [Nat.add_sub_cancel] at hx ⊢
  unfold putGoW at h
  simp only [hx, hb, if_true] at h
  exact h
theorem putGoW_stop {l : List WriteT} {s : List UInt8} {x : WriteT} {k K : Nat} (h : putGoW l s k = K) (hk : (k : Int) > 0) (hx : l[k - 1]? = some x) (hb : Op.bytesLess s x.Key = false) : K = k := by
  obtain ⟨k, rfl⟩ : ∃ m, k = m + 1 := ⟨k - 1, by omega⟩
  simp only [Nat.add_sub_cancel] at hx
  unfold putGoW at h
  simp only [hx, hb, Bool.false_eq_true, if_false] at h
  exact h.symm
theorem putGoW_zero {l : List WriteT} {s : List UInt8} {k K : Nat} (h : putGoW l s k = K) (hk : ¬ (k : Int) > 0) : K = k := by
  obtain rfl : k = 0 := by omega
  unfold putGoW at h
  exact h.symm
theorem putWS_same {l : List WriteT} {w x : WriteT} {k : Nat} (h : putGoW l w.Key l.length = k) (hk : (k : Int) > 0) (hx : l[k - 1]? = some x) (he : x.Key = w.Key) : putWS l w = l.set (k - 1) w := by
  unfold putWS
  rw [h, if_pos ⟨by omega, by rw [hx]; exact congrArg some he⟩]
theorem putWS_new {l : List WriteT} {w : WriteT} {k : Nat} (h : putGoW l w.Key l.length = k) (hx : ¬ (k : Int) > 0 ∨ ∃ x, l[k - 1]? = some x ∧ ¬ x.Key = w.Key) : putWS l w = insW l k w := by
  unfold putWS
  rw [h, if_neg]
  rintro ⟨h1, h2⟩
  rcases hx with hx | ⟨x, hx, hne⟩
  · omega
  · rw [hx] at h2
    exact hne (Option.some.inj h2)
theorem putWS_cells {l : List WriteT} {w : WriteT} {k : Nat} {L : List (List AV)} (hp : putWS l w = insW l k w) (hL : L = [w.cells]) : ((l.take k).map WriteT.cells ++ L) ++ (l.drop k).map WriteT.cells = (putWS l w).map WriteT.cells := by
  rw [hp, hL]; unfold insW; simp
theorem putWS_setc {l : List WriteT} {w x : WriteT} {k : Nat} (h : k = putGoW l w.Key l.length) (hk : (k : Int) > 0) (hx : l[k - 1]? = some x) (he : x.Key = w.Key) : (l.map WriteT.cells).set (k - 1) [.str w.Key, .str w.Val, .bool w.Gone] = (putWS l w).map WriteT.cells := by
  rw [putWS_same h.symm hk hx he, List.map_set]; rfl
/-! The plain law. -/
def upW (l : List WriteT) : Prop := l.Pairwise fun a b => Op.bytesLess a.Key b.Key = true
theorem putGoW_hi {l : List WriteT} {s : List UInt8} : ∀ k, k ≤ l.length → ∀ j x, putGoW l s k ≤ j → j < k → l[j]? = some x → Op.bytesLess s x.Key = true
  | 0, _, j, x, _, h, _ => by omega
  | k + 1, hk, j, x, h1, h2, hx => by
    have hy : l[k]? = some l[k] := List.getElem?_eq_getElem (by omega)
    unfold putGoW at h1
    simp only [hy] at h1
    cases hb : Op.bytesLess s l[k].Key with
    | true =>
      simp only [hb, if_true] at h1
      by_cases e : j = k
      · subst e; rw [hy] at hx; cases hx; exact hb
      · exact putGoW_hi k (by omega) j x h1 (by omega) hx
    | false => simp only [hb, Bool.false_eq_true, if_false] at h1; omega
theorem putGoW_lo {l : List WriteT} {s : List UInt8} : ∀ k, k ≤ l.length → ∀ x, 0 < putGoW l s k → l[putGoW l s k - 1]? = some x → Op.bytesLess s x.Key = false
  | 0, _, x, h, _ => by unfold putGoW at h; omega
  | k + 1, hk, x, h, hx => by
    have hy : l[k]? = some l[k] := List.getElem?_eq_getElem (by omega)
    unfold putGoW at h hx
    simp only [hy] at h hx
    cases hb : Op.bytesLess s l[k].Key with
    | true =>
      simp only [hb, if_true] at h hx
      exact putGoW_lo k (by omega) x h hx
    | false =>
      simp only [hb, Bool.false_eq_true, if_false, Nat.add_sub_cancel] at hx
      rw [hy] at hx; cases hx; exact hb
def putW (l : List WriteT) (w : WriteT) : List WriteT := match bsHit (wK w.Key) l with | true => l.set (bsPos (wK w.Key) l) w | false => insW l (bsPos (wK w.Key) l) w
theorem putW_len (l : List WriteT) (w : WriteT) : (putW l w).length ≤ l.length + 1 := by
  unfold putW
  split
  · rw [List.length_set]; omega
  · rw [insW_len]; omega
theorem at_lo {l : List WriteT} (hl : upW l) {s : List UInt8} {m : Nat} {y : WriteT} (hy : l[m]? = some y) (hb : Op.bytesLess s y.Key = false) {j : Nat} {x : WriteT} (hj : j < m) (hx : l[j]? = some x) : Op.bytesLess x.Key s = true := by
  obtain ⟨h1, rfl⟩ := List.getElem?_eq_some_iff.1 hy
  obtain ⟨h2, rfl⟩ := List.getElem?_eq_some_iff.1 hx
  exact ble_tr2 (List.pairwise_iff_getElem.1 hl j m h2 h1 hj) hb
theorem putW_eq {l : List WriteT} (hl : upW l) (w : WriteT) : putW l w = putWS l w := by
  have hle := putGoW_le l w.Key l.length
  have hhi := fun j x => putGoW_hi (l := l) (s := w.Key) l.length (Nat.le_refl _) j x
  generalize hk : putGoW l w.Key l.length = k at hle hhi
  have hhi2 : ∀ j x, k ≤ j → l[j]? = some x → ¬ wK w.Key x < 0 := fun j x h1 h2 h3 => by
    have h4 := hhi j x h1 (List.getElem?_eq_some_iff.1 h2).1 h2
    have h5 := cmpS_neg.1 h3
    rw [bl_asym h4] at h5; cases h5
  by_cases h0 : k = 0
  · subst h0
    have hp : bsPos (wK w.Key) l = 0 := bsPos_of 0 (by omega) (fun j x h => absurd h (Nat.not_lt_zero _)) hhi2
    have hn : bsHit (wK w.Key) l = false := by
      unfold bsHit
      rw [hp]
      cases hx : l[0]? with
      | none => rfl
      | some x =>
        have h4 := hhi 0 x (Nat.le_refl _) (List.getElem?_eq_some_iff.1 hx).1 hx
        simp only [beq_eq_false_iff_ne]
        intro e
        have e2 := cmpS_zero.1 e
        rw [e2, bl_irr] at h4; cases h4
    rw [putWS_new hk (.inl (by omega))]
    unfold putW
    rw [hn, hp]
  · have hy : l[k - 1]? = some l[k - 1] := List.getElem?_eq_getElem (by omega)
    have hlo : Op.bytesLess w.Key l[k - 1].Key = false := by
      refine putGoW_lo l.length (Nat.le_refl _) _ ?_ ?_
      · rw [hk]; omega
      · rw [hk]; exact hy
    by_cases he : l[k - 1].Key = w.Key
    · have hp : bsPos (wK w.Key) l = k - 1 := by
        refine bsPos_of (k - 1) (by omega) (fun j x h hx => cmpS_neg.2 (at_lo hl hy hlo h hx)) (fun j x h hx => ?_)
        by_cases e : j = k - 1
        · subst e
          rw [hy] at hx; cases hx
          intro h3
          have h5 := cmpS_neg.1 h3
          rw [he, bl_irr] at h5; cases h5
        · exact hhi2 j x (by omega) hx
      have hn : bsHit (wK w.Key) l = true := by
        unfold bsHit
        rw [hp, hy]
        exact beq_iff_eq.2 (cmpS_zero.2 he)
      rw [putWS_same hk (by omega) hy he]
      unfold putW
      rw [hn, hp]
    · have hlt : Op.bytesLess l[k - 1].Key w.Key = true := bl_tot hlo (fun e => he e.symm)
      have hp : bsPos (wK w.Key) l = k := by
        refine bsPos_of k hle (fun j x h hx => cmpS_neg.2 ?_) hhi2
        by_cases e : j = k - 1
        · subst e
          rw [hy] at hx; cases hx
          exact hlt
        · exact at_lo hl hy hlo (by omega) hx
      have hn : bsHit (wK w.Key) l = false := by
        unfold bsHit
        rw [hp]
        cases hx : l[k]? with
        | none => rfl
        | some x =>
          have h4 := hhi k x (Nat.le_refl _) (List.getElem?_eq_some_iff.1 hx).1 hx
          simp only [beq_eq_false_iff_ne]
          intro e
          have e2 := cmpS_zero.1 e
          rw [e2, bl_irr] at h4; cases h4
      rw [putWS_new hk (.inr ⟨_, hy, he⟩)]
      unfold putW
      rw [hn, hp]
theorem upW_ins {l : List WriteT} (hl : upW l) {k : Nat} {w : WriteT} (h1 : ∀ j x, j < k → l[j]? = some x → Op.bytesLess x.Key w.Key = true) (h2 : ∀ j x, k ≤ j → l[j]? = some x → Op.bytesLess w.Key x.Key = true) : upW (insW l k w) := by
  have hsp : (l.take k ++ l.drop k).Pairwise fun a b => Op.bytesLess a.Key b.Key = true := by rw [List.take_append_drop]; exact hl
  obtain ⟨p1, p2, p3⟩ := List.pairwise_append.1 hsp
  unfold upW insW
  rw [List.append_assoc]
  have hup : ∀ b ∈ l.drop k, Op.bytesLess w.Key b.Key = true := by
    intro b hb
    obtain ⟨j, hj, rfl⟩ := List.getElem_of_mem hb
    rw [List.getElem_drop]
    rw [List.length_drop] at hj
    exact h2 (k + j) _ (by omega) (List.getElem?_eq_getElem (by omega))
  refine List.pairwise_append.2 ⟨p1, List.pairwise_cons.2 ⟨hup, p2⟩, ?_⟩
  intro a ha b hb
  rcases List.mem_cons.1 hb with rfl | hb
  · obtain ⟨j, hj, rfl⟩ := List.getElem_of_mem ha
    rw [List.length_take] at hj
    rw [List.getElem_take]
    exact h1 j _ (by omega) (List.getElem?_eq_getElem (by omega))
  · exact p3 a ha b hb
theorem upW_keys {l : List WriteT} : upW l ↔ (l.map WriteT.Key).Pairwise fun a b => Op.bytesLess a b = true := by unfold upW; rw [List.pairwise_map]
theorem upW_set {l : List WriteT} (hl : upW l) {k : Nat} {w x : WriteT} (hx : l[k]? = some x) (he : x.Key = w.Key) : upW (l.set k w) := by
  rw [upW_keys] at hl ⊢
  rw [List.map_set]
  have : (l.map WriteT.Key).set k w.Key = l.map WriteT.Key := by
    apply List.ext_getElem?
    intro j
    rw [List.getElem?_set]
    split
    · rename_i e
      subst e
      rw [List.getElem?_map, hx]
      obtain ⟨h1, _⟩ := List.getElem?_eq_some_iff.1 hx
      rw [List.length_map, if_pos h1, ← he]
      rfl
    · rfl
  rw [this]
  exact hl
theorem putWS_up {l : List WriteT} (hl : upW l) (w : WriteT) : upW (putWS l w) := by
  have hle := putGoW_le l w.Key l.length
  have hhi := fun j x => putGoW_hi (l := l) (s := w.Key) l.length (Nat.le_refl _) j x
  generalize hk : putGoW l w.Key l.length = k at hle hhi
  by_cases h0 : k = 0
  · subst h0
    rw [putWS_new hk (.inl (by omega))]
    exact upW_ins hl (fun j x h => absurd h (Nat.not_lt_zero _)) (fun j x h hx => hhi j x h (List.getElem?_eq_some_iff.1 hx).1 hx)
  · have hy : l[k - 1]? = some l[k - 1] := List.getElem?_eq_getElem (by omega)
    have hlo : Op.bytesLess w.Key l[k - 1].Key = false := by
      refine putGoW_lo l.length (Nat.le_refl _) _ ?_ ?_
      · rw [hk]; omega
      · rw [hk]; exact hy
    by_cases he : l[k - 1].Key = w.Key
    · rw [putWS_same hk (by omega) hy he]
      exact upW_set hl hy he
    · rw [putWS_new hk (.inr ⟨_, hy, he⟩)]
      refine upW_ins hl (fun j x h hx => ?_) (fun j x h hx => hhi j x h (List.getElem?_eq_some_iff.1 hx).1 hx)
      by_cases e : j = k - 1
      · subst e
        rw [hy] at hx; cases hx
        exact bl_tot hlo (fun e => he e.symm)
      · exact at_lo hl hy hlo (by omega) hx
theorem putW_fold : ∀ (ws l : List WriteT), upW l → ws.foldl putW l = ws.foldl putWS l ∧ upW (ws.foldl putWS l)
  | [], l, h => ⟨rfl, h⟩
  | w :: ws, l, h => by
    have := putW_fold ws (putWS l w) (putWS_up h w)
    simp only [List.foldl_cons]
    rw [putW_eq h]
    exact this
theorem putW_fold_len : ∀ (ws l : List WriteT), (ws.foldl putW l).length ≤ l.length + ws.length
  | [], l => Nat.le_refl _
  | w :: ws, l => by
    have h1 := putW_fold_len ws (putW l w)
    have h2 := putW_len l w
    simp only [List.foldl_cons, List.length_cons]
    omega
theorem putWS_fold_len : ∀ (ws l : List WriteT), (ws.foldl putWS l).length ≤ l.length + ws.length
  | [], l => Nat.le_refl _
  | w :: ws, l => by
    have h1 := putWS_fold_len ws (putWS l w)
    have h2 := putWS_len l w
    simp only [List.foldl_cons, List.length_cons]
    omega
theorem putWS_mem {l : List WriteT} {w x : WriteT} (h : x ∈ putWS l w) : x ∈ l ∨ x = w := by
  unfold putWS at h
  split at h
  · exact List.mem_or_eq_of_mem_set h
  · unfold insW at h
    simp only [List.mem_append, List.mem_singleton] at h
    rcases h with (h | h) | h
    · exact .inl (List.mem_of_mem_take h)
    · exact .inr h
    · exact .inl (List.mem_of_mem_drop h)
theorem putWS_fold_mem : ∀ (ws l : List WriteT) {x : WriteT}, x ∈ ws.foldl putWS l → x ∈ l ∨ x ∈ ws
  | [], l, x, h => .inl h
  | w :: ws, l, x, h => by
    rcases putWS_fold_mem ws (putWS l w) h with h | h
    · rcases putWS_mem h with h | h
      · exact .inl h
      · exact .inr (by simp [h])
    · exact .inr (by simp [h])
/-! The contracts. -/
theorem putW_hit {l : List WriteT} {w : WriteT} (h : bsHit (wK w.Key) l = true) : (putW l w).map WriteT.cells = (l.map WriteT.cells).set (bsPos (wK w.Key) l) [.str w.Key, .str w.Val, .bool w.Gone] := by
  unfold putW; rw [h, List.map_set]; rfl
theorem putW_miss {l : List WriteT} {w : WriteT} (h : bsHit (wK w.Key) l = false) : (putW l w).map WriteT.cells = (insW l (bsPos (wK w.Key) l) w).map WriteT.cells := by
  unfold putW; rw [h]
theorem c_impl_putWrite (l : List WriteT) (w : WriteT) (hl : l.length ≤ 1048576) : XC Tryz.prog 73 [⟨false, 74, 3, l.map WriteT.cells⟩] [.own 0, .agg w.cells] (.own 0) [⟨false, 74, 3, (putW l w).map WriteT.cells⟩] := by
  refine xc_at Tryz.func73 rfl (by kernel_rfl) 25 [.tmp 4] rfl rfl rfl ?_
  repeat' (conv => whnf); first
 | (refine nameB_cases (b := bsHit (wK w.Key) l) (fun h => ?_) (fun h => ?_))
 | refine side_and (side_of (⟨by omega, by (try dsimp only); rw [List.length_map]; have hq := bsHit_lt (show bsHit (wK w.Key) l = true by assumption); omega⟩)) ?_
 | (show ∃ e, _ ∧ _; rw [show ((bsPos (wK w.Key) l : Nat) : Int).toNat = bsPos (wK w.Key) l from Int.toNat_natCast _]; refine ix_ownX (f := WriteT.cells) (bsHit_lt (by assumption)) (fun z hz => ?_))
 | refine splitB_true ?_
 | refine splitB_false ?_
 | refine Call0 (c_impl_findWrite l w.Key (by omega)) rfl rfl ?_
 | refine CallX (c_Insert_WriteAt l w _ (bsPos (wK w.Key) l) rfl bsPos_le hl) [0, 20544] rfl ⟨rfl, rfl, trivial⟩ rfl rfl rfl ?_
 | refine side_and (side_of (by first | (and_intros <;> first | exact Nat.le_of_ble_eq_true rfl | rfl | omega | (simp only [lensB, lensC]; omega) | exact bytes_ok (Nat.le_of_ble_eq_true rfl) (by omega) (by simp only [lensB, lensC]; omega) | exact bytes_okN (Nat.le_of_ble_eq_true rfl) (by simp only [lensB, lensC]; omega)) | fail)) ?_
 | fail
  all_goals
    conv => whnf
    first
    | exact OutA_ids rfl rfl rfl ⟨⟨_, _, _, rfl, congrArg (AObj.mk _ _ _) (putW_hit (by assumption))⟩, trivial⟩ rfl (.inr (flat_one (flat_map (fun _ => rfl) _)))
    | exact OutA_ids rfl rfl rfl ⟨⟨_, _, _, rfl, congrArg (AObj.mk _ _ _) (putW_miss (by assumption))⟩, trivial⟩ rfl (.inr (flat_one (flat_map (fun _ => rfl) _)))
end Go.Proofs.YthbheejeloomjaaGreatDoor
