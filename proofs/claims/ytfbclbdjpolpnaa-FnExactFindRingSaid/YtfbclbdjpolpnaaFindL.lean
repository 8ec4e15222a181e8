/-
  FindRing's law.
  No condition.
-/
import Derived.Test.YtfbclbdjpolpnaaFind
import Derived.Test.YtfbclbdjpolpnaaStrs
namespace Go.Proofs.Ytfbclbdjpolpnaa
open Go.Ab Go.FR
set_option linter.unusedSimpArgs false
set_option maxRecDepth 20000
set_option maxHeartbeats 4000000
set_option linter.unusedVariables false

def ringFrom (ws : List (List Int)) : Nat → Nat → List Int × Bool
  | 0, _ => ([], false)
  | f + 1, k => if D ws k k = 0 then ringFrom ws f (k + 1) else (ring ws k, true)
def ringR (ws : List (List Int)) : List Int × Bool := if okG ws = true ∧ ws.length ≤ 20 then ringFrom ws ws.length 0 else ([], false)
theorem ringFrom_go {ws : List (List Int)} {k : Nat} {B : List Int × Bool} (h : ringFrom ws (ws.length - k) k = B) (hk : k < ws.length) (h0 : D ws k k = 0) : ringFrom ws (ws.length - (k + 1)) (k + 1) = B := by
  obtain ⟨j, hj⟩ : ∃ j, ws.length - k = j + 1 := ⟨ws.length - k - 1, by omega⟩
  rw [hj] at h
  unfold ringFrom at h
  rw [if_pos h0] at h
  rw [show ws.length - (k + 1) = j by omega]
  exact h
theorem ringFrom_hit {ws : List (List Int)} {k : Nat} {B : List Int × Bool} (h : ringFrom ws (ws.length - k) k = B) (hk : k < ws.length) (h0 : ¬ D ws k k = 0) : B = (ring ws k, true) := by
  obtain ⟨j, hj⟩ : ∃ j, ws.length - k = j + 1 := ⟨ws.length - k - 1, by omega⟩
  rw [hj] at h
  unfold ringFrom at h
  rw [if_neg h0] at h
  exact h.symm
theorem ringFrom_end {ws : List (List Int)} {k : Nat} {B : List Int × Bool} (h : ringFrom ws (ws.length - k) k = B) (hk : ¬ (k : Int) < ws.length) : B = ([], false) := by
  rw [show ws.length - k = 0 by omega] at h
  exact h.symm
theorem D_le {ws : List (List Int)} {t u : Nat} : D ws t u ≤ ws.length := L_le
theorem distL_len {ws : List (List Int)} {t : Nat} : (distL ws t).length = ws.length := midR_len
theorem distL_at {ws : List (List Int)} {t u : Nat} (h : u < ws.length) : at' (distL ws t) u = (D ws t u : Int) := by
  unfold at'
  rw [distL_get h]; rfl
theorem farL_len {ws : List (List Int)} {t : Nat} : (farL ws t).length = ws.length := by simp [farL]
theorem farL_at {ws : List (List Int)} {t u : Nat} (h : u < ws.length) : at' (farL ws t) u = E ws t u := by
  unfold at' farL
  simp [h]
theorem c_impl_FindRing_1 (ws : List (List Int)) (w : Int) (hl : ws.length ≤ 20) : PC Try.prog false 92 [.int .i64 w, .rp [.sl (ws.map (sC intC))]] (.bool (!inB 0 w ((ws.length : Int) - 1))) [] := by
  have hw := i64_wrap (e := (ws.length : Int) - 1) (by omega) (by omega)
  refine pc_at Try.func92 rfl (by kernel_rfl) 10 [.tmp 3] rfl rfl ?_
  repeat' (conv => whnf); first
    | refine nameB_true ?_
    | refine nameB_false ?_
    | refine nameB_yes (by assumption) ?_
    | refine nameB_no (by assumption) ?_
    | refine nameB_dyes (by assumption) ?_
    | refine nameB_dno (by assumption) ?_
    | (refine nameB_dec (fun h => ?_) (fun h => ?_) <;> try simp only [List.length_map, List.length_take, List.length_append, List.length_drop, List.length_set, markList_length, midL_len, mkL_length, Int.toNat_natCast, fact_byte] at h)
    | (refine nameB_cases (fun h => ?_) (fun h => ?_) <;> try simp only [bne_iff_ne, ne_eq, bne_eq_false_iff_eq, beq_iff_eq, beq_eq_false_iff_ne, Bool.not_eq_true', Bool.not_eq_false', Bool.or_eq_true, Bool.or_eq_false_iff, List.length_map, List.length_take, List.length_append, List.length_drop, List.length_set, markList_length, midL_len, mkL_length, Int.toNat_natCast, fact_byte] at h)
    | refine splitB_true ?_
    | refine splitB_false ?_
    | (refine splitB_intro (fun h => ?_) (fun h => ?_) <;> subst h)
    | refine draw_text (by kernel_rfl) (by kernel_rfl) (by kernel_rfl) ?_
    | refine both_intro ?_ ?_
    | (show Go.Ab.CallA _ _ _ _ _ _ _; refine Call0 (c_impl_within w 0 ((ws.length : Int) - 1)) (congrArg (fun n : Int => [AV.int .i64 w, AV.int .i64 0, AV.int .i64 n]) (show IntKind.i64.wrap (((ws.map (sC intC)).length : Int) - 1) = (ws.length : Int) - 1 from (by rw [List.length_map]; exact hw))) rfl ?_)
    | refine ix_map_at hx ?_
    | refine ix_map_at hy ?_
    | refine sl_pre (by omega) (fun _ => rfl) ?_
    | refine sl_suf (by omega) (fun _ => rfl) ?_
    | (refine ix_map2 hx (by omega) (by (try simp only [List.length_take]); omega) (fun y hy => ?_); try simp only [Int.toNat_natCast] at hy)
    | (refine ix_map (by omega) (by (try simp only [List.length_take]); omega) (fun x hx => ?_); try simp only [Int.toNat_natCast] at hx)
    | refine side_and (side_of (by first | (and_intros <;> first | exact Nat.le_of_ble_eq_true rfl | rfl | omega | (simp only [List.length_map, List.length_append, List.length_replicate, List.length_take, List.length_cons, List.length_nil, List.length_drop, List.length_set, markList_length, midL_len, mkL_length]; omega) | exact bytes_ok (Nat.le_of_ble_eq_true rfl) (by omega) (by simp only [List.length_map, List.length_append, List.length_replicate, List.length_take, List.length_cons, List.length_nil, List.length_drop, List.length_set, markList_length, midL_len, mkL_length]; omega) | exact bytes_okN (Nat.le_of_ble_eq_true rfl) (by simp only [List.length_map, List.length_append, List.length_replicate, List.length_take, List.length_cons, List.length_nil, List.length_drop, List.length_set, markList_length, midL_len, mkL_length]; omega)) | fail)) ?_
    | refine nilB_intro (fun h => ?_) ?_
    | refine side_and (side_of (show Go.Ab.structOk _ _ = true by kernel_rfl)) ?_
    | refine side_and (side_of (map_len (fun _ => rfl))) ?_
    | refine side_and (side_of (map_one (fun _ => rfl) _)) ?_
    | refine side_and ?_ ?_
    | refine LoadK_of rfl rfl ?_
    | refine LoadD_cel rfl rfl rfl rfl ?_
    | refine LoadD_of rfl ?_
    | refine StoreD_of rfl rfl rfl ?_
    | refine AppD_of rfl (by and_intros <;> first | rfl | decide) (by simp only [List.length_map, List.length_append, List.length_take, List.length_cons, List.length_nil]; first | (refine ⟨by omega, ?_⟩; refine Nat.le_trans (Nat.mul_le_mul_left _ (show _ ≤ 512 by decide)) ?_; omega) | fail) ?_
    | refine AppN_of rfl rfl (by and_intros <;> rfl) (by simp only [List.length_map, List.length_append, List.length_take, List.length_cons, List.length_nil]; first | (refine ⟨by omega, ?_⟩; refine Nat.le_trans (Nat.mul_le_mul_left _ (show _ ≤ 512 by decide)) ?_; omega) | fail) ?_
    | (show False; omega)
  all_goals
    conv => whnf
    refine OutA_plain rfl rfl ?_
    simp [h, named, AV.sub]
/-- The reference's next where it is at distance l + 1. -/
def nvF (ws : List (List Int)) (k l u : Nat) : Int := if l = 0 then (k : Int) else nx ws k l u
theorem next_far {ws : List (List Int)} (hg : okG ws = true) {k u : Nat} {r : List Int} (hr : ws[u]? = some r) : next (fun x => at' (farL ws k) x.toNat) r = next (eI ws k) (row ws u) := by
  rw [row_of hr]
  unfold FR.next
  refine nextG_congr r (-1) (fun x hx => ?_) (.inl (by decide))
  have := okG_row hg (u := u) (x := x) (by rw [row_of hr]; exact hx)
  exact farL_at (by omega)
theorem next_nv {ws : List (List Int)} (hg : okG ws = true) {k l u : Nat} (hk : k < ws.length) {r : List Int} (hr : ws[u]? = some r) (hd : D ws k u = l + 1) : next (fun x => at' (farL ws k) x.toNat) r = nvF ws k l u := by
  rw [next_far hg hr]
  unfold nvF
  by_cases hl : l = 0
  · subst hl
    rw [if_pos rfl]
    exact next_one (okG_cl hg) (okG_nn hg) hk hd
  · rw [if_neg hl]
    exact (next_eq (okG_cl hg) (okG_nn hg) hk (by omega) hd).1
theorem next_neg {ws : List (List Int)} (hg : okG ws = true) {k u : Nat} (hk : k < ws.length) {r : List Int} (hr : ws[u]? = some r) : next (fun x => at' (farL ws k) x.toNat) r < 0 ↔ D ws k u = 0 := by
  rw [next_far hg hr]
  exact next_none (okG_cl hg) (okG_nn hg) hk
theorem nx_facts {ws : List (List Int)} (hg : okG ws = true) {k l u : Nat} (hk : k < ws.length) (hl : 0 < l) (hd : D ws k u = l + 1) : 0 ≤ nx ws k l u ∧ (nx ws k l u).toNat < ws.length ∧ D ws k (nx ws k l u).toNat = l ∧ (nx ws k l u).toNat ≠ k :=
  (next_eq (okG_cl hg) (okG_nn hg) hk hl hd).2
theorem ringG_go {ws : List (List Int)} {k l u : Nat} {out B : List Int} (h : out ++ ringG ws k l u = B) (hl : 0 < l) : (out ++ [nx ws k l u]) ++ ringG ws k (l - 1) (nx ws k l u).toNat = B := by
  obtain ⟨l, rfl⟩ : ∃ j, l = j + 1 := ⟨l - 1, by omega⟩
  unfold ringG at h
  rw [List.append_assoc]
  exact h
theorem ringG_end {ws : List (List Int)} {k l u : Nat} {out B : List Int} (h : out ++ ringG ws k l u = B) (hl : l = 0) : out = B := by
  subst hl
  unfold ringG at h
  simpa using h
theorem leastG_hit {p : Int → Bool} {l : List Int} {i : Nat} {b x B : Int} (h : leastG p b (l.drop i) = B) (hx : l[i]? = some x) (hp : p x = true) (hc : b < 0 ∨ x < b) : leastG p x (l.drop (i + 1)) = B := by
  rw [drop_get hx] at h
  unfold leastG at h
  rw [if_pos (by simp only [hp, Bool.true_and, Bool.or_eq_true, decide_eq_true_eq]; omega)] at h
  exact h
theorem leastG_skip {p : Int → Bool} {l : List Int} {i : Nat} {b x B : Int} (h : leastG p b (l.drop i) = B) (hx : l[i]? = some x) (hc : p x = false ∨ ¬ (b < 0 ∨ x < b)) : leastG p b (l.drop (i + 1)) = B := by
  rw [drop_get hx] at h
  unfold leastG at h
  rw [if_neg (by simp only [Bool.and_eq_true, Bool.or_eq_true, decide_eq_true_eq]; exact fun h => hc.elim (fun hc => absurd h.1 (by simp [hc])) (fun hc => hc h.2))] at h
  exact h
theorem leastG_end {p : Int → Bool} {l : List Int} {i : Nat} {b B : Int} (h : leastG p b (l.drop i) = B) (hk : ¬ (i : Int) < l.length) : b = B := by
  rw [List.drop_eq_nil_of_le (by omega)] at h
  exact h
theorem all_go {α : Type} {q : α → Bool} {xs : List α} {k : Nat} {B : Bool} {x : α} (h : (xs.drop k).all q = B) (hx : xs[k]? = some x) (hq : q x = true) : (xs.drop (k + 1)).all q = B := by
  rw [drop_get hx, List.all_cons, hq, Bool.true_and] at h
  exact h
theorem all_no {α : Type} {q : α → Bool} {xs : List α} {k : Nat} {B : Bool} {x : α} (h : (xs.drop k).all q = B) (hx : xs[k]? = some x) (hq : q x = false) : B = false := by
  rw [drop_get hx, List.all_cons, hq, Bool.false_and] at h
  exact h.symm
theorem all_end {α : Type} {q : α → Bool} {xs : List α} {k : Nat} {B : Bool} (h : (xs.drop k).all q = B) (hk : ¬ (k : Int) < xs.length) : B = true := by
  rw [List.drop_eq_nil_of_le (by omega)] at h
  exact h.symm
theorem any_row {r : List Int} {n : Int} (h : (r.any fun w => !inB 0 w n) = true) : (r.all fun w => inB 0 w n) = false := by
  rw [List.any_eq_true] at h
  obtain ⟨x, h1, h2⟩ := h
  rw [List.all_eq_false]
  exact ⟨x, h1, by simpa using h2⟩
theorem any_row_no {r : List Int} {n : Int} (h : (r.any fun w => !inB 0 w n) = false) : (r.all fun w => inB 0 w n) = true := by
  rw [List.any_eq_false] at h
  rw [List.all_eq_true]
  exact fun x hx => by simpa using h x hx
theorem ringR_no {ws : List (List Int)} (h : okG ws = false ∨ ¬ ws.length ≤ 20) : ringR ws = ([], false) := by
  unfold ringR
  rw [if_neg (fun e => h.elim (fun h => by rw [e.1] at h; cases h) (fun h => h e.2))]
theorem ringR_yes {ws : List (List Int)} (h : okG ws = true) (hl : ws.length ≤ 20) : ringR ws = ringFrom ws ws.length 0 := by
  unfold ringR
  rw [if_pos ⟨h, hl⟩]
theorem wrap_pred {d : Nat} (h : 0 < d) (h2 : d ≤ 1000) : IntKind.i64.wrap ((d : Int) - 1) = ((d - 1 : Nat) : Int) := by
  rw [i64_wrap (by omega) (by omega)]; omega
theorem pred_D {ws : List (List Int)} {k : Nat} (h : ¬ ((D ws k k : Nat) : Int) = 0) (h2 : ws.length ≤ 20) : IntKind.i64.wrap ((D ws k k : Int) - 1) = ((D ws k k - 1 : Nat) : Int) := by
  have := D_le (ws := ws) (t := k) (u := k)
  exact wrap_pred (by omega) (by omega)
theorem last_pos {out : List Int} {x : Int} (h : out[out.length - 1]? = some x) : 0 < out.length := by
  have := (List.getElem?_eq_some_iff.1 h).1
  omega
theorem app_int {out : List Int} {x y : Int} (h : x = y) : out.map intC ++ [[AV.int .i64 x]] = (out ++ [y]).map intC := by
  rw [h, List.map_append]; rfl
theorem get_last {out : List Int} {x : Int} : (out ++ [x])[(out ++ [x]).length - 1]? = some x := by simp
theorem ix_last {xs : List Int} {n : Int} {m : Nat} {x : Int} {Q : List AV → Prop} (e : n.toNat = m) (hx : xs[m]? = some x) (hQ : Q (intC x)) : ∃ y, (xs.map intC)[n.toNat]? = some y ∧ Q y :=
  ⟨intC x, by rw [e, List.getElem?_map, hx]; rfl, hQ⟩
theorem c_impl_FindRing (ws : List (List Int)) (hrow : ∀ r ∈ ws, r.length ≤ 1048576) : PC Try.prog false 26 [.sl (ws.map (sC intC))] (.tup [.own 0, .bool (ringR ws).2]) [⟨false, 3, 1, (ringR ws).1.map intC⟩] := by
  refine pc_at Try.func26 rfl (by kernel_rfl) 87 [.tmp 2, .tmp 3] rfl rfl ?_
  repeat' (conv => whnf); first
    | (refine ix_as (f := sC intC) (m := k) rfl (by omega) (fun r hx => ?_); have hrl := hrow r (List.mem_of_getElem? hx))
    | exact side_of (by first | (simp only [List.length_map, distL_len]; omega) | fail)
    | exact side_of (by first | (refine ⟨?_, ?_⟩ <;> simp only [List.length_map, distL_len] <;> omega) | fail)
    | (refine ix_last (by first | rfl | (simp only [List.length_map]; rw [i64_wrap (by omega) (by omega)]; omega)) hL.2.2.2.1 ?_)
    | (refine ix_get (by omega) (by rw [distL_len]; omega) ?_; (try rw [distL_at (by omega)]))
    | (refine ix_as (f := sC intC) (m := cur) rfl (by omega) (fun rw hrw => ?_); have hrwl := hrow rw (List.mem_of_getElem? hrw))
    | (refine ix_as (f := intC) (m := i) rfl (by omega) (fun x hx => ?_); have hbx := okG_row (all_end hT.1 (by omega)) (u := cur) (x := x) (by rw [row_of hrw]; exact List.mem_of_getElem? hx))
    | refine side_and (side_of (one_lenC rfl rfl)) ?_
    | refine side_and (side_of (by first | (and_intros <;> first | exact Nat.le_of_ble_eq_true rfl | rfl | (intro e; exact absurd (AV.own.inj e) (by decide)) | (intro e; exact AV.noConfusion e)) | fail)) ?_
    | refine side_and (side_of (app_boundC (L := out.map intC) rfl (by (try simp only [List.length_map, List.length_append, List.length_take, List.length_set, List.length_drop]); omega) (Nat.le_of_ble_eq_true rfl))) ?_
    | exact side_of (by first | (have hp := last_pos hL.2.2.2.1; simp only [List.length_map]; rw [i64_wrap (by omega) (by omega)]; omega) | fail)
    | refine nameB_true ?_
    | refine nameB_false ?_
    | refine nameB_yes (by assumption) ?_
    | refine nameB_no (by assumption) ?_
    | refine nameB_dyes (by assumption) ?_
    | refine nameB_dno (by assumption) ?_
    | (refine nameB_dec (fun h => ?_) (fun h => ?_) <;> try simp only [List.length_map, List.length_take, List.length_append, List.length_drop, List.length_set, markList_length, midL_len, mkL_length, Int.toNat_natCast, fact_byte] at h)
    | (refine nameB_cases (fun h => ?_) (fun h => ?_) <;> try simp only [bne_iff_ne, ne_eq, bne_eq_false_iff_eq, beq_iff_eq, beq_eq_false_iff_ne, Bool.not_eq_true', Bool.not_eq_false', Bool.or_eq_true, Bool.or_eq_false_iff, List.length_map, List.length_take, List.length_append, List.length_drop, List.length_set, markList_length, midL_len, mkL_length, Int.toNat_natCast, fact_byte] at h)
    | refine splitB_true ?_
    | refine splitB_false ?_
    | (refine splitB_intro (fun h => ?_) (fun h => ?_) <;> subst h)
    | refine draw_text (by kernel_rfl) (by kernel_rfl) (by kernel_rfl) ?_
    | refine both_intro ?_ ?_
    | (show Go.Ab.Loop _ _ _; first
        | (refine Loop_at [1, 16, 17] [0] (Nat) (fun k => (ws.drop k).all (fun r => r.all fun w => inB 0 w ((ws.length : Int) - 1)) = okG ws ∧ k ≤ ws.length) (fun k => [(18, .int .i64 (k : Nat))]) (fun k => []) (fun k => ws.length - k) 0 ⟨by first | (simp_all <;> fail) | rfl | fail, trivial⟩ trivial (by (try dsimp only); first | (exact ⟨rfl, Nat.zero_le _⟩) | fail) ?_; (conv => whnf); refine side_and (side_of (by first | exact fun k => rfl | exact fun k => by simp [headOk, closedE, closedO, closedL, AV.closed, hcap.closed])) ?_; rintro k hT; try dsimp only at hT)
        | (refine Loop_at [1, 27] [0] (Nat) (fun k => ringFrom ws (ws.length - k) k = ringFrom ws ws.length 0 ∧ k ≤ ws.length) (fun k => [(28, .int .i64 (k : Nat))]) (fun k => []) (fun k => ws.length - k) 0 ⟨by first | (simp_all <;> fail) | rfl | fail, trivial⟩ trivial (by (try dsimp only); first | (exact ⟨rfl, Nat.zero_le _⟩) | fail) ?_; (conv => whnf); refine side_and (side_of (by first | exact fun k => rfl | exact fun k => by simp [headOk, closedE, closedO, closedL, AV.closed, hcap.closed])) ?_; rintro k hK; try dsimp only at hK)
        | (refine Loop_at [1, 7] [0, 49184] (Nat × Nat × List Int) (fun j => match j with | (left, cur, out) => out ++ ringG ws k left cur = ring ws k ∧ cur < ws.length ∧ D ws k cur = left + 1 ∧ out[out.length - 1]? = some (cur : Int) ∧ out.length + left ≤ 21) (fun j => match j with | (left, cur, out) => [(8, .own 57360), (9, .int .i64 left)]) (fun j => match j with | (left, cur, out) => [(57360, ⟨false, 3, 1, out.map intC⟩)]) (fun j => match j with | (left, cur, out) => left) (D ws k k - 1, k, [(k : Int)]) ⟨by first | rfl | first | rfl | exact congrArg (AV.int .i64) (pred_D (ws := ws) (k := k) (by omega) (by omega)) | exact congrArg (AV.int .i64) (wrap_pred (by omega) (by omega)) | fail, by first | first | rfl | exact congrArg (AV.int .i64) (pred_D (ws := ws) (k := k) (by omega) (by omega)) | exact congrArg (AV.int .i64) (wrap_pred (by omega) (by omega)) | rfl | fail, trivial⟩ ⟨by first | rfl | first | rfl | exact congrArg (fun e => some (AObj.mk _ _ _ e)) (app_int (leastG_end hI.1 (by omega))) | fail | fail, trivial⟩ (by (try dsimp only); first | (exact ⟨rfl, by omega, by omega, rfl, by (have hd := D_le (ws := ws) (t := k) (u := k); show 1 + _ ≤ 21; omega)⟩) | fail) ?_; (conv => whnf); refine side_and (side_of (by first | exact fun ⟨left, cur, out⟩ => rfl | exact fun ⟨left, cur, out⟩ => by simp [headOk, closedE, closedO, closedL, AV.closed, hcap.closed])) ?_; rintro ⟨left, cur, out⟩ hL; try dsimp only at hL)
        | (refine Loop_at [1, 7, 8, 9, 58, 59] [0, 49184, 57360] (Nat × Int) (fun j => match j with | (i, b) => leastG (fun x => decide (dI ws k x = left)) b (rw.drop i) = nx ws k left cur ∧ i ≤ rw.length) (fun j => match j with | (i, b) => [(10, .int .i64 b), (60, .int .i64 (i : Nat))]) (fun j => match j with | (i, b) => []) (fun j => match j with | (i, b) => rw.length - i) (0, -1) ⟨by first | rfl | rfl | fail, by first | rfl | rfl | fail, trivial⟩ trivial (by (try dsimp only); first | (exact ⟨by unfold nx; rw [row_of hrw]; rfl, Nat.zero_le _⟩) | fail) ?_; (conv => whnf); refine side_and (side_of (by first | exact fun ⟨i, b⟩ => rfl | exact fun ⟨i, b⟩ => by simp [headOk, closedE, closedO, closedL, AV.closed, hcap.closed])) ?_; rintro ⟨i, b⟩ hI; try dsimp only at hI))
    | (show Go.Ab.Again _ _ _ _ _ _ _ _ _ _ _; first
        | refine Again_of (k + 1) ⟨by first | rfl | exact i64_next (by omega) | (simp_all <;> fail) | fail, trivial⟩ trivial (by first | (and_intros <;> first | rfl | trivial) | fail) (by first | (and_intros <;> first | rfl | trivial) | fail) rfl rfl rfl (by (try dsimp only); first | (exact ⟨all_go hT.1 hx (any_row_no (by assumption)), by omega⟩) | fail) (show _ < _ by (try dsimp only); omega)
        | refine Again_of (k + 1) ⟨by first | rfl | exact i64_next (by omega) | (simp_all <;> fail) | fail, trivial⟩ trivial (by first | (and_intros <;> first | rfl | trivial) | fail) (by first | (and_intros <;> first | rfl | trivial) | fail) rfl rfl rfl (by (try dsimp only); first | (exact ⟨ringFrom_go hK.1 (by omega) (by omega), by omega⟩) | fail) (show _ < _ by (try dsimp only); omega)
        | refine Again_of (left - 1, (nx ws k left cur).toNat, out ++ [nx ws k left cur]) ⟨by first | rfl | first | rfl | exact congrArg (AV.int .i64) (pred_D (ws := ws) (k := k) (by omega) (by omega)) | exact congrArg (AV.int .i64) (wrap_pred (by omega) (by omega)) | fail, by first | first | rfl | exact congrArg (AV.int .i64) (pred_D (ws := ws) (k := k) (by omega) (by omega)) | exact congrArg (AV.int .i64) (wrap_pred (by omega) (by omega)) | rfl | fail, trivial⟩ ⟨by first | rfl | first | rfl | exact congrArg (fun e => some (AObj.mk _ _ _ e)) (app_int (leastG_end hI.1 (by omega))) | fail | fail, trivial⟩ (by first | (and_intros <;> first | rfl | trivial) | fail) (by first | (and_intros <;> first | rfl | trivial) | fail) rfl rfl rfl (by (try dsimp only); first | ((have hn := nx_facts (all_end hT.1 (by omega)) (by omega) (by omega) hL.2.2.1; exact ⟨ringG_go hL.1 (by omega), hn.2.1, by omega, by rw [Int.toNat_of_nonneg hn.1]; exact get_last, by rw [List.length_append]; show out.length + 1 + _ ≤ _; omega⟩)) | fail) (show _ < _ by (try dsimp only); omega)
        | refine Again_of (i + 1, x) ⟨by first | rfl | rfl | fail, by first | rfl | exact i64_next (by omega) | rfl | fail, trivial⟩ trivial (by first | (and_intros <;> first | rfl | trivial) | fail) (by first | (and_intros <;> first | rfl | trivial) | fail) rfl rfl rfl (by (try dsimp only); first | (first | exact ⟨leastG_hit hI.1 hx (by have e : dI ws k x = (D ws k x.toNat : Int) := rfl; exact decide_eq_true (by omega)) (by omega), by omega⟩ | exact ⟨leastG_skip hI.1 hx (by first | (right; omega) | (left; have e : dI ws k x = (D ws k x.toNat : Int) := rfl; exact decide_eq_false (by omega))), by omega⟩) | fail) (show _ < _ by (try dsimp only); omega)
        | refine Again_of (i + 1, b) ⟨by first | rfl | rfl | fail, by first | rfl | exact i64_next (by omega) | rfl | fail, trivial⟩ trivial (by first | (and_intros <;> first | rfl | trivial) | fail) (by first | (and_intros <;> first | rfl | trivial) | fail) rfl rfl rfl (by (try dsimp only); first | (first | exact ⟨leastG_hit hI.1 hx (by have e : dI ws k x = (D ws k x.toNat : Int) := rfl; exact decide_eq_true (by omega)) (by omega), by omega⟩ | exact ⟨leastG_skip hI.1 hx (by first | (right; omega) | (left; have e : dI ws k x = (D ws k x.toNat : Int) := rfl; exact decide_eq_false (by omega))), by omega⟩) | fail) (show _ < _ by (try dsimp only); omega))
    | (show Go.Ab.CallA _ _ _ _ _ _ _; first
        | refine Call0 (c_ContainsFunc_int r 92 [.rp [.sl (ws.map (sC intC))]] (fun w => !inB 0 w ((ws.length : Int) - 1)) (by omega) ⟨fun _ => rfl, fun _ => rfl, fun _ => rfl, fun _ => rfl, fun _ => rfl⟩ (fun y hy => c_impl_FindRing_1 ws y (by omega))) rfl rfl ?_
        | refine CallF (c_impl_distances ws k (all_end hT.1 (by omega)) (by omega) (fun r hr => Nat.le_trans (hrow r hr) (by decide))) rfl rfl rfl (Nat.le_of_ble_eq_true rfl) ?_)
    | (show Go.Ab.CallD _ _ _ _ _ _ _; first
        | refine CallD0 (c_ContainsFunc_int r 92 [.rp [.sl (ws.map (sC intC))]] (fun w => !inB 0 w ((ws.length : Int) - 1)) (by omega) ⟨fun _ => rfl, fun _ => rfl, fun _ => rfl, fun _ => rfl, fun _ => rfl⟩ (fun y hy => c_impl_FindRing_1 ws y (by omega))) rfl rfl rfl ?_
        | refine CallDF (c_impl_distances ws k (all_end hT.1 (by omega)) (by omega) (fun r hr => Nat.le_trans (hrow r hr) (by decide))) rfl rfl ⟨rfl, rfl⟩ ?_)
    | refine ix_map_at hx ?_
    | refine ix_map_at hy ?_
    | refine sl_pre (by omega) (fun _ => rfl) ?_
    | refine sl_suf (by omega) (fun _ => rfl) ?_
    | (refine ix_map2 hx (by omega) (by (try simp only [List.length_take]); omega) (fun y hy => ?_); try simp only [Int.toNat_natCast] at hy)
    | (refine ix_map (by omega) (by (try simp only [List.length_take]); omega) (fun x hx => ?_); try simp only [Int.toNat_natCast] at hx)
    | refine side_and (side_of (by first | (and_intros <;> first | exact Nat.le_of_ble_eq_true rfl | rfl | omega | (simp only [List.length_map, List.length_append, List.length_replicate, List.length_take, List.length_cons, List.length_nil, List.length_drop, List.length_set, markList_length, midL_len, mkL_length]; omega) | exact bytes_ok (Nat.le_of_ble_eq_true rfl) (by omega) (by simp only [List.length_map, List.length_append, List.length_replicate, List.length_take, List.length_cons, List.length_nil, List.length_drop, List.length_set, markList_length, midL_len, mkL_length]; omega) | exact bytes_okN (Nat.le_of_ble_eq_true rfl) (by simp only [List.length_map, List.length_append, List.length_replicate, List.length_take, List.length_cons, List.length_nil, List.length_drop, List.length_set, markList_length, midL_len, mkL_length]; omega)) | fail)) ?_
    | refine nilB_intro (fun h => ?_) ?_
    | refine side_and (side_of (show Go.Ab.structOk _ _ = true by kernel_rfl)) ?_
    | refine side_and (side_of (map_len (fun _ => rfl))) ?_
    | refine side_and (side_of (map_one (fun _ => rfl) _)) ?_
    | refine side_and ?_ ?_
    | refine LoadK_of rfl rfl ?_
    | refine LoadD_cel rfl rfl rfl rfl ?_
    | refine LoadD_of rfl ?_
    | refine StoreD_of rfl rfl rfl ?_
    | refine AppD_of rfl (by and_intros <;> first | rfl | decide) (by simp only [List.length_map, List.length_append, List.length_take, List.length_cons, List.length_nil]; first | (refine ⟨by omega, ?_⟩; refine Nat.le_trans (Nat.mul_le_mul_left _ (show _ ≤ 512 by decide)) ?_; omega) | fail) ?_
    | refine AppN_of rfl rfl (by and_intros <;> rfl) (by simp only [List.length_map, List.length_append, List.length_take, List.length_cons, List.length_nil]; first | (refine ⟨by omega, ?_⟩; refine Nat.le_trans (Nat.mul_le_mul_left _ (show _ ≤ 512 by decide)) ?_; omega) | fail) ?_
    | (show False; omega)
  all_goals
    conv => whnf
    first
    | (have e := ringR_no (ws := ws) (.inr (by omega)); rw [e]; exact OutA_nil 2 1 3 1 rfl rfl (by decide) (OutA_ids rfl rfl rfl ⟨⟨_, _, _, rfl, rfl⟩, trivial⟩ rfl (.inr (flat_one (flat_map (fun _ => rfl) _)))))
    | (have e := ringR_no (ws := ws) (.inl (all_no hT.1 hx (by first | assumption | exact any_row (by assumption)))); rw [e]; exact OutA_nil 2 1 3 1 rfl rfl (by decide) (OutA_ids rfl rfl rfl ⟨⟨_, _, _, rfl, rfl⟩, trivial⟩ rfl (.inr (flat_one (flat_map (fun _ => rfl) _)))))
    | (have e := (ringR_yes (all_end hT.1 (by omega)) (by omega)).trans (ringFrom_end hK.1 (by omega)); rw [e]; exact OutA_nil 2 1 3 1 rfl rfl (by decide) (OutA_ids rfl rfl rfl ⟨⟨_, _, _, rfl, rfl⟩, trivial⟩ rfl (.inr (flat_one (flat_map (fun _ => rfl) _)))))
    | (have e := (ringR_yes (all_end hT.1 (by omega)) (by omega)).trans (ringFrom_hit hK.1 (by omega) (by omega)); rw [e]; exact OutA_ids rfl rfl rfl ⟨⟨_, _, _, rfl, congrArg (fun l => AObj.mk _ _ _ (l.map intC)) (ringG_end hL.1 (by omega)).symm⟩, trivial⟩ rfl (.inr (flat_one (flat_map (fun _ => rfl) _))))
theorem nv_zero {ws : List (List Int)} {k l u : Nat} (h : ¬ nvF ws k l u = (k : Int)) : 0 < l := by
  unfold nvF at h
  by_cases hl : l = 0
  · rw [if_pos hl] at h; exact absurd rfl h
  · omega
theorem nv_pos {ws : List (List Int)} {k l u : Nat} (h : 0 < l) : nvF ws k l u = nx ws k l u := by unfold nvF; rw [if_neg (by omega)]
theorem nv_end {ws : List (List Int)} (hg : okG ws = true) {k l u : Nat} (hk : k < ws.length) (hd : D ws k u = l + 1) (h : nvF ws k l u = (k : Int)) : l = 0 := by
  by_cases hl : l = 0
  · exact hl
  · rw [nv_pos (by omega)] at h
    have := nx_facts hg hk (by omega) hd
    omega
theorem c_spec_FindRing (ws : List (List Int)) (hrow : ∀ r ∈ ws, r.length ≤ 1048576) : PC Try.prog false 24 [.sl (ws.map (sC intC))] (.tup [.own 0, .bool (ringR ws).2]) [⟨false, 3, 1, (ringR ws).1.map intC⟩] := by
  refine pc_at Try.func24 rfl (by kernel_rfl) 59 [.tmp 2, .tmp 3] rfl rfl ?_
  repeat' (conv => whnf); first
    | exact side_of (by first | (simp only [List.length_map, farL_len]; omega) | fail)
    | exact side_of (by first | (refine ⟨?_, ?_⟩ <;> simp only [List.length_map, farL_len] <;> omega) | fail)
    | (refine ix_as (f := sC intC) (m := (nx ws k left cur).toNat) (by have hz := nv_zero (ws := ws) (k := k) (l := left) (u := cur) (by assumption); have hn := nx_facts (all_end hT.1 (by omega)) (by omega) hz hL.2.2.1; rw [nv_pos hz]; omega) (by have hz := nv_zero (ws := ws) (k := k) (l := left) (u := cur) (by assumption); have hn := nx_facts (all_end hT.1 (by omega)) (by omega) hz hL.2.2.1; exact hn.2.1) (fun rw hrw => ?_); have hrwl := hrow rw (List.mem_of_getElem? hrw))
    | (refine ix_as (f := sC intC) (m := k) rfl (by omega) (fun r hr => ?_); have hx := hr; have hrl := hrow r (List.mem_of_getElem? hr))
    | refine side_and (side_of (one_lenC rfl rfl)) ?_
    | refine side_and (side_of (by first | (and_intros <;> first | exact Nat.le_of_ble_eq_true rfl | rfl | (intro e; exact absurd (AV.own.inj e) (by decide)) | (intro e; exact AV.noConfusion e)) | fail)) ?_
    | refine side_and (side_of (app_boundC (L := out.map intC) rfl (by (try simp only [List.length_map, List.length_append, List.length_take, List.length_set, List.length_drop]); omega) (Nat.le_of_ble_eq_true rfl))) ?_
    | refine nameB_true ?_
    | refine nameB_false ?_
    | refine nameB_yes (by assumption) ?_
    | refine nameB_no (by assumption) ?_
    | refine nameB_dyes (by assumption) ?_
    | refine nameB_dno (by assumption) ?_
    | (refine nameB_dec (fun h => ?_) (fun h => ?_) <;> try simp only [List.length_map, List.length_take, List.length_append, List.length_drop, List.length_set, markList_length, midL_len, mkL_length, Int.toNat_natCast, fact_byte] at h)
    | (refine nameB_cases (fun h => ?_) (fun h => ?_) <;> try simp only [bne_iff_ne, ne_eq, bne_eq_false_iff_eq, beq_iff_eq, beq_eq_false_iff_ne, Bool.not_eq_true', Bool.not_eq_false', Bool.or_eq_true, Bool.or_eq_false_iff, List.length_map, List.length_take, List.length_append, List.length_drop, List.length_set, markList_length, midL_len, mkL_length, Int.toNat_natCast, fact_byte] at h)
    | refine splitB_true ?_
    | refine splitB_false ?_
    | (refine splitB_intro (fun h => ?_) (fun h => ?_) <;> subst h)
    | refine draw_text (by kernel_rfl) (by kernel_rfl) (by kernel_rfl) ?_
    | refine both_intro ?_ ?_
    | (show Go.Ab.Loop _ _ _; first
        | (refine Loop_at [0, 13, 14] [] (Nat) (fun k => (ws.drop k).all (fun r => r.all fun w => inB 0 w ((ws.length : Int) - 1)) = okG ws ∧ k ≤ ws.length) (fun k => [(15, .int .i64 (k : Nat))]) (fun k => []) (fun k => ws.length - k) 0 ⟨by first | (simp_all <;> fail) | rfl | fail, trivial⟩ trivial (by (try dsimp only); first | (exact ⟨rfl, Nat.zero_le _⟩) | fail) ?_; (conv => whnf); refine side_and (side_of (by first | exact fun k => rfl | exact fun k => by simp [headOk, closedE, closedO, closedL, AV.closed, hcap.closed])) ?_; rintro k hT; try dsimp only at hT)
        | (refine Loop_at [0, 27] [] (Nat) (fun k => ringFrom ws (ws.length - k) k = ringFrom ws ws.length 0 ∧ k ≤ ws.length) (fun k => [(28, .int .i64 (k : Nat))]) (fun k => []) (fun k => ws.length - k) 0 ⟨by first | (simp_all <;> fail) | rfl | fail, trivial⟩ trivial (by (try dsimp only); first | (exact ⟨rfl, Nat.zero_le _⟩) | fail) ?_; (conv => whnf); refine side_and (side_of (by first | exact fun k => rfl | exact fun k => by simp [headOk, closedE, closedO, closedL, AV.closed, hcap.closed])) ?_; rintro k hK; try dsimp only at hK)
        | (refine Loop_at [0, 6, 7] [49184] (Nat × Nat × List Int) (fun j => match j with | (left, cur, out) => out ++ ringG ws k left cur = ring ws k ∧ cur < ws.length ∧ D ws k cur = left + 1 ∧ out.length + left ≤ 21) (fun j => match j with | (left, cur, out) => [(8, .int .i64 (nvF ws k left cur)), (9, .own 61456)]) (fun j => match j with | (left, cur, out) => [(61456, ⟨false, 3, 1, out.map intC⟩)]) (fun j => match j with | (left, cur, out) => left) (D ws k k - 1, k, [(k : Int)]) ⟨by first | first | rfl | (have hd0 : ¬ D ws k k = 0 := (fun e => absurd ((next_neg (all_end hT.1 (by omega)) (by omega) hr).2 e) (by assumption)); exact congrArg (AV.int .i64) (next_nv (all_end hT.1 (by omega)) (by omega) hr (by omega))) | (have hz := nv_zero (ws := ws) (k := k) (l := left) (u := cur) (by assumption); have hn := nx_facts (all_end hT.1 (by omega)) (by omega) hz hL.2.2.1; exact congrArg (AV.int .i64) (next_nv (all_end hT.1 (by omega)) (by omega) hrw (by omega))) | rfl | fail, by first | rfl | first | rfl | (have hd0 : ¬ D ws k k = 0 := (fun e => absurd ((next_neg (all_end hT.1 (by omega)) (by omega) hr).2 e) (by assumption)); exact congrArg (AV.int .i64) (next_nv (all_end hT.1 (by omega)) (by omega) hr (by omega))) | (have hz := nv_zero (ws := ws) (k := k) (l := left) (u := cur) (by assumption); have hn := nx_facts (all_end hT.1 (by omega)) (by omega) hz hL.2.2.1; exact congrArg (AV.int .i64) (next_nv (all_end hT.1 (by omega)) (by omega) hrw (by omega))) | fail, trivial⟩ ⟨by first | rfl | first | rfl | exact congrArg (fun e => some (AObj.mk _ _ _ e)) (app_int (nv_pos (nv_zero (by assumption)))) | fail | fail, trivial⟩ (by (try dsimp only); first | ((have hd0 : ¬ D ws k k = 0 := (fun e => absurd ((next_neg (all_end hT.1 (by omega)) (by omega) hr).2 e) (by assumption)); exact ⟨rfl, by omega, by omega, by (have hd := D_le (ws := ws) (t := k) (u := k); show 1 + _ ≤ 21; omega)⟩)) | fail) ?_; (conv => whnf); refine side_and (side_of (by first | exact fun ⟨left, cur, out⟩ => rfl | exact fun ⟨left, cur, out⟩ => by simp [headOk, closedE, closedO, closedL, AV.closed, hcap.closed])) ?_; rintro ⟨left, cur, out⟩ hL; try dsimp only at hL))
    | (show Go.Ab.Again _ _ _ _ _ _ _ _ _ _ _; first
        | refine Again_of (k + 1) ⟨by first | rfl | exact i64_next (by omega) | (simp_all <;> fail) | fail, trivial⟩ trivial (by first | (and_intros <;> first | rfl | trivial) | fail) (by first | (and_intros <;> first | rfl | trivial) | fail) rfl rfl rfl (by (try dsimp only); first | (exact ⟨all_go hT.1 hx (by assumption), by omega⟩) | fail) (show _ < _ by (try dsimp only); omega)
        | refine Again_of (k + 1) ⟨by first | rfl | exact i64_next (by omega) | (simp_all <;> fail) | fail, trivial⟩ trivial (by first | (and_intros <;> first | rfl | trivial) | fail) (by first | (and_intros <;> first | rfl | trivial) | fail) rfl rfl rfl (by (try dsimp only); first | (exact ⟨ringFrom_go hK.1 (by omega) ((next_neg (all_end hT.1 (by omega)) (by omega) hr).1 (by assumption)), by omega⟩) | fail) (show _ < _ by (try dsimp only); omega)
        | refine Again_of (left - 1, (nx ws k left cur).toNat, out ++ [nx ws k left cur]) ⟨by first | first | rfl | (have hd0 : ¬ D ws k k = 0 := (fun e => absurd ((next_neg (all_end hT.1 (by omega)) (by omega) hr).2 e) (by assumption)); exact congrArg (AV.int .i64) (next_nv (all_end hT.1 (by omega)) (by omega) hr (by omega))) | (have hz := nv_zero (ws := ws) (k := k) (l := left) (u := cur) (by assumption); have hn := nx_facts (all_end hT.1 (by omega)) (by omega) hz hL.2.2.1; exact congrArg (AV.int .i64) (next_nv (all_end hT.1 (by omega)) (by omega) hrw (by omega))) | rfl | fail, by first | rfl | first | rfl | (have hd0 : ¬ D ws k k = 0 := (fun e => absurd ((next_neg (all_end hT.1 (by omega)) (by omega) hr).2 e) (by assumption)); exact congrArg (AV.int .i64) (next_nv (all_end hT.1 (by omega)) (by omega) hr (by omega))) | (have hz := nv_zero (ws := ws) (k := k) (l := left) (u := cur) (by assumption); have hn := nx_facts (all_end hT.1 (by omega)) (by omega) hz hL.2.2.1; exact congrArg (AV.int .i64) (next_nv (all_end hT.1 (by omega)) (by omega) hrw (by omega))) | fail, trivial⟩ ⟨by first | rfl | first | rfl | exact congrArg (fun e => some (AObj.mk _ _ _ e)) (app_int (nv_pos (nv_zero (by assumption)))) | fail | fail, trivial⟩ (by first | (and_intros <;> first | rfl | trivial) | fail) (by first | (and_intros <;> first | rfl | trivial) | fail) rfl rfl rfl (by (try dsimp only); first | ((have hz := nv_zero (ws := ws) (k := k) (l := left) (u := cur) (by assumption); have hn := nx_facts (all_end hT.1 (by omega)) (by omega) hz hL.2.2.1; exact ⟨ringG_go hL.1 hz, hn.2.1, by omega, by rw [List.length_append]; show out.length + 1 + _ ≤ _; omega⟩)) | fail) (show _ < _ by (try dsimp only); (have hz := nv_zero (ws := ws) (k := k) (l := left) (u := cur) (by assumption); omega)))
    | (show Go.Ab.CallA _ _ _ _ _ _ _; first
        | refine Call0 (c_spec_l1All r 0 ((ws.length : Int) - 1) (by omega)) (congrArg (fun n : Int => [AV.sl (r.map intC), AV.int .i64 0, AV.int .i64 n]) (show IntKind.i64.wrap (((ws.map (sC intC)).length : Int) - 1) = (ws.length : Int) - 1 from (by rw [List.length_map]; exact i64_wrap (by omega) (by omega)))) rfl ?_
        | refine CallF (c_spec_l12Far ws k (all_end hT.1 (by omega)) (by omega) (by omega) hrow) rfl rfl rfl (Nat.le_of_ble_eq_true rfl) ?_
        | refine Call0 (c_spec_l12Next rw (farL ws k) (fun y hy => by rw [farL_len]; exact okG_row (all_end hT.1 (by omega)) (u := (nx ws k left cur).toNat) (x := y) (by rw [row_of hrw]; exact hy)) (by omega)) rfl rfl ?_
        | refine Call0 (c_spec_l12Next r (farL ws k) (fun y hy => by rw [farL_len]; exact okG_row (all_end hT.1 (by omega)) (u := k) (x := y) (by rw [row_of hr]; exact hy)) (by omega)) rfl rfl ?_)
    | refine ix_map_at hx ?_
    | refine ix_map_at hy ?_
    | refine sl_pre (by omega) (fun _ => rfl) ?_
    | refine sl_suf (by omega) (fun _ => rfl) ?_
    | (refine ix_map2 hx (by omega) (by (try simp only [List.length_take]); omega) (fun y hy => ?_); try simp only [Int.toNat_natCast] at hy)
    | (refine ix_map (by omega) (by (try simp only [List.length_take]); omega) (fun x hx => ?_); try simp only [Int.toNat_natCast] at hx)
    | refine side_and (side_of (by first | (and_intros <;> first | exact Nat.le_of_ble_eq_true rfl | rfl | omega | (simp only [List.length_map, List.length_append, List.length_replicate, List.length_take, List.length_cons, List.length_nil, List.length_drop, List.length_set, markList_length, midL_len, mkL_length]; omega) | exact bytes_ok (Nat.le_of_ble_eq_true rfl) (by omega) (by simp only [List.length_map, List.length_append, List.length_replicate, List.length_take, List.length_cons, List.length_nil, List.length_drop, List.length_set, markList_length, midL_len, mkL_length]; omega) | exact bytes_okN (Nat.le_of_ble_eq_true rfl) (by simp only [List.length_map, List.length_append, List.length_replicate, List.length_take, List.length_cons, List.length_nil, List.length_drop, List.length_set, markList_length, midL_len, mkL_length]; omega)) | fail)) ?_
    | refine nilB_intro (fun h => ?_) ?_
    | refine side_and (side_of (show Go.Ab.structOk _ _ = true by kernel_rfl)) ?_
    | refine side_and (side_of (map_len (fun _ => rfl))) ?_
    | refine side_and (side_of (map_one (fun _ => rfl) _)) ?_
    | refine side_and ?_ ?_
    | refine LoadK_of rfl rfl ?_
    | refine LoadD_cel rfl rfl rfl rfl ?_
    | refine LoadD_of rfl ?_
    | refine StoreD_of rfl rfl rfl ?_
    | refine AppD_of rfl (by and_intros <;> first | rfl | decide) (by simp only [List.length_map, List.length_append, List.length_take, List.length_cons, List.length_nil]; first | (refine ⟨by omega, ?_⟩; refine Nat.le_trans (Nat.mul_le_mul_left _ (show _ ≤ 512 by decide)) ?_; omega) | fail) ?_
    | refine AppN_of rfl rfl (by and_intros <;> rfl) (by simp only [List.length_map, List.length_append, List.length_take, List.length_cons, List.length_nil]; first | (refine ⟨by omega, ?_⟩; refine Nat.le_trans (Nat.mul_le_mul_left _ (show _ ≤ 512 by decide)) ?_; omega) | fail) ?_
    | (show False; omega)
  all_goals
    conv => whnf
    first
    | (have e := ringR_no (ws := ws) (.inr (by omega)); rw [e]; exact OutA_nil 2 1 3 1 rfl rfl (by decide) (OutA_ids rfl rfl rfl ⟨⟨_, _, _, rfl, rfl⟩, trivial⟩ rfl (.inr (flat_one (flat_map (fun _ => rfl) _)))))
    | (have e := ringR_no (ws := ws) (.inl (all_no hT.1 hx (by assumption))); rw [e]; exact OutA_nil 2 1 3 1 rfl rfl (by decide) (OutA_ids rfl rfl rfl ⟨⟨_, _, _, rfl, rfl⟩, trivial⟩ rfl (.inr (flat_one (flat_map (fun _ => rfl) _)))))
    | (have e := (ringR_yes (all_end hT.1 (by omega)) (by omega)).trans (ringFrom_end hK.1 (by omega)); rw [e]; exact OutA_nil 2 1 3 1 rfl rfl (by decide) (OutA_ids rfl rfl rfl ⟨⟨_, _, _, rfl, rfl⟩, trivial⟩ rfl (.inr (flat_one (flat_map (fun _ => rfl) _)))))
    | (have hd0 : ¬ D ws k k = 0 := (fun e => absurd ((next_neg (all_end hT.1 (by omega)) (by omega) hr).2 e) (by assumption)); have e := (ringR_yes (all_end hT.1 (by omega)) (by omega)).trans (ringFrom_hit hK.1 (by omega) hd0); rw [e]; exact OutA_ids rfl rfl rfl ⟨⟨_, _, _, rfl, congrArg (fun l => AObj.mk _ _ _ (l.map intC)) (ringG_end hL.1 (nv_end (all_end hT.1 (by omega)) (by omega) hL.2.2.1 (by first | assumption | (simp at *; assumption)))).symm⟩, trivial⟩ rfl (.inr (flat_one (flat_map (fun _ => rfl) _))))
theorem law_FindRing (a : List (List Int)) (W : List Int) (b : Bool) (hok : okL (okL okT) a) (hW : okL okT W) (hww : cntL cnt1 W ≤ 1048576000)
    (hS : wL List.length a ≤ 1048576 → PC Try.prog false 24 [.sl (a.map (sC intC))] (.tup [.own 0, .bool b]) [⟨false, 3, 1, W.map intC⟩])
    (hI : wL List.length a ≤ 1048576 → PC Try.prog false 26 [.sl (a.map (sC intC))] (.tup [.own 0, .bool b]) [⟨false, 3, 1, W.map intC⟩]) :
    PC Try.prog false 5 [.sl (a.map (sC intC))] (.bool true) [] := by
  have hw2 : a.length ≤ wL List.length a := wL_len
  have hm1 := cntL_w100 (cnt := cntL cnt1) (w := List.length) (fun y => by rw [cntL_cnt1]; omega) a
  have hm2 := cntL_len_leaf W
  refine pc_at Try.func5 rfl (by kernel_rfl) 96 [.tmp 2] rfl rfl ?_
  repeat' (conv => whnf); first
    | refine nameB_self (b := b) ?_
    | refine nameB_no (b := !(b == b)) (by simp) ?_
    | refine nameB_dno (by omega) ?_
    | refine nameB_true ?_
    | refine nameB_false ?_
    | refine nameB_yes (by assumption) ?_
    | refine nameB_no (by assumption) ?_
    | refine nameB_dyes (by assumption) ?_
    | refine nameB_dno (by assumption) ?_
    | (refine nameB_dec (fun h => ?_) (fun h => ?_) <;> try simp only [List.length_map, List.length_take, List.length_append, List.length_drop, List.length_set, markList_length, midL_len, mkL_length, Int.toNat_natCast, fact_byte] at h)
    | (refine nameB_cases (fun h => ?_) (fun h => ?_) <;> try simp only [bne_iff_ne, ne_eq, bne_eq_false_iff_eq, beq_iff_eq, beq_eq_false_iff_ne, Bool.not_eq_true', Bool.not_eq_false', Bool.or_eq_true, Bool.or_eq_false_iff, List.length_map, List.length_take, List.length_append, List.length_drop, List.length_set, markList_length, midL_len, mkL_length, Int.toNat_natCast, fact_byte] at h)
    | refine splitB_true ?_
    | refine splitB_false ?_
    | (refine splitB_intro (fun h => ?_) (fun h => ?_) <;> subst h)
    | refine draw_text (by kernel_rfl) (by kernel_rfl) (by kernel_rfl) ?_
    | refine both_intro ?_ ?_
    | (show Go.Ab.CallA _ _ _ _ _ _ _; first
        | (by_cases hn : (1048576 : Int) - ((wL List.length a : Nat) : Int) < 0 <;> first | refine Call0 (pc_szneg (c_laws_szIntSS a (1048576 : Int) (by omega) (by omega) hok) hn) rfl rfl ?_ | refine Call0 (pc_szpos (c_laws_szIntSS a (1048576 : Int) (by omega) (by omega) hok) hn) rfl rfl ?_)
        | refine CallF (hS (by omega)) rfl rfl rfl (Nat.le_of_ble_eq_true rfl) ?_
        | refine CallF (hI (by omega)) rfl rfl rfl (Nat.le_of_ble_eq_true rfl) ?_
        | refine CallF (c_laws_toIntSS a (by omega)) rfl rfl rfl (Nat.le_of_ble_eq_true rfl) ?_
        | refine Call0 (pc_true (c_laws_eqIntS W W hW) rfl) rfl rfl ?_
        | refine Call0 (pc_true (c_laws_eqIntSS a a hok) rfl) rfl rfl ?_
        | refine CallMs (m_laws_markIntSS a 1 (by omega) (by omega) (by omega)) [] trivial rfl rfl ?_
        | refine CallM1 (m_laws_markIntSS a 1 (by omega) (by omega) (by omega)) [] trivial rfl rfl ?_
        | refine CallMs (m_laws_markIntS W 1 (by omega) (by omega) (by omega)) [(28688, [.leaf])] ⟨⟨_, _, _, rfl, by first | exact prom_map (fun _ => rfl) | exact prom_nil⟩, trivial⟩ rfl rfl ?_
        | refine CallM1 (m_laws_markIntS W 1 (by omega) (by omega) (by omega)) [(28688, [.leaf])] ⟨⟨_, _, _, rfl, by first | exact prom_map (fun _ => rfl) | exact prom_nil⟩, trivial⟩ rfl rfl ?_
        | refine Call0 (c_laws_heldIntS W 1 (by omega) (by omega) (by omega)) rfl rfl ?_)
    | refine ix_map_at hx ?_
    | refine ix_map_at hy ?_
    | refine sl_pre (by omega) (fun _ => rfl) ?_
    | refine sl_suf (by omega) (fun _ => rfl) ?_
    | (refine ix_map2 hx (by omega) (by (try simp only [List.length_take]); omega) (fun y hy => ?_); try simp only [Int.toNat_natCast] at hy)
    | (refine ix_map (by omega) (by (try simp only [List.length_take]); omega) (fun x hx => ?_); try simp only [Int.toNat_natCast] at hx)
    | refine side_and (side_of (by first | (and_intros <;> first | exact Nat.le_of_ble_eq_true rfl | rfl | omega | (simp only [List.length_map, List.length_append, List.length_replicate, List.length_take, List.length_cons, List.length_nil, List.length_drop, List.length_set, markList_length, midL_len, mkL_length]; omega) | exact bytes_ok (Nat.le_of_ble_eq_true rfl) (by omega) (by simp only [List.length_map, List.length_append, List.length_replicate, List.length_take, List.length_cons, List.length_nil, List.length_drop, List.length_set, markList_length, midL_len, mkL_length]; omega) | exact bytes_okN (Nat.le_of_ble_eq_true rfl) (by simp only [List.length_map, List.length_append, List.length_replicate, List.length_take, List.length_cons, List.length_nil, List.length_drop, List.length_set, markList_length, midL_len, mkL_length]; omega)) | fail)) ?_
    | refine nilB_intro (fun h => ?_) ?_
    | refine side_and (side_of (show Go.Ab.structOk _ _ = true by kernel_rfl)) ?_
    | refine side_and (side_of (map_len (fun _ => rfl))) ?_
    | refine side_and (side_of (map_one (fun _ => rfl) _)) ?_
    | refine side_and ?_ ?_
    | refine LoadK_of rfl rfl ?_
    | refine LoadD_cel rfl rfl rfl rfl ?_
    | refine LoadD_of rfl ?_
    | refine StoreD_of rfl rfl rfl ?_
    | refine AppD_of rfl (by and_intros <;> first | rfl | decide) (by simp only [List.length_map, List.length_append, List.length_take, List.length_cons, List.length_nil]; first | (refine ⟨by omega, ?_⟩; refine Nat.le_trans (Nat.mul_le_mul_left _ (show _ ≤ 512 by decide)) ?_; omega) | fail) ?_
    | refine AppN_of rfl rfl (by and_intros <;> rfl) (by simp only [List.length_map, List.length_append, List.length_take, List.length_cons, List.length_nil]; first | (refine ⟨by omega, ?_⟩; refine Nat.le_trans (Nat.mul_le_mul_left _ (show _ ≤ 512 by decide)) ?_; omega) | fail) ?_
    | (show False; omega)
  all_goals
    conv => whnf
    refine OutA_plain rfl rfl ?_
    first | rfl | (exfalso; omega) | (exfalso; simp at * <;> omega)
theorem ringG_len {ws : List (List Int)} {t : Nat} : ∀ (l u : Nat), (ringG ws t l u).length = l
  | 0, _ => rfl
  | l + 1, u => by unfold ringG; rw [List.length_cons, ringG_len l]
theorem ringFrom_len {ws : List (List Int)} : ∀ (f k : Nat), (ringFrom ws f k).1.length ≤ ws.length + 1
  | 0, _ => Nat.zero_le _
  | f + 1, k => by
    unfold ringFrom
    split
    · exact ringFrom_len f (k + 1)
    · have := D_le (ws := ws) (t := k) (u := k)
      show (ring ws k).length ≤ _
      unfold ring
      rw [List.length_cons, ringG_len]
      omega
theorem ringR_len {ws : List (List Int)} : (ringR ws).1.length ≤ 21 := by
  unfold ringR
  split
  · rename_i h
    have := ringFrom_len (ws := ws) ws.length 0
    omega
  · exact Nat.zero_le _
theorem c_laws_FnExactFindRing (a : List (List Int)) (hok : okL (okL okT) a) : PC Try.prog false 5 [.sl (a.map (sC intC))] (.bool true) [] := by
  by_cases hw : wL List.length a ≤ 1048576
  · have hrow : ∀ r ∈ a, r.length ≤ 1048576 := fun r hr => Nat.le_trans (wL_mem (w := List.length) hr).2 hw
    have hl := ringR_len (ws := a)
    exact law_FindRing a (ringR a).1 (ringR a).2 hok ⟨by omega, fun _ _ => trivial⟩ (by rw [cntL_cnt1]; omega) (fun _ => c_spec_FindRing a hrow) (fun _ => c_impl_FindRing a hrow)
  · exact law_FindRing a [] false hok ⟨Nat.zero_le _, fun _ h => by cases h⟩ (Nat.zero_le _) (fun h => absurd h hw) (fun h => absurd h hw)
end Go.Proofs.Ytfbclbdjpolpnaa
