/-
  Keys, values and writes: what the functions on them give.
  No condition.
-/
import Derived.Test.YthbheejeloomjaaGreatDoorCuts
import Derived.Test.YthbheejeloomjaaGreatDoorTypesA
import Derived.Test.YthbheejeloomjaaGreatDoorM4
namespace Go.Proofs.YthbheejeloomjaaGreatDoor
open Go.Ab
set_option linter.unusedSimpArgs false
set_option maxRecDepth 20000
set_option maxHeartbeats 2000000
set_option linter.unusedVariables false

def prevB {α : Type} (r : α → α → Bool) (pre : List α) (x : α) : Bool := match pre.getLast? with | none => true | some y => r y x
theorem prevB_zero {α : Type} {r : α → α → Bool} {xs : List α} {k : Nat} {x : α} (hk : ¬ (k : Int) > 0) : prevB r (xs.take k) x = true := by
  obtain rfl : k = 0 := by omega
  simp [prevB]
theorem prevB_pos {α : Type} {r : α → α → Bool} {xs : List α} {k : Nat} {x y : α} (hk : (k : Int) > 0) (hy : xs[k - 1]? = some y) : prevB r (xs.take k) x = r y x := by
  obtain ⟨k, rfl⟩ : ∃ m, k = m + 1 := ⟨k - 1, by omega⟩
  simp only [Nat.add_sub_cancel] at hy
  rw [take_get hy]
  simp [prevB]
def okVal (s : List UInt8) : Bool := decide ((s.length : Int) ≤ 24) && okBytes s [46, 45, 44, 95]
def okStored (v : List UInt8) (g : Bool) : Bool := okVal v && !(g && !(v == []))
theorem c_impl_GoodVal (s : List UInt8) (hs : s.length ≤ 9223372036854775807) : PC Tryz.prog false 93 [.str s] (.bool (okVal s)) [] := by
  refine pc_at Tryz.func93 rfl (by kernel_rfl) 10 [.tmp 2] rfl rfl ?_
  repeat' (conv => whnf); first
 | (refine nameB_dec (fun h => ?_) (fun h => ?_) <;> try simp only [lensB] at h)
 | (refine nameB_cases (fun h => ?_) (fun h => ?_) <;> try simp only [nmL, lensB] at h)
 | refine splitB_true ?_
 | refine splitB_false ?_
 | refine Call0 (c_impl_hasBytes s _ hs) rfl rfl ?_
 | fail
  all_goals
    conv => whnf
    refine OutA_plain rfl rfl ?_
    first
    | rfl
    | (simp only [okVal, *, named, AV.sub, AV.sub.subL, Bool.and_true, Bool.and_false, Bool.true_and, Bool.false_and, Bool.or_true, Bool.or_false, Bool.true_or, Bool.false_or, Bool.not_true, Bool.not_false, if_true, if_false, decide_true, decide_false, Bool.false_eq_true, Bool.and_self]; done)
    | (simp_all [okVal, named, AV.sub, AV.sub.subL]; done)
    | (simp_all [okVal, named, AV.sub, AV.sub.subL] <;> (intros; omega))
    | (exfalso; omega)
theorem c_spec_l3Val (s : List UInt8) (hs : s.length ≤ 9223372036854775807) : PC Tryz.prog false 60 [.str s] (.bool (okVal s)) [] := by
  refine pc_at Tryz.func60 rfl (by kernel_rfl) 10 [.tmp 2] rfl rfl ?_
  repeat' (conv => whnf); first
 | (refine nameB_dec (fun h => ?_) (fun h => ?_) <;> try simp only [lensB] at h)
 | (refine nameB_cases (fun h => ?_) (fun h => ?_) <;> try simp only [nmL, lensB] at h)
 | refine splitB_true ?_
 | refine splitB_false ?_
 | refine Call0 (c_spec_l3Bytes s _ hs (by simp)) rfl rfl ?_
 | fail
  all_goals
    conv => whnf
    refine OutA_plain rfl rfl ?_
    first
    | rfl
    | (simp only [okVal, *, named, AV.sub, AV.sub.subL, Bool.and_true, Bool.and_false, Bool.true_and, Bool.false_and, Bool.or_true, Bool.or_false, Bool.true_or, Bool.false_or, Bool.not_true, Bool.not_false, if_true, if_false, decide_true, decide_false, Bool.false_eq_true, Bool.and_self]; done)
    | (simp_all [okVal, named, AV.sub, AV.sub.subL]; done)
    | (simp_all [okVal, named, AV.sub, AV.sub.subL] <;> (intros; omega))
    | (exfalso; omega)
theorem c_impl_isStored (v : List UInt8) (g : Bool) (hv : okS v) : PC Tryz.prog false 70 [.str v, .bool g] (.bool (okStored v g)) [] := by
  refine pc_at Tryz.func70 rfl (by kernel_rfl) 15 [.tmp 4] rfl rfl ?_
  repeat' (conv => whnf); first
 | refine nameB_true ?_
 | refine nameB_false ?_
 | (refine nameB_cases (fun h => ?_) (fun h => ?_) <;> try simp only [nmL, lensB] at h)
 | refine splitB_true ?_
 | refine splitB_false ?_
 | (refine splitB_intro (fun h => ?_) (fun h => ?_) <;> subst h)
 | refine Call0 (c_impl_GoodVal v hv) rfl rfl ?_
 | fail
  all_goals
    conv => whnf
    refine OutA_plain rfl rfl ?_
    first
    | rfl
    | (simp only [okStored, *, named, AV.sub, AV.sub.subL, Bool.and_true, Bool.and_false, Bool.true_and, Bool.false_and, Bool.or_true, Bool.or_false, Bool.true_or, Bool.false_or, Bool.not_true, Bool.not_false, if_true, if_false, decide_true, decide_false, Bool.false_eq_true, Bool.and_self]; done)
    | (simp_all [okStored, named, AV.sub, AV.sub.subL]; done)
    | (simp_all [okStored, named, AV.sub, AV.sub.subL] <;> (intros; omega))
    | (exfalso; omega)
def okWr (k v : List UInt8) (g : Bool) : Bool := okKey k && okStored v g
theorem c_spec_l3Write (k v : List UInt8) (g : Bool) (hk : okS k) (hv : okS v) : PC Tryz.prog false 102 [.str k, .str v, .bool g] (.bool (okWr k v g)) [] := by
  refine pc_at Tryz.func102 rfl (by kernel_rfl) 21 [.tmp 6] rfl rfl ?_
  repeat' (conv => whnf); first
 | (refine nameB_cases (fun h => ?_) (fun h => ?_) <;> try simp only [nmL, lensB] at h)
 | refine splitB_true ?_
 | refine splitB_false ?_
 | refine Call0 (c_spec_l3Key k hk) rfl rfl ?_
 | refine Call0 (c_spec_l3Val v hv) rfl rfl ?_
 | fail
  all_goals
    conv => whnf
    refine OutA_plain rfl rfl ?_
    first
    | rfl
    | (simp only [okWr, okStored, *, named, AV.sub, AV.sub.subL, Bool.and_true, Bool.and_false, Bool.true_and, Bool.false_and, Bool.or_true, Bool.or_false, Bool.true_or, Bool.false_or, Bool.not_true, Bool.not_false, if_true, if_false, decide_true, decide_false, Bool.false_eq_true, Bool.and_self]; done)
    | (simp_all [okWr, okStored, named, AV.sub, AV.sub.subL]; done)
    | (simp_all [okWr, okStored, named, AV.sub, AV.sub.subL] <;> (intros; omega))
    | (exfalso; omega)
theorem rising_allPre {α : Type} (key : α → List UInt8) (p : α → Bool) : ∀ (xs pre : List α), (rising (pre.getLast?.map key) (xs.map key) && xs.all p) = allPre (fun pre x => (p x && okKey (key x)) && prevB (fun a b => Op.bytesLess (key a) (key b)) pre x) pre xs
  | [], pre => rfl
  | x :: xs, pre => by
    have ih := rising_allPre key p xs (pre ++ [x])
    simp only [List.getLast?_concat, Option.map_some] at ih
    have hp : prevB (fun a b => Op.bytesLess (key a) (key b)) pre x = (match pre.getLast?.map key with | none => true | some q => Op.bytesLess q (key x)) := by
      unfold prevB
      cases pre.getLast? <;> rfl
    simp only [List.map_cons, rising, allPre, List.all_cons]
    rw [← ih, hp]
    cases okKey (key x) <;> cases p x <;> cases hg : pre.getLast? <;> simp [Bool.and_comm, Bool.and_left_comm]
theorem app_snoc {α : Type} {f : α → List AV} {xs : List α} {k : Nat} {x : α} {L : List (List AV)} (hx : xs[k]? = some x) (hL : L = [f x]) : (xs.take k).map f ++ L = (xs.take (k + 1)).map f := by
  rw [hL, take_get hx, List.map_append]; rfl
theorem full_take {α : Type} {f : α → List AV} {xs : List α} {k : Nat} (h : ¬ (k : Int) < xs.length) : (xs.take k).map f = xs.map f := by rw [List.take_of_length_le (by omega)]
def cmpS (a b : List UInt8) : Int := if Op.bytesLess a b = true then -1 else if Op.bytesLess b a = true then 1 else 0
theorem c_cmp_isNaN_string (a : List UInt8) : PC Tryz.prog false 117 [.str a] (.bool false) [] := by
  refine pc_at Tryz.func117 rfl (by kernel_rfl) 6 [.tmp 2] rfl rfl ?_
  repeat' (conv => whnf); first
 | refine nameB_no (b := !(a == a)) (by simp) ?_
 | fail
  all_goals
    conv => whnf
    refine OutA_plain rfl rfl ?_
    first
    | rfl
    | (simp only [*, named, AV.sub, AV.sub.subL, Bool.and_true, Bool.and_false, Bool.true_and, Bool.false_and, Bool.or_true, Bool.or_false, Bool.true_or, Bool.false_or, Bool.not_true, Bool.not_false, if_true, if_false, decide_true, decide_false, Bool.false_eq_true, Bool.and_self]; done)
    | (simp_all [named, AV.sub, AV.sub.subL]; done)
    | (simp_all [named, AV.sub, AV.sub.subL] <;> (intros; omega))
    | (exfalso; omega)
theorem c_cmp_Compare_string (a b : List UInt8) : PC Tryz.prog false 111 [.str a, .str b] (.int .i64 (cmpS a b)) [] := by
  refine pc_at Tryz.func111 rfl (by kernel_rfl) 20 [.tmp 4] rfl rfl ?_
  repeat' (conv => whnf); first
 | (conv => arg 1; rw [bl_leq, Bool.not_not])
 | refine nameB_false ?_
 | (refine nameB_cases (fun h => ?_) (fun h => ?_) <;> try simp only [nmL, lensB] at h)
 | refine splitB_true ?_
 | refine splitB_false ?_
 | refine Call0 (c_cmp_isNaN_string ..) rfl rfl ?_
 | fail
  all_goals
    conv => whnf
    refine OutA_plain rfl rfl ?_
    first
    | rfl
    | (simp only [cmpS, *, named, AV.sub, AV.sub.subL, Bool.and_true, Bool.and_false, Bool.true_and, Bool.false_and, Bool.or_true, Bool.or_false, Bool.true_or, Bool.false_or, Bool.not_true, Bool.not_false, if_true, if_false, decide_true, decide_false, Bool.false_eq_true, Bool.and_self]; done)
    | (simp_all [cmpS, named, AV.sub, AV.sub.subL]; done)
    | (simp_all [cmpS, named, AV.sub, AV.sub.subL] <;> (intros; omega))
    | (exfalso; omega)
theorem c_BS_Write (xs : List WriteT) (key : List UInt8) (f : Nat) (caps : List AV) (c : WriteT → Int) (hl : xs.length ≤ 9223372036854775807) (hcap : Caps caps) (hq : ∀ x ∈ xs, PC Tryz.prog false f (.agg x.cells :: .str key :: caps) (.int .i64 (c x)) []) : PC Tryz.prog false 109 [.sl (xs.map WriteT.cells), .str key, .fn f caps] (.tup [.int .i64 (bsPos c xs : Nat), .bool (bsHit c xs)]) [] := by
  refine pc_at Tryz.func109 rfl (by kernel_rfl) 49 [.tmp 6, .tmp 7] rfl rfl ?_
  repeat' (conv => whnf); first
 | refine ix_as (m := (i + j) / 2) (mid_eq i j (by omega)) (by omega) (fun x hx => ?_)
 | (refine nameB_self (b := c x == 0) ?_)
 | (refine nameB_dec (fun h => ?_) (fun h => ?_) <;> try simp only [lensB] at h)
 | refine splitB_true ?_
 | refine splitB_false ?_
 | ((refine Loop_at [0, 1, 2, 8] [] (Nat × Nat) (fun j => match j with | (i, j) => bsGo c xs i j = bsPos c xs ∧ i ≤ j ∧ j ≤ xs.length) (fun j => match j with | (i, j) => [(9, .int .i64 (i : Nat)), (10, .int .i64 (j : Nat))]) (fun j => match j with | (i, j) => []) (fun j => match j with | (i, j) => j - i) (0, xs.length) ⟨by first | first | exact congrArg (fun n : Nat => AV.int .i64 (n : Int)) (List.length_map (WriteT.cells)) | exact congrArg (AV.int .i64) (mid_next i j (by omega) (by omega)) | exact congrArg (AV.int .i64) (mid_eq i j (by omega)) | rfl | fail, by first | first | exact congrArg (fun n : Nat => AV.int .i64 (n : Int)) (List.length_map (WriteT.cells)) | exact congrArg (AV.int .i64) (mid_next i j (by omega) (by omega)) | exact congrArg (AV.int .i64) (mid_eq i j (by omega)) | rfl | fail, trivial⟩ trivial (by (try dsimp only); first | (exact ⟨rfl, by omega, by omega⟩) | fail) ?_; (conv => whnf); refine side_and (side_of (by first | exact fun ⟨i, j⟩ => rfl | exact fun ⟨i, j⟩ => by simp [headOk, closedE, closedO, closedL, AV.closed, hcap.closed, hasId, AObj.box, BK.ofB])) ?_; rintro ⟨i, j⟩ hT; try dsimp only at hT))
 | refine Again_of ((i + j) / 2 + 1, j) ⟨by first | rfl | exact i64_next (by omega) | first | exact congrArg (fun n : Nat => AV.int .i64 (n : Int)) (List.length_map (WriteT.cells)) | exact congrArg (AV.int .i64) (mid_next i j (by omega) (by omega)) | exact congrArg (AV.int .i64) (mid_eq i j (by omega)) | fail, by first | rfl | exact i64_next (by omega) | first | exact congrArg (fun n : Nat => AV.int .i64 (n : Int)) (List.length_map (WriteT.cells)) | exact congrArg (AV.int .i64) (mid_next i j (by omega) (by omega)) | exact congrArg (AV.int .i64) (mid_eq i j (by omega)) | fail, trivial⟩ trivial (by first | (and_intros <;> first | rfl | trivial) | fail) (by first | (and_intros <;> first | rfl | trivial) | fail) rfl rfl rfl (by (try dsimp only); first | (first | exact ⟨(bsGo_lt (by omega) hx (by assumption)).symm.trans hT.1, by omega, by omega⟩ | exact ⟨(bsGo_ge (by omega) hx (by assumption)).symm.trans hT.1, by omega, by omega⟩) | fail) (show _ < _ by (try dsimp only); omega)
 | refine Again_of (i, (i + j) / 2) ⟨by first | rfl | exact i64_next (by omega) | first | exact congrArg (fun n : Nat => AV.int .i64 (n : Int)) (List.length_map (WriteT.cells)) | exact congrArg (AV.int .i64) (mid_next i j (by omega) (by omega)) | exact congrArg (AV.int .i64) (mid_eq i j (by omega)) | fail, by first | rfl | exact i64_next (by omega) | first | exact congrArg (fun n : Nat => AV.int .i64 (n : Int)) (List.length_map (WriteT.cells)) | exact congrArg (AV.int .i64) (mid_next i j (by omega) (by omega)) | exact congrArg (AV.int .i64) (mid_eq i j (by omega)) | fail, trivial⟩ trivial (by first | (and_intros <;> first | rfl | trivial) | fail) (by first | (and_intros <;> first | rfl | trivial) | fail) rfl rfl rfl (by (try dsimp only); first | (first | exact ⟨(bsGo_lt (by omega) hx (by assumption)).symm.trans hT.1, by omega, by omega⟩ | exact ⟨(bsGo_ge (by omega) hx (by assumption)).symm.trans hT.1, by omega, by omega⟩) | fail) (show _ < _ by (try dsimp only); omega)
 | refine Call0 (hq x (List.mem_of_getElem? hx)) (congrArg (fun l => _ :: _ :: l) (hcap.same _)) ((Bool.true_and _).trans ((Bool.true_and _).trans (hcap.known _))) ?_
 | (refine ix_map (by omega) (by (try simp only [List.length_take]); omega) (fun x hx => ?_); try simp only [Int.toNat_natCast] at hx)
 | refine side_and (side_of (by first | (and_intros <;> first | exact Nat.le_of_ble_eq_true rfl | rfl | omega | (simp only [lensB, lensC]; omega) | exact bytes_ok (Nat.le_of_ble_eq_true rfl) (by omega) (by simp only [lensB, lensC]; omega) | exact bytes_okN (Nat.le_of_ble_eq_true rfl) (by simp only [lensB, lensC]; omega)) | fail)) ?_
 | fail
  all_goals
    conv => whnf
    refine OutA_plain rfl rfl ?_
    have hB : bsPos c xs = i := hT.1.symm.trans (bsGo_end (by omega))
    first
    | (rw [hB, bsHit_at hB hx]; rfl)
    | (rw [hB, bsHit_end hB (by omega)]; rfl)
theorem c_IndexFunc_Write (xs : List WriteT) (f : Nat) (caps : List AV) (q : WriteT → Bool) (hl : xs.length ≤ 9223372036854775807) (hcap : Caps caps) (hq : ∀ x ∈ xs, PC Tryz.prog false f (.agg x.cells :: caps) (.bool (q x)) []) : PC Tryz.prog false 106 [.sl (xs.map WriteT.cells), .fn f caps] (.int .i64 (idxF q 0 xs)) [] := by
  refine pc_at Tryz.func106 rfl (by kernel_rfl) 19 [.tmp 4] rfl rfl ?_
  repeat' (conv => whnf); first
 | (refine nameB_dec (fun h => ?_) (fun h => ?_) <;> try simp only [lensB] at h)
 | (refine nameB_cases (fun h => ?_) (fun h => ?_) <;> try simp only [nmL, lensB] at h)
 | refine splitB_true ?_
 | refine splitB_false ?_
 | ((refine Loop_at [0, 1, 7] [] (Nat) (fun k => idxF q k (xs.drop k) = idxF q 0 xs ∧ k ≤ xs.length) (fun k => [(8, .int .i64 (k : Nat))]) (fun k => []) (fun k => xs.length - k) 0 ⟨by first | (simp_all <;> fail) | rfl | fail, trivial⟩ trivial (by (try dsimp only); first | trivial | (refine ⟨?_, by omega⟩; simp <;> fail) | (simp <;> fail) | fail) ?_; (conv => whnf); refine side_and (side_of (by first | exact fun k => rfl | exact fun k => by simp [headOk, closedE, closedO, closedL, AV.closed, hcap.closed, hasId, AObj.box, BK.ofB])) ?_; rintro k hT; try dsimp only at hT))
 | (refine Again_of (k + 1) ⟨by first | rfl | exact i64_next (by omega) | (simp_all <;> fail) | fail, trivial⟩ trivial (by first | (and_intros <;> first | rfl | trivial) | fail) (by first | (and_intros <;> first | rfl | trivial) | fail) rfl rfl rfl (by (try dsimp only); (refine ⟨?_, by omega⟩; first | (rw [← hT.1, drop_get hx]; simp_all [idxF, List.all_cons, List.any_cons] <;> fail) | (have hg := drop_get hx; simp_all [idxF, List.all_cons, List.any_cons] <;> fail) | fail)) (show _ < _ by (try dsimp only); omega))
 | refine Call0 (hq x (List.mem_of_getElem? hx)) (congrArg (List.cons _) (hcap.same _)) (hcap.known _) ?_
 | (refine ix_map (by omega) (by (try simp only [List.length_take]); omega) (fun x hx => ?_); try simp only [Int.toNat_natCast] at hx)
 | refine side_and (side_of (by first | (and_intros <;> first | exact Nat.le_of_ble_eq_true rfl | rfl | omega | (simp only [lensB, lensC]; omega) | exact bytes_ok (Nat.le_of_ble_eq_true rfl) (by omega) (by simp only [lensB, lensC]; omega) | exact bytes_okN (Nat.le_of_ble_eq_true rfl) (by simp only [lensB, lensC]; omega)) | fail)) ?_
 | fail
  all_goals
    conv => whnf
    refine OutA_plain rfl rfl ?_
    first
    | (simp_all [idxF, named, AV.sub, AV.sub.subL]; done)
    | (rw [← hT.1, drop_get hx]; simp_all [idxF, List.all_cons, List.any_cons, named, AV.sub, AV.sub.subL]; done)
    | (have hg := drop_get hx; simp_all [idxF, List.all_cons, List.any_cons, named, AV.sub, AV.sub.subL]; done)
    | (rw [List.drop_eq_nil_of_le (by omega)] at hT; simp_all [idxF, named, AV.sub, AV.sub.subL]; done)
theorem c_ContainsFunc_Write (xs : List WriteT) (f : Nat) (caps : List AV) (q : WriteT → Bool) (hl : xs.length ≤ 9223372036854775807) (hcap : Caps caps) (hq : ∀ x ∈ xs, PC Tryz.prog false f (.agg x.cells :: caps) (.bool (q x)) []) : PC Tryz.prog false 81 [.sl (xs.map WriteT.cells), .fn f caps] (.bool (xs.any q)) [] := by
  refine pc_at Tryz.func81 rfl (by kernel_rfl) 9 [.tmp 4] rfl rfl ?_
  repeat' (conv => whnf); first
 | (refine nameB_dec (fun h => ?_) (fun h => ?_) <;> try simp only [lensB] at h)
 | refine Call0 (c_IndexFunc_Write xs f caps q hl hcap hq) (congrArg (fun l => [AV.sl _, AV.fn f l]) (hcap.same1 _)) ((Bool.and_true _).trans (hcap.known1 _)) ?_
 | fail
  all_goals
    conv => whnf
    refine OutA_plain rfl rfl ?_
    first
    | (simp_all [idxF_pos, named, AV.sub, AV.sub.subL]; done)
    | (rw [← hT.1, drop_get hx]; simp_all [idxF_pos, List.all_cons, List.any_cons, named, AV.sub, AV.sub.subL]; done)
    | (have hg := drop_get hx; simp_all [idxF_pos, List.all_cons, List.any_cons, named, AV.sub, AV.sub.subL]; done)
    | (rw [List.drop_eq_nil_of_le (by omega)] at hT; simp_all [idxF_pos, named, AV.sub, AV.sub.subL]; done)
def wrAt (pre : List WriteT) (w : WriteT) : Bool := (okStored w.Val w.Gone && okKey w.Key) && prevB (fun a b => Op.bytesLess a.Key b.Key) pre w
def okWrites (ws : List WriteT) : Bool := allPre wrAt [] ws && decide ((ws.length : Int) ≤ 24)
theorem any_notN {α : Type} {p : α → Bool} : ∀ {xs : List α}, xs.any (fun x => !p x) = !xs.all p
  | [] => rfl
  | x :: xs => by rw [List.any_cons, List.all_cons, any_notN, Bool.not_and]
theorem okWrites_rising (ws : List WriteT) : okWrites ws = (decide ((ws.length : Int) ≤ 24) && (rising none (ws.map WriteT.Key) && !ws.any fun w => !okStored w.Val w.Gone)) := by
  have := rising_allPre WriteT.Key (fun w => okStored w.Val w.Gone) ws []
  rw [any_notN, Bool.not_not]
  unfold okWrites
  rw [Bool.and_comm]
  exact congrArg _ this.symm
theorem okS_wkeys {ws : List WriteT} (h : okL WriteT.ok ws) : okL okS (ws.map WriteT.Key) := ⟨by rw [List.length_map]; exact h.1, fun k hk => by obtain ⟨c, hc, rfl⟩ := List.mem_map.1 hk; exact (h.2 c hc).1⟩
theorem keysWrites {ws : List WriteT} : ws.map (fun c => strC c.Key) = (ws.map WriteT.Key).map strC := by rw [List.map_map]; rfl
theorem c_impl_writeKeys (ws : List WriteT) (hw : ws.length ≤ 1048576) : PC Tryz.prog false 104 [.sl (ws.map WriteT.cells)] (.own 0) [⟨false, 9, 1, (ws.map WriteT.Key).map strC⟩] := by
  refine pc_at Tryz.func104 rfl (by kernel_rfl) 20 [.tmp 2] rfl rfl ?_
  repeat' (conv => whnf); first
 | refine side_and (side_of (one_lenC rfl rfl)) ?_
 | refine side_and (side_of (by first | (and_intros <;> first | exact Nat.le_of_ble_eq_true rfl | rfl | (intro e; exact absurd (AV.own.inj e) (by decide)) | (intro e; exact AV.noConfusion e)) | fail)) ?_
 | refine side_and (side_of (app_boundC (L := (ws.take k).map fun c => strC c.Key) rfl (by (try simp only [List.length_map, List.length_append, List.length_take, List.length_set, List.length_drop]); omega) (Nat.le_of_ble_eq_true rfl))) ?_
 | (refine nameB_dec (fun h => ?_) (fun h => ?_) <;> try simp only [lensB] at h)
 | refine splitB_true ?_
 | refine splitB_false ?_
 | ((refine Loop_nil 3 4096 9 1 rfl rfl (by decide) ?_; refine Loop_at [7, 8] [] (Nat) (fun k => k ≤ ws.length) (fun k => [(9, .int .i64 (k : Nat)), (3, .own 4096)]) (fun k => [(4096, ⟨false, 9, 1, (ws.take k).map fun c => strC c.Key⟩)]) (fun k => ws.length - k) 0 ⟨by first | (simp_all <;> fail) | rfl | fail, by first | rfl | (simp_all <;> fail) | fail, trivial⟩ ⟨by first | rfl | exact congrArg (fun e => some (AObj.mk false _ _ e)) (app_snoc hx rfl) | fail | fail, trivial⟩ (by (try dsimp only); first | (exact Nat.zero_le _) | fail) ?_; (conv => whnf); refine side_and (side_of (by first | exact fun k => rfl | exact fun k => by simp [headOk, closedE, closedO, closedL, AV.closed, hcap.closed, hasId, AObj.box, BK.ofB])) ?_; rintro k hT; try dsimp only at hT))
 | (refine Again_of (k + 1) ⟨by first | rfl | exact i64_next (by omega) | (simp_all <;> fail) | fail, by first | rfl | (simp_all <;> fail) | fail, trivial⟩ ⟨by first | rfl | exact congrArg (fun e => some (AObj.mk false _ _ e)) (app_snoc hx rfl) | fail | fail, trivial⟩ (by first | (and_intros <;> first | rfl | trivial) | fail) (by first | (and_intros <;> first | rfl | trivial) | fail) rfl rfl rfl (by (try dsimp only); first | ((show k + 1 ≤ _; omega)) | fail) (show _ < _ by (try dsimp only); omega))
 | (refine ix_map (by omega) (by (try simp only [List.length_take]); omega) (fun x hx => ?_); try simp only [Int.toNat_natCast] at hx)
 | fail
  all_goals
    conv => whnf
    refine OutA_ids rfl rfl rfl ⟨⟨_, _, _, rfl, congrArg (AObj.mk false _ _) ?_⟩, trivial⟩ rfl (.inr (flat_one (flat_map (fun _ => rfl) _)))
    exact ((full_take (f := fun c : WriteT => strC c.Key) (by assumption)).trans keysWrites).symm
theorem c_impl_GoodWrites_1 (x : WriteT) (hok : x.ok) : PC Tryz.prog false 105 [.agg x.cells] (.bool (!okStored x.Val x.Gone)) [] := by
  refine pc_at Tryz.func105 rfl (by kernel_rfl) 9 [.tmp 2] rfl rfl ?_
  repeat' (conv => whnf); first
 | refine nameB_self (b := x.Gone) ?_
 | refine nameB_true ?_
 | refine nameB_false ?_
 | (refine nameB_cases (fun h => ?_) (fun h => ?_) <;> try simp only [nmL, lensB] at h)
 | refine Call0 (c_impl_isStored x.Val x.Gone hok.2.1) rfl rfl ?_
 | refine side_and (side_of (by first | (and_intros <;> first | exact Nat.le_of_ble_eq_true rfl | rfl | omega | (simp only [lensB, lensC]; omega) | exact bytes_ok (Nat.le_of_ble_eq_true rfl) (by omega) (by simp only [lensB, lensC]; omega) | exact bytes_okN (Nat.le_of_ble_eq_true rfl) (by simp only [lensB, lensC]; omega)) | fail)) ?_
 | fail
  all_goals
    conv => whnf
    refine OutA_plain rfl rfl ?_
    first
    | rfl
    | (simp only [*, named, AV.sub, AV.sub.subL, Bool.and_true, Bool.and_false, Bool.true_and, Bool.false_and, Bool.or_true, Bool.or_false, Bool.true_or, Bool.false_or, Bool.not_true, Bool.not_false, if_true, if_false, decide_true, decide_false, Bool.false_eq_true, Bool.and_self]; done)
    | (simp_all [named, AV.sub, AV.sub.subL]; done)
    | (simp_all [named, AV.sub, AV.sub.subL] <;> (intros; omega))
    | (exfalso; omega)
theorem c_impl_GoodWrites (ws : List WriteT) (hok : okL WriteT.ok ws) (hw : ws.length ≤ 1048576) : PC Tryz.prog false 80 [.sl (ws.map WriteT.cells)] (.bool (okWrites ws)) [] := by
  rw [okWrites_rising]
  refine pc_at Tryz.func80 rfl (by kernel_rfl) 16 [.tmp 2] rfl rfl ?_
  repeat' (conv => whnf); first
 | refine nameB_true ?_
 | refine nameB_false ?_
 | (refine nameB_dec (fun h => ?_) (fun h => ?_) <;> try simp only [lensB] at h)
 | (refine nameB_cases (fun h => ?_) (fun h => ?_) <;> try simp only [nmL, lensB] at h)
 | refine splitB_true ?_
 | refine splitB_false ?_
 | refine CallF (c_impl_writeKeys ws hw) rfl rfl rfl (Nat.le_of_ble_eq_true rfl) ?_
 | refine Call0 (c_impl_areRising (ws.map WriteT.Key) (okS_wkeys hok)) rfl rfl ?_
 | refine Call0 (c_ContainsFunc_Write ws 105 [] (fun w => !okStored w.Val w.Gone) hok.1 ⟨fun _ => rfl, fun _ => rfl, fun _ => rfl, fun _ => rfl, fun _ => rfl⟩ (fun x hx => c_impl_GoodWrites_1 x (hok.2 x hx))) rfl rfl ?_
 | fail
  all_goals
    conv => whnf
    refine OutA_plain rfl rfl ?_
    first
    | rfl
    | (simp only [*, named, AV.sub, AV.sub.subL, Bool.and_true, Bool.and_false, Bool.true_and, Bool.false_and, Bool.or_true, Bool.or_false, Bool.true_or, Bool.false_or, Bool.not_true, Bool.not_false, if_true, if_false, decide_true, decide_false, Bool.false_eq_true, Bool.and_self]; done)
    | (simp_all [named, AV.sub, AV.sub.subL]; done)
    | (simp_all [named, AV.sub, AV.sub.subL] <;> (intros; omega))
    | (exfalso; omega)
theorem wrAt_yes {ws : List WriteT} {k : Nat} {w : WriteT} (h1 : okWr w.Key w.Val w.Gone = true) (h3 : prevB (fun a b : WriteT => Op.bytesLess a.Key b.Key) (ws.take k) w = true) : wrAt (ws.take k) w = true := by
  simp only [okWr, Bool.and_eq_true] at h1
  simp only [wrAt, h1.1, h1.2, h3, Bool.and_true]
theorem wrAt_no {pre : List WriteT} {w : WriteT} (h : okWr w.Key w.Val w.Gone = false ∨ prevB (fun a b : WriteT => Op.bytesLess a.Key b.Key) pre w = false) : wrAt pre w = false := by
  rcases h with h | h
  · simp only [okWr, Bool.and_eq_false_iff] at h
    rcases h with h | h <;> simp only [wrAt, h, Bool.false_and, Bool.and_false]
  · simp only [wrAt, h, Bool.false_and, Bool.and_false]
theorem c_spec_l3Writes (ws : List WriteT) (hok : okL WriteT.ok ws) : PC Tryz.prog false 78 [.sl (ws.map WriteT.cells)] (.bool (okWrites ws)) [] := by
  have hl := hok.1
  refine pc_at Tryz.func78 rfl (by kernel_rfl) 39 [.tmp 2] rfl rfl ?_
  repeat' (conv => whnf); first
 | refine ix_as (m := k - 1) (by simp only [i64_wrap_eq]; omega) (by omega) (fun y hy => ?_)
 | refine nameB_self (b := x.Gone) ?_
 | refine nameB_true ?_
 | refine nameB_false ?_
 | (refine nameB_dec (fun h => ?_) (fun h => ?_) <;> try simp only [lensB] at h)
 | (refine nameB_cases (fun h => ?_) (fun h => ?_) <;> try simp only [nmL, lensB] at h)
 | refine splitB_true ?_
 | refine splitB_false ?_
 | refine draw_text (by kernel_rfl) (by kernel_rfl) (by kernel_rfl) ?_
 | ((refine Loop_at [0, 5, 6] [] (Nat) (fun k => allPre wrAt (ws.take k) (ws.drop k) = allPre wrAt [] ws ∧ k ≤ ws.length) (fun k => [(7, .int .i64 (k : Nat))]) (fun k => []) (fun k => ws.length - k) 0 ⟨by first | (simp_all <;> fail) | rfl | fail, trivial⟩ trivial (by (try dsimp only); first | (exact ⟨rfl, by omega⟩) | fail) ?_; (conv => whnf); refine side_and (side_of (by first | exact fun k => rfl | exact fun k => by simp [headOk, closedE, closedO, closedL, AV.closed, hcap.closed, hasId, AObj.box, BK.ofB])) ?_; rintro k hT; try dsimp only at hT))
 | (refine Again_of (k + 1) ⟨by first | rfl | exact i64_next (by omega) | (simp_all <;> fail) | fail, trivial⟩ trivial (by first | (and_intros <;> first | rfl | trivial) | fail) (by first | (and_intros <;> first | rfl | trivial) | fail) rfl rfl rfl (by (try dsimp only); first | (first | exact ⟨allPre_go hT.1 hx (wrAt_yes (by assumption) (prevB_zero (by assumption))), by omega⟩ | exact ⟨allPre_go hT.1 hx (wrAt_yes (by assumption) ((prevB_pos (by assumption) hy).trans (by assumption))), by omega⟩) | fail) (show _ < _ by (try dsimp only); omega))
 | refine CallD0 (c_spec_l3Write x.Key x.Val x.Gone (hok.2 x (List.mem_of_getElem? hx)).1 (hok.2 x (List.mem_of_getElem? hx)).2.1) rfl rfl rfl ?_
 | (refine ix_map (by omega) (by (try simp only [List.length_take]); omega) (fun x hx => ?_); try simp only [Int.toNat_natCast] at hx)
 | refine side_and (side_of (by first | (and_intros <;> first | exact Nat.le_of_ble_eq_true rfl | rfl | omega | (simp only [lensB, lensC]; omega) | exact bytes_ok (Nat.le_of_ble_eq_true rfl) (by omega) (by simp only [lensB, lensC]; omega) | exact bytes_okN (Nat.le_of_ble_eq_true rfl) (by simp only [lensB, lensC]; omega)) | fail)) ?_
 | refine LoadK_of rfl rfl ?_
 | fail
  all_goals
    conv => whnf
    refine OutA_plain rfl rfl ?_
    first
    | (have hb := allPre_bad hT.1 hx (wrAt_no (.inl (by assumption))); simp only [okWrites, hb, Bool.false_and]; rfl)
    | (have hb := allPre_bad hT.1 hx (wrAt_no (.inr ((prevB_pos (by assumption) hy).trans (by assumption)))); simp only [okWrites, hb, Bool.false_and]; rfl)
    | (have hb := allPre_end hT.1 (by assumption); simp_all [okWrites, named, AV.sub]; done)
def wK (key : List UInt8) (w : WriteT) : Int := cmpS w.Key key
theorem bsHit_lt {α : Type} {c : α → Int} {xs : List α} (h : bsHit c xs = true) : bsPos c xs < xs.length := by
  unfold bsHit at h
  split at h
  · rename_i x hx; exact (List.getElem?_eq_some_iff.1 hx).1
  · cases h
theorem c_impl_findWrite_1 (c : WriteT) (key : List UInt8) : PC Tryz.prog false 110 [.agg c.cells, .str key] (.int .i64 (wK key c)) [] := by
  refine pc_at Tryz.func110 rfl (by kernel_rfl) 9 [.tmp 4] rfl rfl ?_
  repeat' (conv => whnf); first
 | refine Call0 (c_cmp_Compare_string c.Key key) rfl rfl ?_
 | refine side_and (side_of (by first | (and_intros <;> first | exact Nat.le_of_ble_eq_true rfl | rfl | omega | (simp only [lensB, lensC]; omega) | exact bytes_ok (Nat.le_of_ble_eq_true rfl) (by omega) (by simp only [lensB, lensC]; omega) | exact bytes_okN (Nat.le_of_ble_eq_true rfl) (by simp only [lensB, lensC]; omega)) | fail)) ?_
 | fail
  all_goals
    conv => whnf
    refine OutA_plain rfl rfl ?_
    first
    | rfl
    | (simp only [*, named, AV.sub, AV.sub.subL, Bool.and_true, Bool.and_false, Bool.true_and, Bool.false_and, Bool.or_true, Bool.or_false, Bool.true_or, Bool.false_or, Bool.not_true, Bool.not_false, if_true, if_false, decide_true, decide_false, Bool.false_eq_true, Bool.and_self]; done)
    | (simp_all [named, AV.sub, AV.sub.subL]; done)
    | (simp_all [named, AV.sub, AV.sub.subL] <;> (intros; omega))
    | (exfalso; omega)
theorem c_impl_findWrite (l : List WriteT) (key : List UInt8) (hl : l.length ≤ 9223372036854775807) : PC Tryz.prog false 98 [.sl (l.map WriteT.cells), .str key] (.tup [.int .i64 (bsPos (wK key) l : Nat), .bool (bsHit (wK key) l)]) [] := by
  refine pc_at Tryz.func98 rfl (by kernel_rfl) 11 [.tmp 4, .tmp 5] rfl rfl ?_
  repeat' (conv => whnf); first
 | refine nameB_self (b := bsHit (wK key) l) ?_
 | refine Call0 (c_BS_Write l key 110 [] (wK key) hl ⟨fun _ => rfl, fun _ => rfl, fun _ => rfl, fun _ => rfl, fun _ => rfl⟩ (fun x _ => c_impl_findWrite_1 x key)) rfl rfl ?_
 | fail
  all_goals
    conv => whnf
    refine OutA_plain rfl rfl ?_
    first
    | rfl
    | (simp only [*, named, AV.sub, AV.sub.subL, Bool.and_true, Bool.and_false, Bool.true_and, Bool.false_and, Bool.or_true, Bool.or_false, Bool.true_or, Bool.false_or, Bool.not_true, Bool.not_false, if_true, if_false, decide_true, decide_false, Bool.false_eq_true, Bool.and_self]; done)
    | (simp_all [named, AV.sub, AV.sub.subL]; done)
    | (simp_all [named, AV.sub, AV.sub.subL] <;> (intros; omega))
    | (exfalso; omega)
theorem cmpS_neg {a b : List UInt8} : cmpS a b < 0 ↔ Op.bytesLess a b = true := by
  unfold cmpS
  cases h : Op.bytesLess a b with
  | true => simp
  | false => cases h2 : Op.bytesLess b a <;> simp
theorem cmpS_zero {a b : List UInt8} : cmpS a b = 0 ↔ a = b := by
  unfold cmpS
  cases h : Op.bytesLess a b with
  | true =>
    simp only [if_true]
    constructor
    · intro e; omega
    · rintro rfl; rw [bl_irr] at h; cases h
  | false =>
    cases h2 : Op.bytesLess b a with
    | true =>
      simp only [Bool.false_eq_true, if_false, if_true]
      constructor
      · intro e; omega
      · rintro rfl; rw [bl_irr] at h2; cases h2
    | false =>
      simp only [Bool.false_eq_true, if_false, true_iff]
      have q := bl_leq a b
      rw [h, h2] at q
      simpa using q
theorem cmpS_le {a b : List UInt8} (h : cmpS a b ≤ 0) : Op.bytesLess b a = false := by
  by_cases e : a = b
  · subst e; exact bl_irr _
  · exact bl_asym (cmpS_neg.1 (by have : ¬ cmpS a b = 0 := fun h0 => e (cmpS_zero.1 h0); omega))
theorem allPre_pair {α : Type} {q : List α → α → Bool} {r : α → α → Bool} (tr : ∀ a b c, r a b = true → r b c = true → r a c = true) (hq : ∀ pre x, q pre x = true → prevB r pre x = true) : ∀ (xs pre : List α), pre.Pairwise (fun a b => r a b = true) → allPre q pre xs = true → (pre ++ xs).Pairwise fun a b => r a b = true
  | [], pre, hp, _ => by simpa using hp
  | x :: xs, pre, hp, h => by
    simp only [allPre, Bool.and_eq_true] at h
    have h1 := hq pre x h.1
    have : (pre ++ [x]).Pairwise fun a b => r a b = true := by
      refine List.pairwise_append.2 ⟨hp, by simp, fun a ha b hb => ?_⟩
      simp at hb
      subst hb
      unfold prevB at h1
      cases hl : pre.getLast? with
      | none => rw [List.getLast?_eq_none_iff] at hl; subst hl; simp at ha
      | some y =>
        simp only [hl] at h1
        obtain ⟨ini, rfl⟩ := List.getLast?_eq_some_iff.1 hl
        rcases List.mem_append.1 ha with ha | ha
        · exact tr _ _ _ ((List.pairwise_append.1 hp).2.2 a ha y (by simp)) h1
        · simp at ha; subst ha; exact h1
    have ih := allPre_pair tr hq xs (pre ++ [x]) this h.2
    simpa using ih
theorem okWrites_pair {ws : List WriteT} (h : okWrites ws = true) : ws.Pairwise fun a b => Op.bytesLess a.Key b.Key = true := by
  simp only [okWrites, Bool.and_eq_true] at h
  have := allPre_pair (r := fun a b : WriteT => Op.bytesLess a.Key b.Key) (fun a b c => bl_tr) (fun pre x hx => by simp only [wrAt, Bool.and_eq_true] at hx; exact hx.2) ws [] (by simp) h.1
  simpa using this
end Go.Proofs.YthbheejeloomjaaGreatDoor
