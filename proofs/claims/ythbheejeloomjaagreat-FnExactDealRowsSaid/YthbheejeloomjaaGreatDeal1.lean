/-
  What GoodDeal gives, and its law.
  No condition.
-/
import Derived.Test.YthbheejeloomjaaGreatOrders
namespace Go.Proofs.YthbheejeloomjaaGreat
open Go.Ab
set_option linter.unusedSimpArgs false
set_option maxRecDepth 20000
set_option maxHeartbeats 4000000
set_option linter.unusedVariables false

theorem c_IndexFunc_State (xs : List StateT) (f : Nat) (caps : List AV) (q : StateT → Bool) (hl : xs.length ≤ 9223372036854775807) (hcap : Caps caps) (hq : ∀ x ∈ xs, PC Tryz.prog false f (.agg x.cells :: caps) (.bool (q x)) []) : PC Tryz.prog false 77 [.sl (xs.map StateT.cells), .fn f caps] (.int .i64 (idxF q 0 xs)) [] := by
  refine pc_at Tryz.func77 rfl (by kernel_rfl) 19 [.tmp 4] rfl rfl ?_
  repeat' (conv => whnf); first
 | (refine nameB_dec (fun h => ?_) (fun h => ?_) <;> try simp only [lensB] at h)
 | (refine nameB_cases (fun h => ?_) (fun h => ?_) <;> try simp only [nmL, lensB] at h)
 | refine splitB_true ?_
 | refine splitB_false ?_
 | ((refine Loop_at [0, 1, 7] [] (Nat) (fun k => idxF q k (xs.drop k) = idxF q 0 xs ∧ k ≤ xs.length) (fun k => [(8, .int .i64 (k : Nat))]) (fun k => []) (fun k => xs.length - k) 0 ⟨by first | (simp_all <;> fail) | rfl | fail, trivial⟩ trivial (by (try dsimp only); first | trivial | (refine ⟨?_, by omega⟩; simp <;> fail) | (simp <;> fail) | fail) ?_; (conv => whnf); refine side_and (side_of (by first | exact fun k => rfl | exact fun k => by simp [headOk, closedE, closedO, closedL, AV.closed, hcap.closed, hasId, AObj.box, BK.ofB])) ?_; rintro k hT; try dsimp only at hT))
 | (refine Again_of (k + 1) ⟨by first | rfl | exact i64_next (by omega) | (simp_all <;> fail) | fail, trivial⟩ trivial (by first | (and_intros <;> first | rfl | trivial) | fail) (by first | (and_intros <;> first | rfl | trivial) | fail) rfl rfl rfl (by (try dsimp only); (refine ⟨?_, by omega⟩; first | (rw [← hT.1, drop_get hx]; simp_all [idxF, List.all_cons, List.any_cons] <;> fail) | (have hg := drop_get hx; simp_all [idxF, List.all_cons, List.any_cons] <;> fail) | fail)) (show _ < _ by (try dsimp only); omega))
 | refine Call0 (hq x (List.mem_of_getElem? hx)) (congrArg (List.cons _) (hcap.same _)) (hcap.known _) ?_
 | (refine ix_map (by omega) (by (try simp only [List.length_take]); omega) (fun x hx => ?_); try simp only [Int.toNat_natCast] at hx)
 | refine side_and (side_of (by first | (and_intros <;> first | exact Nat.le_of_ble_eq_true rfl | rfl | omega | (simp only [lensB, lensC]; omega) | exact bytes_ok (Nat.le_of_ble_eq_true rfl) (by omega) (by simp only [lensB, lensC]; omega) | exact bytes_okN (Nat.le_of_ble_eq_true rfl) (by simp only [lensB, lensC]; omega)) | fail)) ?_
 | fail
  all_goals
    conv => whnf
    refine OutA_plain rfl rfl ?_
    first
    | (simp_all [idxF, named, AV.sub, AV.sub.subL]; done)
    | (rw [← hT.1, drop_get hx]; simp_all [idxF, List.all_cons, List.any_cons, named, AV.sub, AV.sub.subL]; done)
    | (have hg := drop_get hx; simp_all [idxF, List.all_cons, List.any_cons, named, AV.sub, AV.sub.subL]; done)
    | (rw [List.drop_eq_nil_of_le (by omega)] at hT; simp_all [idxF, named, AV.sub, AV.sub.subL]; done)
theorem c_ContainsFunc_State (xs : List StateT) (f : Nat) (caps : List AV) (q : StateT → Bool) (hl : xs.length ≤ 9223372036854775807) (hcap : Caps caps) (hq : ∀ x ∈ xs, PC Tryz.prog false f (.agg x.cells :: caps) (.bool (q x)) []) : PC Tryz.prog false 46 [.sl (xs.map StateT.cells), .fn f caps] (.bool (xs.any q)) [] := by
  refine pc_at Tryz.func46 rfl (by kernel_rfl) 9 [.tmp 4] rfl rfl ?_
  repeat' (conv => whnf); first
 | (refine nameB_dec (fun h => ?_) (fun h => ?_) <;> try simp only [lensB] at h)
 | refine Call0 (c_IndexFunc_State xs f caps q hl hcap hq) (congrArg (fun l => [AV.sl _, AV.fn f l]) (hcap.same1 _)) ((Bool.and_true _).trans (hcap.known1 _)) ?_
 | fail
  all_goals
    conv => whnf
    refine OutA_plain rfl rfl ?_
    first
    | (simp_all [idxF_pos, named, AV.sub, AV.sub.subL]; done)
    | (rw [← hT.1, drop_get hx]; simp_all [idxF_pos, List.all_cons, List.any_cons, named, AV.sub, AV.sub.subL]; done)
    | (have hg := drop_get hx; simp_all [idxF_pos, List.all_cons, List.any_cons, named, AV.sub, AV.sub.subL]; done)
    | (rw [List.drop_eq_nil_of_le (by omega)] at hT; simp_all [idxF_pos, named, AV.sub, AV.sub.subL]; done)
theorem c_IndexFunc_Order (xs : List OrderT) (f : Nat) (caps : List AV) (q : OrderT → Bool) (hl : xs.length ≤ 9223372036854775807) (hcap : Caps caps) (hq : ∀ x ∈ xs, PC Tryz.prog false f (.agg x.cells :: caps) (.bool (q x)) []) : PC Tryz.prog false 84 [.sl (xs.map OrderT.cells), .fn f caps] (.int .i64 (idxF q 0 xs)) [] := by
  refine pc_at Tryz.func84 rfl (by kernel_rfl) 19 [.tmp 4] rfl rfl ?_
  repeat' (conv => whnf); first
 | (refine nameB_dec (fun h => ?_) (fun h => ?_) <;> try simp only [lensB] at h)
 | (refine nameB_cases (fun h => ?_) (fun h => ?_) <;> try simp only [nmL, lensB] at h)
 | refine splitB_true ?_
 | refine splitB_false ?_
 | ((refine Loop_at [0, 1, 7] [] (Nat) (fun k => idxF q k (xs.drop k) = idxF q 0 xs ∧ k ≤ xs.length) (fun k => [(8, .int .i64 (k : Nat))]) (fun k => []) (fun k => xs.length - k) 0 ⟨by first | (simp_all <;> fail) | rfl | fail, trivial⟩ trivial (by (try dsimp only); first | trivial | (refine ⟨?_, by omega⟩; simp <;> fail) | (simp <;> fail) | fail) ?_; (conv => whnf); refine side_and (side_of (by first | exact fun k => rfl | exact fun k => by simp [headOk, closedE, closedO, closedL, AV.closed, hcap.closed, hasId, AObj.box, BK.ofB])) ?_; rintro k hT; try dsimp only at hT))
 | (refine Again_of (k + 1) ⟨by first | rfl | exact i64_next (by omega) | (simp_all <;> fail) | fail, trivial⟩ trivial (by first | (and_intros <;> first | rfl | trivial) | fail) (by first | (and_intros <;> first | rfl | trivial) | fail) rfl rfl rfl (by (try dsimp only); (refine ⟨?_, by omega⟩; first | (rw [← hT.1, drop_get hx]; simp_all [idxF, List.all_cons, List.any_cons] <;> fail) | (have hg := drop_get hx; simp_all [idxF, List.all_cons, List.any_cons] <;> fail) | fail)) (show _ < _ by (try dsimp only); omega))
 | refine Call0 (hq x (List.mem_of_getElem? hx)) (congrArg (List.cons _) (hcap.same _)) (hcap.known _) ?_
 | (refine ix_map (by omega) (by (try simp only [List.length_take]); omega) (fun x hx => ?_); try simp only [Int.toNat_natCast] at hx)
 | refine side_and (side_of (by first | (and_intros <;> first | exact Nat.le_of_ble_eq_true rfl | rfl | omega | (simp only [lensB, lensC]; omega) | exact bytes_ok (Nat.le_of_ble_eq_true rfl) (by omega) (by simp only [lensB, lensC]; omega) | exact bytes_okN (Nat.le_of_ble_eq_true rfl) (by simp only [lensB, lensC]; omega)) | fail)) ?_
 | fail
  all_goals
    conv => whnf
    refine OutA_plain rfl rfl ?_
    first
    | (simp_all [idxF, named, AV.sub, AV.sub.subL]; done)
    | (rw [← hT.1, drop_get hx]; simp_all [idxF, List.all_cons, List.any_cons, named, AV.sub, AV.sub.subL]; done)
    | (have hg := drop_get hx; simp_all [idxF, List.all_cons, List.any_cons, named, AV.sub, AV.sub.subL]; done)
    | (rw [List.drop_eq_nil_of_le (by omega)] at hT; simp_all [idxF, named, AV.sub, AV.sub.subL]; done)
theorem c_ContainsFunc_Order (xs : List OrderT) (f : Nat) (caps : List AV) (q : OrderT → Bool) (hl : xs.length ≤ 9223372036854775807) (hcap : Caps caps) (hq : ∀ x ∈ xs, PC Tryz.prog false f (.agg x.cells :: caps) (.bool (q x)) []) : PC Tryz.prog false 50 [.sl (xs.map OrderT.cells), .fn f caps] (.bool (xs.any q)) [] := by
  refine pc_at Tryz.func50 rfl (by kernel_rfl) 9 [.tmp 4] rfl rfl ?_
  repeat' (conv => whnf); first
 | (refine nameB_dec (fun h => ?_) (fun h => ?_) <;> try simp only [lensB] at h)
 | refine Call0 (c_IndexFunc_Order xs f caps q hl hcap hq) (congrArg (fun l => [AV.sl _, AV.fn f l]) (hcap.same1 _)) ((Bool.and_true _).trans (hcap.known1 _)) ?_
 | fail
  all_goals
    conv => whnf
    refine OutA_plain rfl rfl ?_
    first
    | (simp_all [idxF_pos, named, AV.sub, AV.sub.subL]; done)
    | (rw [← hT.1, drop_get hx]; simp_all [idxF_pos, List.all_cons, List.any_cons, named, AV.sub, AV.sub.subL]; done)
    | (have hg := drop_get hx; simp_all [idxF_pos, List.all_cons, List.any_cons, named, AV.sub, AV.sub.subL]; done)
    | (rw [List.drop_eq_nil_of_le (by omega)] at hT; simp_all [idxF_pos, named, AV.sub, AV.sub.subL]; done)
def ordAt (pre : List OrderT) (o : OrderT) : Bool := okOrder o && !pre.any fun p => p.Txn == o.Txn
def okOrders (os : List OrderT) : Bool := allPre ordAt [] os && decide ((os.length : Int) ≤ 8)
theorem ordAt_no {pre : List OrderT} {o : OrderT} (h : okOrder o = false ∨ (pre.any fun p => p.Txn == o.Txn) = true) : ordAt pre o = false := by
  rcases h with h | h <;> simp only [ordAt, h, Bool.not_true, Bool.and_false, Bool.false_and]
theorem ordAt_yes {pre : List OrderT} {o : OrderT} (h : okOrder o = true) (h2 : (pre.any fun p => p.Txn == o.Txn) = false) : ordAt pre o = true := by simp only [ordAt, h, h2, Bool.not_false, Bool.and_self]
theorem c_impl_GoodDeal_1 (s : StateT) (hok : s.ok) (hw : s.w ≤ 1048576) : PC Tryz.prog false 47 [.agg s.cells] (.bool (!okStateS s)) [] := by
  refine pc_at Tryz.func47 rfl (by kernel_rfl) 6 [.tmp 2] rfl rfl ?_
  repeat' (conv => whnf); first
 | refine nameB_true ?_
 | refine nameB_false ?_
 | (refine nameB_cases (fun h => ?_) (fun h => ?_) <;> try simp only [nmL, lensB] at h)
 | refine Call0 (c_impl_GoodState2 s hok hw) rfl rfl ?_
 | refine side_and (side_of (by first | (and_intros <;> first | exact Nat.le_of_ble_eq_true rfl | rfl | omega | (simp only [lensB, lensC]; omega) | exact bytes_ok (Nat.le_of_ble_eq_true rfl) (by omega) (by simp only [lensB, lensC]; omega) | exact bytes_okN (Nat.le_of_ble_eq_true rfl) (by simp only [lensB, lensC]; omega)) | fail)) ?_
 | fail
  all_goals
    conv => whnf
    refine OutA_plain rfl rfl ?_
    first
    | rfl
    | (simp only [*, named, AV.sub, AV.sub.subL, Bool.and_true, Bool.and_false, Bool.true_and, Bool.false_and, Bool.or_true, Bool.or_false, Bool.true_or, Bool.false_or, Bool.not_true, Bool.not_false, if_true, if_false, decide_true, decide_false, Bool.false_eq_true, Bool.and_self]; done)
    | (simp_all [named, AV.sub, AV.sub.subL]; done)
    | (simp_all [named, AV.sub, AV.sub.subL] <;> (intros; omega))
    | (exfalso; omega)
theorem c_impl_GoodDeal_2 (o p : OrderT) : PC Tryz.prog false 51 [.agg p.cells, .rp o.cells] (.bool (p.Txn == o.Txn)) [] := by
  refine pc_at Tryz.func51 rfl (by kernel_rfl) 9 [.tmp 3] rfl rfl ?_
  repeat' (conv => whnf); first
 | (refine nameB_dec (fun h => ?_) (fun h => ?_) <;> try simp only [lensB] at h)
 | refine side_and (side_of (by first | (and_intros <;> first | exact Nat.le_of_ble_eq_true rfl | rfl | omega | (simp only [lensB, lensC]; omega) | exact bytes_ok (Nat.le_of_ble_eq_true rfl) (by omega) (by simp only [lensB, lensC]; omega) | exact bytes_okN (Nat.le_of_ble_eq_true rfl) (by simp only [lensB, lensC]; omega)) | fail)) ?_
 | fail
  all_goals
    conv => whnf
    refine OutA_plain rfl rfl ?_
    first
    | rfl
    | (simp only [*, named, AV.sub, AV.sub.subL, Bool.and_true, Bool.and_false, Bool.true_and, Bool.false_and, Bool.or_true, Bool.or_false, Bool.true_or, Bool.false_or, Bool.not_true, Bool.not_false, if_true, if_false, decide_true, decide_false, Bool.false_eq_true, Bool.and_self]; done)
    | (simp_all [named, AV.sub, AV.sub.subL]; done)
    | (simp_all [named, AV.sub, AV.sub.subL] <;> (intros; omega))
    | (exfalso; omega)
def okDeal (d : DealT) : Bool := (okCuts d.Cuts && decide ((d.States.length : Int) = (d.Cuts.length : Int) + 1) && d.States.all okStateS) && okOrders d.Orders
theorem any_all {α : Type} {p : α → Bool} {xs : List α} : (xs.any fun x => !p x) = !xs.all p := any_notN
theorem neq_yes {d : DealT} (hl : d.Cuts.length ≤ 1048576) (h : ((((d.States.map StateT.cells).length : Nat) : Int) != IntKind.i64.wrap ((((d.Cuts.map strC).length : Nat) : Int) + 1)) = true) : decide ((d.States.length : Int) = (d.Cuts.length : Int) + 1) = false := by
  rw [List.length_map, List.length_map, i64_wrap (by omega) (by omega)] at h
  refine decide_eq_false fun e => ?_
  rw [e] at h
  simp at h
theorem neq_no {d : DealT} (hl : d.Cuts.length ≤ 1048576) (h : ((((d.States.map StateT.cells).length : Nat) : Int) != IntKind.i64.wrap ((((d.Cuts.map strC).length : Nat) : Int) + 1)) = false) : decide ((d.States.length : Int) = (d.Cuts.length : Int) + 1) = true := by
  rw [List.length_map, List.length_map, i64_wrap (by omega) (by omega)] at h
  exact decide_eq_true (by simpa using h)
theorem all_yes {d : DealT} (h : (d.States.any fun s => !okStateS s) = false) : d.States.all okStateS = true := by
  rw [any_all] at h
  cases hq : d.States.all okStateS with
  | true => rfl
  | false => rw [hq] at h; cases h
theorem all_no {d : DealT} (h : (d.States.any fun s => !okStateS s) = true) : d.States.all okStateS = false := by
  rw [any_all] at h
  cases hq : d.States.all okStateS with
  | false => rfl
  | true => rw [hq] at h; cases h
theorem c_impl_GoodDeal (d : DealT) (hok : d.ok) (hw : d.w ≤ 1048576) : PC Tryz.prog false 24 [.agg d.cells] (.bool (okDeal d)) [] := by
  have hl := hok.2.2.1
  have hlc : d.Cuts.length ≤ 1048576 := by have := wL_len (w := List.length) (xs := d.Cuts); have : wL List.length d.Cuts ≤ DealT.w d := by unfold DealT.w; omega
                                           omega
  have hsw : ∀ s ∈ d.States, s.w ≤ 1048576 := fun s hs => by have := (wL_mem (w := StateT.w) hs).2; have : wL StateT.w d.States ≤ DealT.w d := by unfold DealT.w; omega
                                                             omega
  have how : ∀ s ∈ d.Orders, s.w ≤ 1048576 := fun s hs => by have := (wL_mem (w := OrderT.w) hs).2; have : wL OrderT.w d.Orders ≤ DealT.w d := by unfold DealT.w; omega
                                                             omega
  refine pc_at Tryz.func24 rfl (by kernel_rfl) 48 [.tmp 2] rfl rfl ?_
  repeat' (conv => whnf); first
 | (refine nameB_cases (b := d.States.any _) (fun h => ?_) (fun h => ?_))
 | (refine nameB_cases (b := (d.Orders.take k).any _) (fun h => ?_) (fun h => ?_))
 | (refine nameB_cases (b := (((d.States.map StateT.cells).length : Nat) : Int) != _) (fun h => ?_) (fun h => ?_))
 | refine nameB_true ?_
 | refine nameB_false ?_
 | (refine nameB_dec (fun h => ?_) (fun h => ?_) <;> try simp only [lensB] at h)
 | (refine nameB_cases (fun h => ?_) (fun h => ?_) <;> try simp only [nmL, lensB] at h)
 | refine splitB_true ?_
 | refine splitB_false ?_
 | ((refine Loop_at [1, 25, 26] [0] (Nat) (fun k => allPre ordAt (d.Orders.take k) (d.Orders.drop k) = allPre ordAt [] d.Orders ∧ k ≤ d.Orders.length) (fun k => [(27, .int .i64 (k : Nat))]) (fun k => []) (fun k => d.Orders.length - k) 0 ⟨by first | (simp_all <;> fail) | rfl | fail, trivial⟩ trivial (by (try dsimp only); first | (exact ⟨rfl, by omega⟩) | fail) ?_; (conv => whnf); refine side_and (side_of (by first | exact fun k => rfl | exact fun k => by simp [headOk, closedE, closedO, closedL, AV.closed, hcap.closed, hasId, AObj.box, BK.ofB])) ?_; rintro k hT; try dsimp only at hT))
 | (refine Again_of (k + 1) ⟨by first | rfl | exact i64_next (by omega) | (simp_all <;> fail) | fail, trivial⟩ trivial (by first | (and_intros <;> first | rfl | trivial) | fail) (by first | (and_intros <;> first | rfl | trivial) | fail) rfl rfl rfl (by (try dsimp only); first | (exact ⟨allPre_go hT.1 hx (ordAt_yes (by assumption) (by assumption)), by omega⟩) | fail) (show _ < _ by (try dsimp only); omega))
 | refine Call0 (c_impl_GoodCuts d.Cuts hok.1) rfl rfl ?_
 | refine Call0 (c_ContainsFunc_State d.States 47 [] (fun s => !okStateS s) hok.2.1.1 ⟨fun _ => rfl, fun _ => rfl, fun _ => rfl, fun _ => rfl, fun _ => rfl⟩ (fun x hx => c_impl_GoodDeal_1 x (hok.2.1.2 x hx) (hsw x hx))) rfl rfl ?_
 | refine Call0 (c_impl_isOrder x (hok.2.2.2 x (List.mem_of_getElem? hx)) (how x (List.mem_of_getElem? hx))) rfl rfl ?_
 | refine Call0 (c_ContainsFunc_Order (d.Orders.take k) 51 [.rp x.cells] (fun p => p.Txn == x.Txn) (by rw [List.length_take]; omega) ⟨fun _ => rfl, fun _ => rfl, fun _ => rfl, fun _ => rfl, fun _ => rfl⟩ (fun p _ => c_impl_GoodDeal_2 x p)) rfl rfl ?_
 | refine sl_pre (by omega) (fun _ => rfl) ?_
 | (refine ix_map (by omega) (by (try simp only [List.length_take]); omega) (fun x hx => ?_); try simp only [Int.toNat_natCast] at hx)
 | refine side_and (side_of (by first | (and_intros <;> first | exact Nat.le_of_ble_eq_true rfl | rfl | omega | (simp only [lensB, lensC]; omega) | exact bytes_ok (Nat.le_of_ble_eq_true rfl) (by omega) (by simp only [lensB, lensC]; omega) | exact bytes_okN (Nat.le_of_ble_eq_true rfl) (by simp only [lensB, lensC]; omega)) | fail)) ?_
 | fail
  all_goals
    conv => whnf
    refine OutA_plain rfl rfl ?_
    first
    | (have hb := allPre_bad hT.1 hx (ordAt_no (.inl (by assumption))); simp only [okDeal, okOrders, hb, Bool.false_and, Bool.and_false]; rfl)
    | (have hb := allPre_bad hT.1 hx (ordAt_no (.inr (by assumption))); simp only [okDeal, okOrders, hb, Bool.false_and, Bool.and_false]; rfl)
    | (have hb := allPre_end hT.1 (by assumption); simp only [okDeal, okOrders, hb, all_yes (by assumption), neq_no hlc (by assumption), show okCuts d.Cuts = true by assumption, decide_eq_true (show (d.Orders.length : Int) ≤ 8 by assumption), Bool.and_true, Bool.true_and]; rfl)
    | (simp only [okDeal, okOrders, decide_eq_false (show ¬ (d.Orders.length : Int) ≤ 8 by assumption), Bool.and_false]; rfl)
    | (simp only [okDeal, neq_yes hlc (by assumption), Bool.and_false, Bool.false_and]; rfl)
    | (simp only [okDeal, all_no (by assumption), Bool.and_false, Bool.false_and]; rfl)
    | (simp only [okDeal, show okCuts d.Cuts = false by assumption, Bool.false_and]; rfl)
theorem c_spec_l15Orders (os : List OrderT) (hok : okL OrderT.ok os) (how : ∀ o ∈ os, o.w ≤ 1048576) : PC Tryz.prog false 39 [.sl (os.map OrderT.cells)] (.bool (okOrders os)) [] := by
  have hl := hok.1
  refine pc_at Tryz.func39 rfl (by kernel_rfl) 35 [.tmp 2] rfl rfl ?_
  repeat' (conv => whnf); first
 | refine nameB_true ?_
 | refine nameB_false ?_
 | (refine nameB_dec (fun h => ?_) (fun h => ?_) <;> try simp only [lensB] at h)
 | (refine nameB_cases (fun h => ?_) (fun h => ?_) <;> try simp only [nmL, lensB] at h)
 | refine splitB_true ?_
 | refine splitB_false ?_
 | (refine Loop_at [0, 7, 8] [] (Nat) (fun k => allPre ordAt (os.take k) (os.drop k) = allPre ordAt [] os ∧ k ≤ os.length) (fun k => [(9, .int .i64 (k : Nat))]) (fun k => []) (fun k => os.length - k) 0 ⟨by first | (simp_all <;> fail) | rfl | fail, trivial⟩ trivial (by (try dsimp only); first | (exact ⟨rfl, by omega⟩) | fail) ?_; (conv => whnf); refine side_and (side_of (by first | exact fun k => rfl | exact fun k => by simp [headOk, closedE, closedO, closedL, AV.closed, hcap.closed, hasId, AObj.box, BK.ofB])) ?_; rintro k hT; try dsimp only at hT)
 | (refine Loop_at [0, 4, 7, 8, 9, 19, 20] [12336] (Nat) (fun i => ((os.take k).drop i).any (fun p => p.Txn == x.Txn) = (os.take k).any (fun p => p.Txn == x.Txn) ∧ i ≤ k) (fun i => [(21, .int .i64 (i : Nat))]) (fun i => []) (fun i => k - i) 0 ⟨by first | (simp_all <;> fail) | rfl | fail, trivial⟩ trivial (by (try dsimp only); first | (exact ⟨rfl, by omega⟩) | fail) ?_; (conv => whnf); refine side_and (side_of (by first | exact fun i => rfl | exact fun i => by simp [headOk, closedE, closedO, closedL, AV.closed, hcap.closed, hasId, AObj.box, BK.ofB])) ?_; rintro i hI; try dsimp only at hI)
 | refine Again_of (k + 1) ⟨by first | rfl | exact i64_next (by omega) | (simp_all <;> fail) | fail, trivial⟩ trivial (by first | (and_intros <;> first | rfl | trivial) | fail) (by first | (and_intros <;> first | rfl | trivial) | fail) rfl rfl rfl (by (try dsimp only); first | (exact ⟨allPre_go hT.1 hx (ordAt_yes (by assumption) (any_end hI.1 (by rw [List.length_take]; assumption))), by omega⟩) | fail) (show _ < _ by (try dsimp only); omega)
 | refine Again_of (i + 1) ⟨by first | rfl | exact i64_next (by omega) | (simp_all <;> fail) | fail, trivial⟩ trivial (by first | (and_intros <;> first | rfl | trivial) | fail) (by first | (and_intros <;> first | rfl | trivial) | fail) rfl rfl rfl (by (try dsimp only); first | (exact ⟨any_go hI.1 hy (by first | (simp_all; done) | (rw [beq_eq_false_iff_ne]; intro e; simp_all; done) | (rw [beq_eq_false_iff_ne]; omega)), by omega⟩) | fail) (show _ < _ by (try dsimp only); omega)
 | refine Call0 (c_spec_l15Order x (hok.2 x (List.mem_of_getElem? hx)) (how x (List.mem_of_getElem? hx))) rfl rfl ?_
 | refine sl_pre (by omega) (fun _ => rfl) ?_
 | (refine ix_map2 hx (by omega) (by (try simp only [List.length_take]); omega) (fun y hy => ?_); try simp only [Int.toNat_natCast] at hy)
 | (refine ix_map (by omega) (by (try simp only [List.length_take]); omega) (fun x hx => ?_); try simp only [Int.toNat_natCast] at hx)
 | refine side_and (side_of (by first | (and_intros <;> first | exact Nat.le_of_ble_eq_true rfl | rfl | omega | (simp only [lensB, lensC]; omega) | exact bytes_ok (Nat.le_of_ble_eq_true rfl) (by omega) (by simp only [lensB, lensC]; omega) | exact bytes_okN (Nat.le_of_ble_eq_true rfl) (by simp only [lensB, lensC]; omega)) | fail)) ?_
 | fail
  all_goals
    conv => whnf
    refine OutA_plain rfl rfl ?_
    first
    | (have hb := allPre_bad hT.1 hx (ordAt_no (.inl (by assumption))); simp [okOrders, hb, named, AV.sub]; done)
    | (have hb := allPre_bad hT.1 hx (ordAt_no (.inr (any_hit hI.1 hy (by first | (simp_all; done) | (rw [beq_iff_eq]; omega))))); simp [okOrders, hb, named, AV.sub]; done)
    | (have hb := allPre_end hT.1 (by assumption); simp_all [okOrders, named, AV.sub]; done)
theorem deal_len {d : DealT} (hw : d.w ≤ 1048576) : d.Cuts.length ≤ 1048576 ∧ d.States.length ≤ 1048576 ∧ (∀ s ∈ d.States, s.w ≤ 1048576) ∧ (∀ o ∈ d.Orders, o.w ≤ 1048576) := by
  have h : d.w = wL List.length d.Cuts + wL StateT.w d.States + wL OrderT.w d.Orders := rfl
  have h1 := wL_len (w := List.length) (xs := d.Cuts)
  have h2 := wL_len (w := StateT.w) (xs := d.States)
  refine ⟨by omega, by omega, fun s hs => ?_, fun o ho => ?_⟩
  · have := (wL_mem (w := StateT.w) hs).2; omega
  · have := (wL_mem (w := OrderT.w) ho).2; omega
theorem c_spec_l15Good (d : DealT) (hok : d.ok) (hw : d.w ≤ 1048576) : PC Tryz.prog false 16 [.agg d.cells] (.bool (okDeal d)) [] := by
  have hl := hok.2.1.1
  have hd := deal_len hw
  refine pc_at Tryz.func16 rfl (by kernel_rfl) 34 [.tmp 2] rfl rfl ?_
  repeat' (conv => whnf); first
 | refine nameB_true ?_
 | refine nameB_false ?_
 | (refine nameB_dec (fun h => ?_) (fun h => ?_) <;> try simp only [lensB] at h)
 | (refine nameB_cases (fun h => ?_) (fun h => ?_) <;> try simp only [nmL, lensB] at h)
 | refine splitB_true ?_
 | refine splitB_false ?_
 | ((refine Loop_at [1, 6, 7] [0] (Nat) (fun k => (d.States.drop k).all okStateS = d.States.all okStateS ∧ k ≤ d.States.length) (fun k => [(8, .int .i64 (k : Nat))]) (fun k => []) (fun k => d.States.length - k) 0 ⟨by first | (simp_all <;> fail) | rfl | fail, trivial⟩ trivial (by (try dsimp only); first | (exact ⟨rfl, by omega⟩) | fail) ?_; (conv => whnf); refine side_and (side_of (by first | exact fun k => rfl | exact fun k => by simp [headOk, closedE, closedO, closedL, AV.closed, hcap.closed, hasId, AObj.box, BK.ofB])) ?_; rintro k hT; try dsimp only at hT))
 | (refine Again_of (k + 1) ⟨by first | rfl | exact i64_next (by omega) | (simp_all <;> fail) | fail, trivial⟩ trivial (by first | (and_intros <;> first | rfl | trivial) | fail) (by first | (and_intros <;> first | rfl | trivial) | fail) rfl rfl rfl (by (try dsimp only); first | (exact ⟨all_go hT.1 hx (by assumption), by omega⟩) | fail) (show _ < _ by (try dsimp only); omega))
 | refine Call0 (c_spec_l13Good x (hok.2.1.2 x (List.mem_of_getElem? hx)) (hd.2.2.1 x (List.mem_of_getElem? hx))) rfl rfl ?_
 | refine Call0 (c_spec_l15Cuts d.Cuts hok.1) rfl rfl ?_
 | refine Call0 (c_spec_l15Orders d.Orders hok.2.2 hd.2.2.2) rfl rfl ?_
 | (refine ix_map (by omega) (by (try simp only [List.length_take]); omega) (fun x hx => ?_); try simp only [Int.toNat_natCast] at hx)
 | refine side_and (side_of (by first | (and_intros <;> first | exact Nat.le_of_ble_eq_true rfl | rfl | omega | (simp only [lensB, lensC]; omega) | exact bytes_ok (Nat.le_of_ble_eq_true rfl) (by omega) (by simp only [lensB, lensC]; omega) | exact bytes_okN (Nat.le_of_ble_eq_true rfl) (by simp only [lensB, lensC]; omega)) | fail)) ?_
 | fail
  all_goals
    conv => whnf
    refine OutA_plain rfl rfl ?_
    first
    | (have hb := all_bad hT.1 hx (by assumption); simp only [okDeal, hb, Bool.false_and, Bool.and_false]; rfl)
    | (have hb := all_end hT.1 (by assumption); simp_all [okDeal, named, AV.sub, i64_wrap_eq]; done)
    | (have hb := all_end hT.1 (by assumption); simp_all [okDeal, named, AV.sub, i64_wrap_eq] <;> (intros; omega))
end Go.Proofs.YthbheejeloomjaaGreat
