/-
  The laws on states return true.
  No condition.
-/
import Derived.Test.YtcdlapjpnenkdaaGreatState10
namespace Go.Proofs.YtcdlapjpnenkdaaGreat
open Go.Ab
set_option linter.unusedSimpArgs false
set_option maxRecDepth 20000
set_option maxHeartbeats 4000000
set_option linter.unusedVariables false

theorem c_impl_GoodState2 (s : StateT) (hok : s.ok) (hw : s.w ≤ 1048576) : PC Tryz.prog false 11 [.agg s.cells] (.bool (okStateS s)) [] := by
  rw [← okState_eq]
  exact c_impl_GoodState s hok hw
theorem c_laws_FnExactGoodState (a : StateT) (hok : a.ok) : PC Tryz.prog false 3 [.agg a.cells] (.bool true) [] := by
  refine pc_at Tryz.func3 rfl (by kernel_rfl) 27 [.tmp 2] rfl rfl ?_
  repeat' (conv => whnf); first
    | refine nameB_true ?_
    | refine nameB_false ?_
    | refine nameB_yes (by assumption) ?_
    | refine nameB_no (by assumption) ?_
    | refine nameB_dyes (by assumption) ?_
    | refine nameB_dno (by assumption) ?_
    | (refine nameB_dec (fun h => ?_) (fun h => ?_) <;> try simp only [List.length_map, List.length_take, List.length_append, List.length_drop, markList_length, Int.toNat_natCast, fact_byte] at h)
    | (refine nameB_cases (fun h => ?_) (fun h => ?_) <;> try simp only [bne_iff_ne, ne_eq, bne_eq_false_iff_eq, beq_iff_eq, beq_eq_false_iff_ne, Bool.not_eq_true', Bool.not_eq_false', Bool.or_eq_true, Bool.or_eq_false_iff, List.length_map, List.length_take, List.length_append, List.length_drop, markList_length, Int.toNat_natCast, fact_byte] at h)
    | refine splitB_true ?_
    | refine splitB_false ?_
    | (refine splitB_intro (fun h => ?_) (fun h => ?_) <;> subst h)
    | refine ⟨⟨by kernel_rfl, by kernel_rfl, by kernel_rfl⟩, ?_⟩
    | (show Go.Ab.CallA _ _ _ _ _ _ _; first
        | (by_cases hn : (1048576 : Int) - ((StateT.w a : Nat) : Int) < 0 <;> first | refine Call0 (pc_szneg (c_laws_szState a (1048576 : Int) (by omega) (by omega) hok) hn) rfl rfl ?_ | refine Call0 (pc_szpos (c_laws_szState a (1048576 : Int) (by omega) (by omega) hok) hn) rfl rfl ?_)
        | refine Call0 (c_spec_GoodState a hok (by omega)) rfl rfl ?_
        | refine Call0 (c_impl_GoodState2 a hok (by omega)) rfl rfl ?_
        | refine CallT (c_laws_toState a (by omega)) rfl rfl rfl rfl (Nat.le_of_ble_eq_true rfl) ?_
        | refine Call0 (pc_true (c_laws_eqState a a hok) rfl) rfl rfl ?_)
    | (show Go.Ab.CallD _ _ _ _ _ _ _; first
        | (by_cases hn : (1048576 : Int) - ((StateT.w a : Nat) : Int) < 0 <;> first | refine CallD0 (pc_szneg (c_laws_szState a (1048576 : Int) (by omega) (by omega) hok) hn) rfl rfl rfl ?_ | refine CallD0 (pc_szpos (c_laws_szState a (1048576 : Int) (by omega) (by omega) hok) hn) rfl rfl rfl ?_)
        | refine CallD0 (c_spec_GoodState a hok (by omega)) rfl rfl rfl ?_
        | refine CallD0 (c_impl_GoodState2 a hok (by omega)) rfl rfl rfl ?_
        | refine CallDT (c_laws_toState a (by omega)) rfl rfl rfl ⟨rfl, rfl⟩ ?_
        | refine CallD0 (pc_true (c_laws_eqState a a hok) rfl) rfl rfl rfl ?_)
    | refine ix_map_at hx ?_
    | refine ix_map_at hy ?_
    | refine sl_pre (by omega) (fun _ => rfl) ?_
    | refine sl_suf (by omega) (fun _ => rfl) ?_
    | (refine ix_map2 hx (by omega) (by (try simp only [List.length_take]); omega) (fun y hy => ?_); try simp only [Int.toNat_natCast] at hy)
    | (refine ix_map (by omega) (by (try simp only [List.length_take]); omega) (fun x hx => ?_); try simp only [Int.toNat_natCast] at hx)
    | refine side_and (side_of (by first | (and_intros <;> first | exact Nat.le_of_ble_eq_true rfl | rfl | omega | (simp only [List.length_map, List.length_append, List.length_replicate, List.length_take, List.length_cons, List.length_nil, List.length_drop, List.length_set, markList_length]; omega) | exact bytes_ok (Nat.le_of_ble_eq_true rfl) (by omega) (by simp only [List.length_map, List.length_append, List.length_replicate, List.length_take, List.length_cons, List.length_nil, List.length_drop, List.length_set, markList_length]; omega) | exact bytes_okN (Nat.le_of_ble_eq_true rfl) (by simp only [List.length_map, List.length_append, List.length_replicate, List.length_take, List.length_cons, List.length_nil, List.length_drop, List.length_set, markList_length]; omega)) | fail)) ?_
    | refine nilB_intro (fun h => ?_) ?_
    | refine side_and (side_of (show Go.Ab.structOk _ _ = true by kernel_rfl)) ?_
    | refine side_and (side_of (map_len (fun _ => rfl))) ?_
    | refine side_and (side_of (map_one (fun _ => rfl) _)) ?_
    | refine side_and ?_ ?_
    | refine LoadK_of rfl rfl ?_
    | (show False; omega)
  all_goals
    conv => whnf
    refine OutA_plain rfl rfl ?_
    first
    | rfl
    | (simp_all [named, AV.sub, AV.sub.subL]; done)
    | (simp_all [named, AV.sub, AV.sub.subL] <;> omega)
def mostP (s : StateT) (p : Int) : Int := if s.Floor > p then s.Floor else p
def pB (s : StateT) (p : Int) : Bool := okStateS s && inB 0 p 100000 && !(mostP s p == 100000)
def pT (s : StateT) (p : Int) : Int := if pB s p = true then IntKind.i64.wrap (mostP s p + 1) else 0
theorem c_spec_PrepareTime (s : StateT) (p : Int) (hok : s.ok) (hw : s.w ≤ 1048576) : PC Tryz.prog false 13 [.agg s.cells, .int .i64 p] (.tup [.int .i64 (pT s p), .bool (pB s p)]) [] := by
  refine pc_at Tryz.func13 rfl (by kernel_rfl) 26 [.tmp 4, .tmp 5] rfl rfl ?_
  repeat' (conv => whnf); first
    | (refine nameB_cases (b := mostP s p == 100000) (fun h => ?_) (fun h => ?_))
    | refine nameB_true ?_
    | refine nameB_false ?_
    | refine nameB_yes (by assumption) ?_
    | refine nameB_no (by assumption) ?_
    | refine nameB_dyes (by assumption) ?_
    | refine nameB_dno (by assumption) ?_
    | (refine nameB_dec (fun h => ?_) (fun h => ?_) <;> try simp only [List.length_map, List.length_take, List.length_append, List.length_drop, markList_length, Int.toNat_natCast, fact_byte] at h)
    | (refine nameB_cases (fun h => ?_) (fun h => ?_) <;> try simp only [bne_iff_ne, ne_eq, bne_eq_false_iff_eq, beq_iff_eq, beq_eq_false_iff_ne, Bool.not_eq_true', Bool.not_eq_false', Bool.or_eq_true, Bool.or_eq_false_iff, List.length_map, List.length_take, List.length_append, List.length_drop, markList_length, Int.toNat_natCast, fact_byte] at h)
    | refine splitB_true ?_
    | refine splitB_false ?_
    | (refine splitB_intro (fun h => ?_) (fun h => ?_) <;> subst h)
    | refine ⟨⟨by kernel_rfl, by kernel_rfl, by kernel_rfl⟩, ?_⟩
    | (show Go.Ab.CallA _ _ _ _ _ _ _; first
        | refine Call0 (c_spec_l13Good s hok hw) rfl rfl ?_
        | refine Call0 (c_spec_l2True6 ..) rfl rfl ?_
        | refine Call0 (c_spec_l1Most9 s.Floor p) rfl rfl ?_)
    | refine ix_map_at hx ?_
    | refine ix_map_at hy ?_
    | refine sl_pre (by omega) (fun _ => rfl) ?_
    | refine sl_suf (by omega) (fun _ => rfl) ?_
    | (refine ix_map2 hx (by omega) (by (try simp only [List.length_take]); omega) (fun y hy => ?_); try simp only [Int.toNat_natCast] at hy)
    | (refine ix_map (by omega) (by (try simp only [List.length_take]); omega) (fun x hx => ?_); try simp only [Int.toNat_natCast] at hx)
    | refine side_and (side_of (by first | (and_intros <;> first | exact Nat.le_of_ble_eq_true rfl | rfl | omega | (simp only [List.length_map, List.length_append, List.length_replicate, List.length_take, List.length_cons, List.length_nil, List.length_drop, List.length_set, markList_length]; omega) | exact bytes_ok (Nat.le_of_ble_eq_true rfl) (by omega) (by simp only [List.length_map, List.length_append, List.length_replicate, List.length_take, List.length_cons, List.length_nil, List.length_drop, List.length_set, markList_length]; omega) | exact bytes_okN (Nat.le_of_ble_eq_true rfl) (by simp only [List.length_map, List.length_append, List.length_replicate, List.length_take, List.length_cons, List.length_nil, List.length_drop, List.length_set, markList_length]; omega)) | fail)) ?_
    | refine nilB_intro (fun h => ?_) ?_
    | refine side_and (side_of (show Go.Ab.structOk _ _ = true by kernel_rfl)) ?_
    | refine side_and (side_of (map_len (fun _ => rfl))) ?_
    | refine side_and (side_of (map_one (fun _ => rfl) _)) ?_
    | refine side_and ?_ ?_
    | refine LoadK_of rfl rfl ?_
    | (show False; omega)
  all_goals
    conv => whnf
    refine OutA_plain rfl rfl ?_
    simp only [pT, pB, *, Bool.false_and, Bool.and_false, Bool.true_and, Bool.not_true, Bool.not_false, Bool.false_eq_true, if_true, if_false]
    rfl
theorem prep_eq (s : StateT) (p : Int) : ifT (okStateI s && inB 0 p 100000) (prepT s p) = pT s p ∧ ifO (okStateI s && inB 0 p 100000) (prepT s p) = pB s p := by
  unfold ifT ifO pT pB
  rw [← okState_eq]
  cases h : okStateI s with
  | false => simp
  | true =>
    cases h2 : inB 0 p 100000 with
    | false => simp
    | true =>
      have h3 := floor_of h
      have h4 := inBB h2
      simp only [Bool.true_and, if_true, Bool.not_eq_true']
      have e : prepT s p = mostP s p + 1 := by
        unfold prepT mostP
        rw [i64_wrap (by split <;> omega) (by split <;> omega)]
        split <;> split <;> omega
      have e2 : 0 ≤ mostP s p ∧ mostP s p ≤ 100000 := by unfold mostP; split <;> omega
      rw [e]
      by_cases e3 : mostP s p = 100000
      · rw [e3]; simp
      · have e4 : ¬ mostP s p + 1 > 100000 := by omega
        have e5 : (mostP s p == 100000) = false := beq_eq_false_iff_ne.2 e3
        rw [if_neg e4, e5, decide_eq_false e4, i64_wrap (by omega) (by omega)]
        simp
theorem c_impl_PrepareTime2 (s : StateT) (p : Int) (hok : s.ok) (hw : s.w ≤ 1048576) : PC Tryz.prog false 14 [.agg s.cells, .int .i64 p] (.tup [.int .i64 (pT s p), .bool (pB s p)]) [] := by
  rw [← (prep_eq s p).1, ← (prep_eq s p).2]
  exact c_impl_PrepareTime s p hok hw
theorem c_laws_FnExactPrepareTime (a : StateT) (p : Int) (hok : a.ok) : PC Tryz.prog false 4 [.agg a.cells, .int .i64 p] (.bool true) [] := by
  refine pc_at Tryz.func4 rfl (by kernel_rfl) 44 [.tmp 4] rfl rfl ?_
  repeat' (conv => whnf); first
    | refine nameB_self (b := pB a p) ?_
    | refine nameB_no (b := !(pB a p == pB a p)) (by simp) ?_
    | refine nameB_no (b := pT a p != pT a p) (by simp) ?_
    | refine nameB_true ?_
    | refine nameB_false ?_
    | refine nameB_yes (by assumption) ?_
    | refine nameB_no (by assumption) ?_
    | refine nameB_dyes (by assumption) ?_
    | refine nameB_dno (by assumption) ?_
    | (refine nameB_dec (fun h => ?_) (fun h => ?_) <;> try simp only [List.length_map, List.length_take, List.length_append, List.length_drop, markList_length, Int.toNat_natCast, fact_byte] at h)
    | (refine nameB_cases (fun h => ?_) (fun h => ?_) <;> try simp only [bne_iff_ne, ne_eq, bne_eq_false_iff_eq, beq_iff_eq, beq_eq_false_iff_ne, Bool.not_eq_true', Bool.not_eq_false', Bool.or_eq_true, Bool.or_eq_false_iff, List.length_map, List.length_take, List.length_append, List.length_drop, markList_length, Int.toNat_natCast, fact_byte] at h)
    | refine splitB_true ?_
    | refine splitB_false ?_
    | (refine splitB_intro (fun h => ?_) (fun h => ?_) <;> subst h)
    | refine ⟨⟨by kernel_rfl, by kernel_rfl, by kernel_rfl⟩, ?_⟩
    | (show Go.Ab.CallA _ _ _ _ _ _ _; first
        | (by_cases hn : (1048576 : Int) - ((StateT.w a : Nat) : Int) < 0 <;> first | refine Call0 (pc_szneg (c_laws_szState a (1048576 : Int) (by omega) (by omega) hok) hn) rfl rfl ?_ | refine Call0 (pc_szpos (c_laws_szState a (1048576 : Int) (by omega) (by omega) hok) hn) rfl rfl ?_)
        | refine Call0 (c_spec_PrepareTime a p hok (by omega)) rfl rfl ?_
        | refine Call0 (c_impl_PrepareTime2 a p hok (by omega)) rfl rfl ?_
        | refine CallT (c_laws_toState a (by omega)) rfl rfl rfl rfl (Nat.le_of_ble_eq_true rfl) ?_
        | refine Call0 (pc_true (c_laws_eqState a a hok) rfl) rfl rfl ?_)
    | (show Go.Ab.CallD _ _ _ _ _ _ _; first
        | (by_cases hn : (1048576 : Int) - ((StateT.w a : Nat) : Int) < 0 <;> first | refine CallD0 (pc_szneg (c_laws_szState a (1048576 : Int) (by omega) (by omega) hok) hn) rfl rfl rfl ?_ | refine CallD0 (pc_szpos (c_laws_szState a (1048576 : Int) (by omega) (by omega) hok) hn) rfl rfl rfl ?_)
        | refine CallD0 (c_spec_PrepareTime a p hok (by omega)) rfl rfl rfl ?_
        | refine CallD0 (c_impl_PrepareTime2 a p hok (by omega)) rfl rfl rfl ?_
        | refine CallDT (c_laws_toState a (by omega)) rfl rfl rfl ⟨rfl, rfl⟩ ?_
        | refine CallD0 (pc_true (c_laws_eqState a a hok) rfl) rfl rfl rfl ?_)
    | refine ix_map_at hx ?_
    | refine ix_map_at hy ?_
    | refine sl_pre (by omega) (fun _ => rfl) ?_
    | refine sl_suf (by omega) (fun _ => rfl) ?_
    | (refine ix_map2 hx (by omega) (by (try simp only [List.length_take]); omega) (fun y hy => ?_); try simp only [Int.toNat_natCast] at hy)
    | (refine ix_map (by omega) (by (try simp only [List.length_take]); omega) (fun x hx => ?_); try simp only [Int.toNat_natCast] at hx)
    | refine side_and (side_of (by first | (and_intros <;> first | exact Nat.le_of_ble_eq_true rfl | rfl | omega | (simp only [List.length_map, List.length_append, List.length_replicate, List.length_take, List.length_cons, List.length_nil, List.length_drop, List.length_set, markList_length]; omega) | exact bytes_ok (Nat.le_of_ble_eq_true rfl) (by omega) (by simp only [List.length_map, List.length_append, List.length_replicate, List.length_take, List.length_cons, List.length_nil, List.length_drop, List.length_set, markList_length]; omega) | exact bytes_okN (Nat.le_of_ble_eq_true rfl) (by simp only [List.length_map, List.length_append, List.length_replicate, List.length_take, List.length_cons, List.length_nil, List.length_drop, List.length_set, markList_length]; omega)) | fail)) ?_
    | refine nilB_intro (fun h => ?_) ?_
    | refine side_and (side_of (show Go.Ab.structOk _ _ = true by kernel_rfl)) ?_
    | refine side_and (side_of (map_len (fun _ => rfl))) ?_
    | refine side_and (side_of (map_one (fun _ => rfl) _)) ?_
    | refine side_and ?_ ?_
    | refine LoadK_of rfl rfl ?_
    | (show False; omega)
  all_goals
    conv => whnf
    refine OutA_plain rfl rfl ?_
    first
    | rfl
    | (simp_all [named, AV.sub, AV.sub.subL]; done)
    | (simp_all [named, AV.sub, AV.sub.subL] <;> omega)
theorem c_laws_FnExactSettledTo (a : StateT) (hok : a.ok) : PC Tryz.prog false 6 [.agg a.cells] (.bool true) [] := by
  have hI : a.w ≤ 1048576 → PC Tryz.prog false 19 [.agg a.cells] (.tup [.int .i64 (if okStateS a = true then settS a.Floor a.Held else 0), .bool (okStateS a)]) [] := fun hw => by
    have := c_impl_SettledTo a hok hw
    rw [okState_eq, sett_eq] at this
    exact this
  refine pc_at Tryz.func6 rfl (by kernel_rfl) 40 [.tmp 2] rfl rfl ?_
  repeat' (conv => whnf); first
    | refine nameB_self (b := okStateS a) ?_
    | refine nameB_no (b := !(okStateS a == okStateS a)) (by simp) ?_
    | refine nameB_no (b := (if okStateS a = true then settS a.Floor a.Held else 0) != (if okStateS a = true then settS a.Floor a.Held else 0)) (by simp) ?_
    | refine nameB_true ?_
    | refine nameB_false ?_
    | refine nameB_yes (by assumption) ?_
    | refine nameB_no (by assumption) ?_
    | refine nameB_dyes (by assumption) ?_
    | refine nameB_dno (by assumption) ?_
    | (refine nameB_dec (fun h => ?_) (fun h => ?_) <;> try simp only [List.length_map, List.length_take, List.length_append, List.length_drop, markList_length, Int.toNat_natCast, fact_byte] at h)
    | (refine nameB_cases (fun h => ?_) (fun h => ?_) <;> try simp only [bne_iff_ne, ne_eq, bne_eq_false_iff_eq, beq_iff_eq, beq_eq_false_iff_ne, Bool.not_eq_true', Bool.not_eq_false', Bool.or_eq_true, Bool.or_eq_false_iff, List.length_map, List.length_take, List.length_append, List.length_drop, markList_length, Int.toNat_natCast, fact_byte] at h)
    | refine splitB_true ?_
    | refine splitB_false ?_
    | (refine splitB_intro (fun h => ?_) (fun h => ?_) <;> subst h)
    | refine ⟨⟨by kernel_rfl, by kernel_rfl, by kernel_rfl⟩, ?_⟩
    | (show Go.Ab.CallA _ _ _ _ _ _ _; first
        | (by_cases hn : (1048576 : Int) - ((StateT.w a : Nat) : Int) < 0 <;> first | refine Call0 (pc_szneg (c_laws_szState a (1048576 : Int) (by omega) (by omega) hok) hn) rfl rfl ?_ | refine Call0 (pc_szpos (c_laws_szState a (1048576 : Int) (by omega) (by omega) hok) hn) rfl rfl ?_)
        | refine Call0 (c_spec_SettledTo a hok (by omega)) rfl rfl ?_
        | refine Call0 (hI (by omega)) rfl rfl ?_
        | refine CallT (c_laws_toState a (by omega)) rfl rfl rfl rfl (Nat.le_of_ble_eq_true rfl) ?_
        | refine Call0 (pc_true (c_laws_eqState a a hok) rfl) rfl rfl ?_)
    | (show Go.Ab.CallD _ _ _ _ _ _ _; first
        | (by_cases hn : (1048576 : Int) - ((StateT.w a : Nat) : Int) < 0 <;> first | refine CallD0 (pc_szneg (c_laws_szState a (1048576 : Int) (by omega) (by omega) hok) hn) rfl rfl rfl ?_ | refine CallD0 (pc_szpos (c_laws_szState a (1048576 : Int) (by omega) (by omega) hok) hn) rfl rfl rfl ?_)
        | refine CallD0 (c_spec_SettledTo a hok (by omega)) rfl rfl rfl ?_
        | refine CallD0 (hI (by omega)) rfl rfl rfl ?_
        | refine CallDT (c_laws_toState a (by omega)) rfl rfl rfl ⟨rfl, rfl⟩ ?_
        | refine CallD0 (pc_true (c_laws_eqState a a hok) rfl) rfl rfl rfl ?_)
    | refine ix_map_at hx ?_
    | refine ix_map_at hy ?_
    | refine sl_pre (by omega) (fun _ => rfl) ?_
    | refine sl_suf (by omega) (fun _ => rfl) ?_
    | (refine ix_map2 hx (by omega) (by (try simp only [List.length_take]); omega) (fun y hy => ?_); try simp only [Int.toNat_natCast] at hy)
    | (refine ix_map (by omega) (by (try simp only [List.length_take]); omega) (fun x hx => ?_); try simp only [Int.toNat_natCast] at hx)
    | refine side_and (side_of (by first | (and_intros <;> first | exact Nat.le_of_ble_eq_true rfl | rfl | omega | (simp only [List.length_map, List.length_append, List.length_replicate, List.length_take, List.length_cons, List.length_nil, List.length_drop, List.length_set, markList_length]; omega) | exact bytes_ok (Nat.le_of_ble_eq_true rfl) (by omega) (by simp only [List.length_map, List.length_append, List.length_replicate, List.length_take, List.length_cons, List.length_nil, List.length_drop, List.length_set, markList_length]; omega) | exact bytes_okN (Nat.le_of_ble_eq_true rfl) (by simp only [List.length_map, List.length_append, List.length_replicate, List.length_take, List.length_cons, List.length_nil, List.length_drop, List.length_set, markList_length]; omega)) | fail)) ?_
    | refine nilB_intro (fun h => ?_) ?_
    | refine side_and (side_of (show Go.Ab.structOk _ _ = true by kernel_rfl)) ?_
    | refine side_and (side_of (map_len (fun _ => rfl))) ?_
    | refine side_and (side_of (map_one (fun _ => rfl) _)) ?_
    | refine side_and ?_ ?_
    | refine LoadK_of rfl rfl ?_
    | (show False; omega)
  all_goals
    conv => whnf
    refine OutA_plain rfl rfl ?_
    first
    | rfl
    | (simp_all [named, AV.sub, AV.sub.subL]; done)
    | (simp_all [named, AV.sub, AV.sub.subL] <;> omega)
theorem out_eq (s : StateT) (t : Int) : outT (okStateI s && bsHit (tK t) s.Told) (toldAt s t) = outT (okStateS s) (toldS s t) ∧ (okStateI s && bsHit (tK t) s.Told) = (okStateS s && (s.Told.find? (tEq t)).isSome) := by
  rw [← okState_eq]
  cases h : okStateI s with
  | false => exact ⟨rfl, rfl⟩
  | true =>
    rw [told_hit h]
    refine ⟨?_, rfl⟩
    cases hb : bsHit (tK t) s.Told with
    | false =>
      rw [told_hit h] at hb
      rw [hb]
      rw [← told_hit h] at hb
      unfold outT
      simp [told_no h t hb]
    | true =>
      have e := told_at h t hb
      rw [told_hit h] at hb
      rw [hb]
      unfold outT
      simp [e]
theorem c_laws_FnExactOutcomeOf (a : StateT) (t : Int) (hok : a.ok) : PC Tryz.prog false 5 [.agg a.cells, .int .i64 t] (.bool true) [] := by
  have hI : a.w ≤ 1048576 → PC Tryz.prog false 16 [.agg a.cells, .int .i64 t] (.tup [.agg (outT (okStateS a) (toldS a t)).cells, .bool (okStateS a && (a.Told.find? (tEq t)).isSome)]) [] := fun hw => by
    rw [← (out_eq a t).1, ← (out_eq a t).2]
    exact c_impl_OutcomeOf a t hok hw
  refine pc_at Tryz.func5 rfl (by kernel_rfl) 45 [.tmp 4] rfl rfl ?_
  repeat' (conv => whnf); first
    | refine nameB_self (b := (outT (okStateS a) (toldS a t)).Yes) ?_
    | refine nameB_self (b := okStateS a && (a.Told.find? (tEq t)).isSome) ?_
    | refine nameB_no (b := !((okStateS a && (a.Told.find? (tEq t)).isSome) == (okStateS a && (a.Told.find? (tEq t)).isSome))) (by simp) ?_
    | refine nameB_true ?_
    | refine nameB_false ?_
    | refine nameB_yes (by assumption) ?_
    | refine nameB_no (by assumption) ?_
    | refine nameB_dyes (by assumption) ?_
    | refine nameB_dno (by assumption) ?_
    | (refine nameB_dec (fun h => ?_) (fun h => ?_) <;> try simp only [List.length_map, List.length_take, List.length_append, List.length_drop, markList_length, Int.toNat_natCast, fact_byte] at h)
    | (refine nameB_cases (fun h => ?_) (fun h => ?_) <;> try simp only [bne_iff_ne, ne_eq, bne_eq_false_iff_eq, beq_iff_eq, beq_eq_false_iff_ne, Bool.not_eq_true', Bool.not_eq_false', Bool.or_eq_true, Bool.or_eq_false_iff, List.length_map, List.length_take, List.length_append, List.length_drop, markList_length, Int.toNat_natCast, fact_byte] at h)
    | refine splitB_true ?_
    | refine splitB_false ?_
    | (refine splitB_intro (fun h => ?_) (fun h => ?_) <;> subst h)
    | refine ⟨⟨by kernel_rfl, by kernel_rfl, by kernel_rfl⟩, ?_⟩
    | (show Go.Ab.CallA _ _ _ _ _ _ _; first
        | (by_cases hn : (1048576 : Int) - ((StateT.w a : Nat) : Int) < 0 <;> first | refine Call0 (pc_szneg (c_laws_szState a (1048576 : Int) (by omega) (by omega) hok) hn) rfl rfl ?_ | refine Call0 (pc_szpos (c_laws_szState a (1048576 : Int) (by omega) (by omega) hok) hn) rfl rfl ?_)
        | refine Call0 (c_spec_OutcomeOf a t hok (by omega)) rfl rfl ?_
        | refine Call0 (hI (by omega)) rfl rfl ?_
        | refine CallT (c_laws_toState a (by omega)) rfl rfl rfl rfl (Nat.le_of_ble_eq_true rfl) ?_
        | refine Call0 (pc_true (c_laws_eqTold (outT (okStateS a) (toldS a t)) (outT (okStateS a) (toldS a t))) rfl) rfl rfl ?_
        | refine Call0 (pc_true (c_laws_eqState a a hok) rfl) rfl rfl ?_)
    | (show Go.Ab.CallD _ _ _ _ _ _ _; first
        | (by_cases hn : (1048576 : Int) - ((StateT.w a : Nat) : Int) < 0 <;> first | refine CallD0 (pc_szneg (c_laws_szState a (1048576 : Int) (by omega) (by omega) hok) hn) rfl rfl rfl ?_ | refine CallD0 (pc_szpos (c_laws_szState a (1048576 : Int) (by omega) (by omega) hok) hn) rfl rfl rfl ?_)
        | refine CallD0 (c_spec_OutcomeOf a t hok (by omega)) rfl rfl rfl ?_
        | refine CallD0 (hI (by omega)) rfl rfl rfl ?_
        | refine CallDT (c_laws_toState a (by omega)) rfl rfl rfl ⟨rfl, rfl⟩ ?_
        | refine CallD0 (pc_true (c_laws_eqTold (outT (okStateS a) (toldS a t)) (outT (okStateS a) (toldS a t))) rfl) rfl rfl rfl ?_
        | refine CallD0 (pc_true (c_laws_eqState a a hok) rfl) rfl rfl rfl ?_)
    | refine ix_map_at hx ?_
    | refine ix_map_at hy ?_
    | refine sl_pre (by omega) (fun _ => rfl) ?_
    | refine sl_suf (by omega) (fun _ => rfl) ?_
    | (refine ix_map2 hx (by omega) (by (try simp only [List.length_take]); omega) (fun y hy => ?_); try simp only [Int.toNat_natCast] at hy)
    | (refine ix_map (by omega) (by (try simp only [List.length_take]); omega) (fun x hx => ?_); try simp only [Int.toNat_natCast] at hx)
    | refine side_and (side_of (by first | (and_intros <;> first | exact Nat.le_of_ble_eq_true rfl | rfl | omega | (simp only [List.length_map, List.length_append, List.length_replicate, List.length_take, List.length_cons, List.length_nil, List.length_drop, List.length_set, markList_length]; omega) | exact bytes_ok (Nat.le_of_ble_eq_true rfl) (by omega) (by simp only [List.length_map, List.length_append, List.length_replicate, List.length_take, List.length_cons, List.length_nil, List.length_drop, List.length_set, markList_length]; omega) | exact bytes_okN (Nat.le_of_ble_eq_true rfl) (by simp only [List.length_map, List.length_append, List.length_replicate, List.length_take, List.length_cons, List.length_nil, List.length_drop, List.length_set, markList_length]; omega)) | fail)) ?_
    | refine nilB_intro (fun h => ?_) ?_
    | refine side_and (side_of (show Go.Ab.structOk _ _ = true by kernel_rfl)) ?_
    | refine side_and (side_of (map_len (fun _ => rfl))) ?_
    | refine side_and (side_of (map_one (fun _ => rfl) _)) ?_
    | refine side_and ?_ ?_
    | refine LoadK_of rfl rfl ?_
    | (show False; omega)
  all_goals
    conv => whnf
    refine OutA_plain rfl rfl ?_
    first
    | rfl
    | (simp_all [named, AV.sub, AV.sub.subL]; done)
    | (simp_all [named, AV.sub, AV.sub.subL] <;> omega)
def lT (s : StateT) (x : SpanT) : Int := if 1 > (if IntKind.i64.wrap (s.Floor + 1) > IntKind.i64.wrap (x.High + 10) then IntKind.i64.wrap (s.Floor + 1) else IntKind.i64.wrap (x.High + 10)) then 1 else (if IntKind.i64.wrap (s.Floor + 1) > IntKind.i64.wrap (x.High + 10) then IntKind.i64.wrap (s.Floor + 1) else IntKind.i64.wrap (x.High + 10))
def lB (s : StateT) (x : SpanT) : Bool := okStateS s && okSpan6 x && !decide (lT s x > 100000)
def lV (s : StateT) (x : SpanT) : Int := if lB s x = true then lT s x else 0
theorem c_spec_l14Floor (s : StateT) (x : SpanT) : PC Tryz.prog false 48 [.agg s.cells, .agg x.cells] (.int .i64 (lT s x)) [] := by
  refine pc_at Tryz.func48 rfl (by kernel_rfl) 13 [.tmp 4] rfl rfl ?_
  repeat' (conv => whnf); first
    | refine nameB_true ?_
    | refine nameB_false ?_
    | refine nameB_yes (by assumption) ?_
    | refine nameB_no (by assumption) ?_
    | refine nameB_dyes (by assumption) ?_
    | refine nameB_dno (by assumption) ?_
    | (refine nameB_dec (fun h => ?_) (fun h => ?_) <;> try simp only [List.length_map, List.length_take, List.length_append, List.length_drop, markList_length, Int.toNat_natCast, fact_byte] at h)
    | (refine nameB_cases (fun h => ?_) (fun h => ?_) <;> try simp only [bne_iff_ne, ne_eq, bne_eq_false_iff_eq, beq_iff_eq, beq_eq_false_iff_ne, Bool.not_eq_true', Bool.not_eq_false', Bool.or_eq_true, Bool.or_eq_false_iff, List.length_map, List.length_take, List.length_append, List.length_drop, markList_length, Int.toNat_natCast, fact_byte] at h)
    | refine splitB_true ?_
    | refine splitB_false ?_
    | (refine splitB_intro (fun h => ?_) (fun h => ?_) <;> subst h)
    | refine ⟨⟨by kernel_rfl, by kernel_rfl, by kernel_rfl⟩, ?_⟩
    | (show Go.Ab.CallA _ _ _ _ _ _ _; first
        | refine Call0 (c_spec_l1Most9 (IntKind.i64.wrap (s.Floor + 1)) (IntKind.i64.wrap (x.High + 10))) rfl rfl ?_
        | refine Call0 (c_spec_l1Most9 1 (if IntKind.i64.wrap (s.Floor + 1) > IntKind.i64.wrap (x.High + 10) then IntKind.i64.wrap (s.Floor + 1) else IntKind.i64.wrap (x.High + 10))) rfl rfl ?_)
    | refine ix_map_at hx ?_
    | refine ix_map_at hy ?_
    | refine sl_pre (by omega) (fun _ => rfl) ?_
    | refine sl_suf (by omega) (fun _ => rfl) ?_
    | (refine ix_map2 hx (by omega) (by (try simp only [List.length_take]); omega) (fun y hy => ?_); try simp only [Int.toNat_natCast] at hy)
    | (refine ix_map (by omega) (by (try simp only [List.length_take]); omega) (fun x hx => ?_); try simp only [Int.toNat_natCast] at hx)
    | refine side_and (side_of (by first | (and_intros <;> first | exact Nat.le_of_ble_eq_true rfl | rfl | omega | (simp only [List.length_map, List.length_append, List.length_replicate, List.length_take, List.length_cons, List.length_nil, List.length_drop, List.length_set, markList_length]; omega) | exact bytes_ok (Nat.le_of_ble_eq_true rfl) (by omega) (by simp only [List.length_map, List.length_append, List.length_replicate, List.length_take, List.length_cons, List.length_nil, List.length_drop, List.length_set, markList_length]; omega) | exact bytes_okN (Nat.le_of_ble_eq_true rfl) (by simp only [List.length_map, List.length_append, List.length_replicate, List.length_take, List.length_cons, List.length_nil, List.length_drop, List.length_set, markList_length]; omega)) | fail)) ?_
    | refine nilB_intro (fun h => ?_) ?_
    | refine side_and (side_of (show Go.Ab.structOk _ _ = true by kernel_rfl)) ?_
    | refine side_and (side_of (map_len (fun _ => rfl))) ?_
    | refine side_and (side_of (map_one (fun _ => rfl) _)) ?_
    | refine side_and ?_ ?_
    | refine LoadK_of rfl rfl ?_
    | (show False; omega)
  all_goals
    conv => whnf
    refine OutA_plain rfl rfl ?_
    first
    | rfl
    | (simp only [*, named, AV.sub, AV.sub.subL, Bool.and_true, Bool.and_false, Bool.true_and, Bool.false_and, Bool.or_true, Bool.or_false, Bool.true_or, Bool.false_or, Bool.not_true, Bool.not_false, if_true, if_false, decide_true, decide_false, Bool.false_eq_true, Bool.and_self]; done)
    | (simp_all [named, AV.sub, AV.sub.subL]; done)
    | (simp_all [named, AV.sub, AV.sub.subL] <;> (intros; omega))
    | (exfalso; omega)
theorem c_spec_LeadFloor (s : StateT) (x : SpanT) (hok : s.ok) (hw : s.w ≤ 1048576) : PC Tryz.prog false 20 [.agg s.cells, .agg x.cells] (.tup [.int .i64 (lV s x), .bool (lB s x)]) [] := by
  refine pc_at Tryz.func20 rfl (by kernel_rfl) 23 [.tmp 4, .tmp 5] rfl rfl ?_
  repeat' (conv => whnf); first
    | refine nameB_true ?_
    | refine nameB_false ?_
    | refine nameB_yes (by assumption) ?_
    | refine nameB_no (by assumption) ?_
    | refine nameB_dyes (by assumption) ?_
    | refine nameB_dno (by assumption) ?_
    | (refine nameB_dec (fun h => ?_) (fun h => ?_) <;> try simp only [List.length_map, List.length_take, List.length_append, List.length_drop, markList_length, Int.toNat_natCast, fact_byte] at h)
    | (refine nameB_cases (fun h => ?_) (fun h => ?_) <;> try simp only [bne_iff_ne, ne_eq, bne_eq_false_iff_eq, beq_iff_eq, beq_eq_false_iff_ne, Bool.not_eq_true', Bool.not_eq_false', Bool.or_eq_true, Bool.or_eq_false_iff, List.length_map, List.length_take, List.length_append, List.length_drop, markList_length, Int.toNat_natCast, fact_byte] at h)
    | refine splitB_true ?_
    | refine splitB_false ?_
    | (refine splitB_intro (fun h => ?_) (fun h => ?_) <;> subst h)
    | refine ⟨⟨by kernel_rfl, by kernel_rfl, by kernel_rfl⟩, ?_⟩
    | (show Go.Ab.CallA _ _ _ _ _ _ _; first
        | refine Call0 (c_spec_l13Good s hok hw) rfl rfl ?_
        | refine Call0 (c_spec_l2Span9 x) rfl rfl ?_
        | refine Call0 (c_spec_l14Floor s x) rfl rfl ?_)
    | refine ix_map_at hx ?_
    | refine ix_map_at hy ?_
    | refine sl_pre (by omega) (fun _ => rfl) ?_
    | refine sl_suf (by omega) (fun _ => rfl) ?_
    | (refine ix_map2 hx (by omega) (by (try simp only [List.length_take]); omega) (fun y hy => ?_); try simp only [Int.toNat_natCast] at hy)
    | (refine ix_map (by omega) (by (try simp only [List.length_take]); omega) (fun x hx => ?_); try simp only [Int.toNat_natCast] at hx)
    | refine side_and (side_of (by first | (and_intros <;> first | exact Nat.le_of_ble_eq_true rfl | rfl | omega | (simp only [List.length_map, List.length_append, List.length_replicate, List.length_take, List.length_cons, List.length_nil, List.length_drop, List.length_set, markList_length]; omega) | exact bytes_ok (Nat.le_of_ble_eq_true rfl) (by omega) (by simp only [List.length_map, List.length_append, List.length_replicate, List.length_take, List.length_cons, List.length_nil, List.length_drop, List.length_set, markList_length]; omega) | exact bytes_okN (Nat.le_of_ble_eq_true rfl) (by simp only [List.length_map, List.length_append, List.length_replicate, List.length_take, List.length_cons, List.length_nil, List.length_drop, List.length_set, markList_length]; omega)) | fail)) ?_
    | refine nilB_intro (fun h => ?_) ?_
    | refine side_and (side_of (show Go.Ab.structOk _ _ = true by kernel_rfl)) ?_
    | refine side_and (side_of (map_len (fun _ => rfl))) ?_
    | refine side_and (side_of (map_one (fun _ => rfl) _)) ?_
    | refine side_and ?_ ?_
    | refine LoadK_of rfl rfl ?_
    | (show False; omega)
  all_goals
    conv => whnf
    refine OutA_plain rfl rfl ?_
    simp only [lV, lB, *, Bool.false_and, Bool.and_false, Bool.true_and, Bool.not_true, Bool.not_false, Bool.false_eq_true, if_true, if_false, decide_true, decide_false]
    rfl
theorem lead_eq (s : StateT) (x : SpanT) : ifT (okStateI s && okSpan6 x) (leadT1 s x) = lV s x ∧ ifO (okStateI s && okSpan6 x) (leadT1 s x) = lB s x := by
  unfold ifT ifO lV lB
  rw [← okState_eq]
  cases h : okStateI s with
  | false => simp
  | true =>
    cases h2 : okSpan6 x with
    | false => simp
    | true =>
      have e : leadT1 s x = lT s x := by
        unfold leadT1 leadT lT
        split <;> split <;> split <;> first | rfl | omega | (split <;> first | rfl | omega)
      rw [e]
      simp only [Bool.true_and, if_true]
      by_cases e4 : lT s x > 100000
      · rw [if_pos e4, decide_eq_true e4]; simp
      · rw [if_neg e4, decide_eq_false e4]; simp
theorem c_laws_toSpan6 (x : SpanT) : PC Tryz.prog false 21 [.agg x.cells] (.agg (SpanT.cells x)) [] := by
  refine pc_at Tryz.func21 rfl (by kernel_rfl) 11 [.cell 2 49] rfl rfl ?_
  repeat' (conv => whnf); first
    | refine nameB_true ?_
    | refine nameB_false ?_
    | refine nameB_yes (by assumption) ?_
    | refine nameB_no (by assumption) ?_
    | refine nameB_dyes (by assumption) ?_
    | refine nameB_dno (by assumption) ?_
    | (refine nameB_dec (fun h => ?_) (fun h => ?_) <;> try simp only [List.length_map, List.length_take, List.length_append, List.length_drop, markList_length, Int.toNat_natCast, fact_byte] at h)
    | (refine nameB_cases (fun h => ?_) (fun h => ?_) <;> try simp only [bne_iff_ne, ne_eq, bne_eq_false_iff_eq, beq_iff_eq, beq_eq_false_iff_ne, Bool.not_eq_true', Bool.not_eq_false', Bool.or_eq_true, Bool.or_eq_false_iff, List.length_map, List.length_take, List.length_append, List.length_drop, markList_length, Int.toNat_natCast, fact_byte] at h)
    | refine splitB_true ?_
    | refine splitB_false ?_
    | (refine splitB_intro (fun h => ?_) (fun h => ?_) <;> subst h)
    | refine ⟨⟨by kernel_rfl, by kernel_rfl, by kernel_rfl⟩, ?_⟩
    | refine ix_map_at hx ?_
    | refine ix_map_at hy ?_
    | refine sl_pre (by omega) (fun _ => rfl) ?_
    | refine sl_suf (by omega) (fun _ => rfl) ?_
    | (refine ix_map2 hx (by omega) (by (try simp only [List.length_take]); omega) (fun y hy => ?_); try simp only [Int.toNat_natCast] at hy)
    | (refine ix_map (by omega) (by (try simp only [List.length_take]); omega) (fun x hx => ?_); try simp only [Int.toNat_natCast] at hx)
    | refine side_and (side_of (by first | (and_intros <;> first | exact Nat.le_of_ble_eq_true rfl | rfl | omega | (simp only [List.length_map, List.length_append, List.length_replicate, List.length_take, List.length_cons, List.length_nil, List.length_drop, List.length_set, markList_length]; omega) | exact bytes_ok (Nat.le_of_ble_eq_true rfl) (by omega) (by simp only [List.length_map, List.length_append, List.length_replicate, List.length_take, List.length_cons, List.length_nil, List.length_drop, List.length_set, markList_length]; omega) | exact bytes_okN (Nat.le_of_ble_eq_true rfl) (by simp only [List.length_map, List.length_append, List.length_replicate, List.length_take, List.length_cons, List.length_nil, List.length_drop, List.length_set, markList_length]; omega)) | fail)) ?_
    | refine nilB_intro (fun h => ?_) ?_
    | refine side_and (side_of (show Go.Ab.structOk _ _ = true by kernel_rfl)) ?_
    | refine side_and (side_of (map_len (fun _ => rfl))) ?_
    | refine side_and (side_of (map_one (fun _ => rfl) _)) ?_
    | refine side_and ?_ ?_
    | refine LoadK_of rfl rfl ?_
    | (show False; omega)
  all_goals
    conv => whnf
    exact OutA_plain rfl rfl rfl
theorem c_laws_FnExactLeadFloor (a : StateT) (x : SpanT) (hok : a.ok) : PC Tryz.prog false 7 [.agg a.cells, .agg x.cells] (.bool true) [] := by
  have hI : a.w ≤ 1048576 → PC Tryz.prog false 22 [.agg a.cells, .agg x.cells] (.tup [.int .i64 (lV a x), .bool (lB a x)]) [] := fun hw => by
    rw [← (lead_eq a x).1, ← (lead_eq a x).2]
    exact c_impl_LeadFloor a x hok hw
  refine pc_at Tryz.func7 rfl (by kernel_rfl) 46 [.tmp 4] rfl rfl ?_
  repeat' (conv => whnf); first
    | refine nameB_self (b := lB a x) ?_
    | refine nameB_no (b := !(lB a x == lB a x)) (by simp) ?_
    | refine nameB_no (b := lV a x != lV a x) (by simp) ?_
    | refine nameB_true ?_
    | refine nameB_false ?_
    | refine nameB_yes (by assumption) ?_
    | refine nameB_no (by assumption) ?_
    | refine nameB_dyes (by assumption) ?_
    | refine nameB_dno (by assumption) ?_
    | (refine nameB_dec (fun h => ?_) (fun h => ?_) <;> try simp only [List.length_map, List.length_take, List.length_append, List.length_drop, markList_length, Int.toNat_natCast, fact_byte] at h)
    | (refine nameB_cases (fun h => ?_) (fun h => ?_) <;> try simp only [bne_iff_ne, ne_eq, bne_eq_false_iff_eq, beq_iff_eq, beq_eq_false_iff_ne, Bool.not_eq_true', Bool.not_eq_false', Bool.or_eq_true, Bool.or_eq_false_iff, List.length_map, List.length_take, List.length_append, List.length_drop, markList_length, Int.toNat_natCast, fact_byte] at h)
    | refine splitB_true ?_
    | refine splitB_false ?_
    | (refine splitB_intro (fun h => ?_) (fun h => ?_) <;> subst h)
    | refine ⟨⟨by kernel_rfl, by kernel_rfl, by kernel_rfl⟩, ?_⟩
    | (show Go.Ab.CallA _ _ _ _ _ _ _; first
        | (by_cases hn : (1048576 : Int) - ((StateT.w a : Nat) : Int) < 0 <;> first | refine Call0 (pc_szneg (c_laws_szState a (1048576 : Int) (by omega) (by omega) hok) hn) rfl rfl ?_ | refine Call0 (pc_szpos (c_laws_szState a (1048576 : Int) (by omega) (by omega) hok) hn) rfl rfl ?_)
        | refine Call0 (c_spec_LeadFloor a x hok (by omega)) rfl rfl ?_
        | refine Call0 (hI (by omega)) rfl rfl ?_
        | refine Call0 (c_laws_toSpan6 x) rfl rfl ?_
        | refine CallT (c_laws_toState a (by omega)) rfl rfl rfl rfl (Nat.le_of_ble_eq_true rfl) ?_
        | refine Call0 (pc_true (c_laws_eqState a a hok) rfl) rfl rfl ?_)
    | (show Go.Ab.CallD _ _ _ _ _ _ _; first
        | (by_cases hn : (1048576 : Int) - ((StateT.w a : Nat) : Int) < 0 <;> first | refine CallD0 (pc_szneg (c_laws_szState a (1048576 : Int) (by omega) (by omega) hok) hn) rfl rfl rfl ?_ | refine CallD0 (pc_szpos (c_laws_szState a (1048576 : Int) (by omega) (by omega) hok) hn) rfl rfl rfl ?_)
        | refine CallD0 (c_spec_LeadFloor a x hok (by omega)) rfl rfl rfl ?_
        | refine CallD0 (hI (by omega)) rfl rfl rfl ?_
        | refine CallD0 (c_laws_toSpan6 x) rfl rfl rfl ?_
        | refine CallDT (c_laws_toState a (by omega)) rfl rfl rfl ⟨rfl, rfl⟩ ?_
        | refine CallD0 (pc_true (c_laws_eqState a a hok) rfl) rfl rfl rfl ?_)
    | refine ix_map_at hx ?_
    | refine ix_map_at hy ?_
    | refine sl_pre (by omega) (fun _ => rfl) ?_
    | refine sl_suf (by omega) (fun _ => rfl) ?_
    | (refine ix_map2 hx (by omega) (by (try simp only [List.length_take]); omega) (fun y hy => ?_); try simp only [Int.toNat_natCast] at hy)
    | (refine ix_map (by omega) (by (try simp only [List.length_take]); omega) (fun x hx => ?_); try simp only [Int.toNat_natCast] at hx)
    | refine side_and (side_of (by first | (and_intros <;> first | exact Nat.le_of_ble_eq_true rfl | rfl | omega | (simp only [List.length_map, List.length_append, List.length_replicate, List.length_take, List.length_cons, List.length_nil, List.length_drop, List.length_set, markList_length]; omega) | exact bytes_ok (Nat.le_of_ble_eq_true rfl) (by omega) (by simp only [List.length_map, List.length_append, List.length_replicate, List.length_take, List.length_cons, List.length_nil, List.length_drop, List.length_set, markList_length]; omega) | exact bytes_okN (Nat.le_of_ble_eq_true rfl) (by simp only [List.length_map, List.length_append, List.length_replicate, List.length_take, List.length_cons, List.length_nil, List.length_drop, List.length_set, markList_length]; omega)) | fail)) ?_
    | refine nilB_intro (fun h => ?_) ?_
    | refine side_and (side_of (show Go.Ab.structOk _ _ = true by kernel_rfl)) ?_
    | refine side_and (side_of (map_len (fun _ => rfl))) ?_
    | refine side_and (side_of (map_one (fun _ => rfl) _)) ?_
    | refine side_and ?_ ?_
    | refine LoadK_of rfl rfl ?_
    | (show False; omega)
  all_goals
    conv => whnf
    refine OutA_plain rfl rfl ?_
    first
    | rfl
    | (simp_all [named, AV.sub, AV.sub.subL]; done)
    | (simp_all [named, AV.sub, AV.sub.subL] <;> omega)
end Go.Proofs.YtcdlapjpnenkdaaGreat
