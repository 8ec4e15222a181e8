/-
  What NewDeal gives.
  No condition.
-/
import Derived.Test.YtgkghkcahepicaaGreatNew2
namespace Go.Proofs.YtgkghkcahepicaaGreat
open Go.Ab
set_option linter.unusedSimpArgs false
set_option maxRecDepth 20000
set_option maxHeartbeats 4000000
set_option linter.unusedVariables false

def mkn (cs : List (List UInt8)) : Nat := (IntKind.i64.wrap (((cs.map strC).length : Nat) + 1 : Int)).toNat
theorem mkn_eq {cs : List (List UInt8)} (hc : cs.length ≤ 1048576) : mkn cs = cs.length + 1 := by
  unfold mkn
  rw [List.length_map, i64_wrap (by omega) (by omega)]
  omega
theorem mk_side {cs : List (List UInt8)} {b : Nat} (hc : cs.length ≤ 1048576) (hb : b ≤ 4096) : 0 ≤ IntKind.i64.wrap (((cs.map strC).length : Nat) + 1 : Int) ∧ IntKind.i64.wrap (((cs.map strC).length : Nat) + 1 : Int) = IntKind.i64.wrap (((cs.map strC).length : Nat) + 1 : Int) ∧ IntKind.i64.wrap (((cs.map strC).length : Nat) + 1 : Int) ≤ 70368744177664 ∧ (b : Int) * IntKind.i64.wrap (((cs.map strC).length : Nat) + 1 : Int) ≤ 281474976710656 := by
  rw [List.length_map, i64_wrap (by omega) (by omega)]
  refine ⟨by omega, rfl, by omega, ?_⟩
  have h : (b : Int) * ((cs.length : Int) + 1) ≤ 4096 * 1048577 := Int.mul_le_mul (by omega) (by omega) (by omega) (by omega)
  omega
def newD (cs : List (List UInt8)) (os : List OrderT) : DealT := ⟨cs, List.replicate (cs.length + 1) zeroS, os⟩
def okNew (cs : List (List UInt8)) (os : List OrderT) : Bool := okCuts cs && okOrders os
theorem okNew_eq (cs : List (List UInt8)) (os : List OrderT) : okDeal (newD cs os) = okNew cs os := by
  unfold okDeal okNew newD
  have h : okStateS zeroS = true := by decide
  simp [List.length_replicate, List.all_replicate, h]
theorem okNew_len {cs : List (List UInt8)} {os : List OrderT} (h : okNew cs os = true) : cs.length < 4 := by
  unfold okNew okCuts at h
  simp only [Bool.and_eq_true, decide_eq_true_eq] at h
  omega
theorem c_impl_GoodDealW (d : DealT) (hok : d.ok) (hlc : d.Cuts.length ≤ 1048576) (hsw : ∀ s ∈ d.States, s.w ≤ 1048576) (how : ∀ s ∈ d.Orders, s.w ≤ 1048576) : PC Tryz.prog false 35 [.agg d.cells] (.bool (okDeal d)) [] := by
  have hl := hok.2.2.1
  refine pc_at Tryz.func35 rfl (by kernel_rfl) 48 [.tmp 2] rfl rfl ?_
  repeat' (conv => whnf); first
    | (refine nameB_cases (b := d.States.any _) (fun h => ?_) (fun h => ?_))
    | (refine nameB_cases (b := (d.Orders.take k).any _) (fun h => ?_) (fun h => ?_))
    | (refine nameB_cases (b := (((d.States.map StateT.cells).length : Nat) : Int) != _) (fun h => ?_) (fun h => ?_))
    | refine nameB_true ?_
    | refine nameB_false ?_
    | refine nameB_yes (by assumption) ?_
    | refine nameB_no (by assumption) ?_
    | refine nameB_dyes (by assumption) ?_
    | refine nameB_dno (by assumption) ?_
    | (refine nameB_dec (fun h => ?_) (fun h => ?_) <;> try simp only [lensB, midL_len, mkL_length, Int.toNat_natCast, fact_byte] at h)
    | (refine nameB_cases (fun h => ?_) (fun h => ?_) <;> try simp only [bne_iff_ne, ne_eq, bne_eq_false_iff_eq, beq_iff_eq, beq_eq_false_iff_ne, Bool.not_eq_true', Bool.not_eq_false', Bool.or_eq_true, Bool.or_eq_false_iff, lensB, midL_len, mkL_length, Int.toNat_natCast, fact_byte] at h)
    | refine splitB_true ?_
    | refine splitB_false ?_
    | (refine splitB_intro (fun h => ?_) (fun h => ?_) <;> subst h)
    | refine draw_text (by kernel_rfl) (by kernel_rfl) (by kernel_rfl) ?_
    | refine both_intro ?_ ?_
    | refine eitherB_l ?_
    | exact True.intro
    | (show Go.Ab.Loop _ _ _; (refine Loop_at [1, 25, 26] [0] (Nat) (fun k => allPre ordAt (d.Orders.take k) (d.Orders.drop k) = allPre ordAt [] d.Orders ∧ k ≤ d.Orders.length) (fun k => [(27, .int .i64 (k : Nat))]) (fun k => []) (fun k => d.Orders.length - k) 0 ⟨by first | (simp_all <;> fail) | rfl | fail, trivial⟩ trivial (by (try dsimp only); first | (exact ⟨rfl, by omega⟩) | fail) ?_; (conv => whnf); refine side_and (side_of (by first | exact fun k => rfl | exact fun k => by simp [headOk, closedE, closedO, closedL, AV.closed, hcap.closed, hasId, AObj.box, BK.ofB])) ?_; rintro k hT; try dsimp only at hT))
    | (show Go.Ab.Again _ _ _ _ _ _ _ _ _ _ _; refine Again_of (k + 1) ⟨by first | rfl | exact i64_next (by omega) | (simp_all <;> fail) | fail, trivial⟩ trivial (by first | (and_intros <;> first | rfl | trivial) | fail) (by first | (and_intros <;> first | rfl | trivial) | fail) rfl rfl rfl (by (try dsimp only); first | (exact ⟨allPre_go hT.1 hx (ordAt_yes (by assumption) (by assumption)), by omega⟩) | fail) (show _ < _ by (try dsimp only); omega))
    | (show Go.Ab.CallA _ _ _ _ _ _ _; first
        | refine Call0 (c_impl_GoodCuts d.Cuts hok.1) rfl rfl ?_
        | refine Call0 (c_ContainsFunc_State d.States 64 [] (fun s => !okStateS s) hok.2.1.1 ⟨fun _ => rfl, fun _ => rfl, fun _ => rfl, fun _ => rfl, fun _ => rfl⟩ (fun x hx => c_impl_GoodDeal_1 x (hok.2.1.2 x hx) (hsw x hx))) rfl rfl ?_
        | refine Call0 (c_impl_isOrder x (hok.2.2.2 x (List.mem_of_getElem? hx)) (how x (List.mem_of_getElem? hx))) rfl rfl ?_
        | refine Call0 (c_ContainsFunc_Order (d.Orders.take k) 68 [.rp x.cells] (fun p => p.Txn == x.Txn) (by rw [List.length_take]; omega) ⟨fun _ => rfl, fun _ => rfl, fun _ => rfl, fun _ => rfl, fun _ => rfl⟩ (fun p _ => c_impl_GoodDeal_2 x p)) rfl rfl ?_)
    | refine ix_map_at hx ?_
    | refine ix_map_at hy ?_
    | refine sl_pre (by omega) (fun _ => rfl) ?_
    | refine sl_suf (by omega) (fun _ => rfl) ?_
    | (refine ix_map2 hx (by omega) (by (try simp only [List.length_take]); omega) (fun y hy => ?_); try simp only [Int.toNat_natCast] at hy)
    | (refine ix_map (by omega) (by (try simp only [List.length_take]); omega) (fun x hx => ?_); try simp only [Int.toNat_natCast] at hx)
    | refine side_and (side_of (by first | (and_intros <;> first | exact Nat.le_of_ble_eq_true rfl | rfl | omega | (simp only [lensB, lensC, List.length_replicate, midL_len, mkL_length]; omega) | exact bytes_ok (Nat.le_of_ble_eq_true rfl) (by omega) (by simp only [lensB, lensC, List.length_replicate, midL_len, mkL_length]; omega) | exact bytes_okN (Nat.le_of_ble_eq_true rfl) (by simp only [lensB, lensC, List.length_replicate, midL_len, mkL_length]; omega)) | fail)) ?_
    | refine nilB_intro (fun h => ?_) ?_
    | refine side_and (side_of (show Go.Ab.structOk _ _ = true by kernel_rfl)) ?_
    | refine side_and (side_of (map_len (fun _ => rfl))) ?_
    | refine side_and (side_of (map_one (fun _ => rfl) _)) ?_
    | refine side_and ?_ ?_
    | refine LoadK_of rfl rfl ?_
    | refine LoadD_cel rfl rfl rfl rfl ?_
    | refine LoadD_of rfl ?_
    | refine StoreD_of rfl rfl rfl ?_
    | refine AppD_of rfl (by and_intros <;> first | rfl | decide) (by simp only [lensC]; first | (refine ⟨by omega, ?_⟩; refine Nat.le_trans (Nat.mul_le_mul_left _ (show _ ≤ 512 by decide)) ?_; omega) | fail) ?_
    | refine AppN_of rfl rfl (by and_intros <;> rfl) (by simp only [lensC]; first | (refine ⟨by omega, ?_⟩; refine Nat.le_trans (Nat.mul_le_mul_left _ (show _ ≤ 512 by decide)) ?_; omega) | fail) ?_
    | (show False; omega)
  all_goals
    conv => whnf
    refine OutA_plain rfl rfl ?_
    first
    | (have hb := allPre_bad hT.1 hx (ordAt_no (.inl (by assumption))); simp only [okDeal, okOrders, hb, Bool.false_and, Bool.and_false]; rfl)
    | (have hb := allPre_bad hT.1 hx (ordAt_no (.inr (by assumption))); simp only [okDeal, okOrders, hb, Bool.false_and, Bool.and_false]; rfl)
    | (have hb := allPre_end hT.1 (by assumption); simp only [okDeal, okOrders, hb, all_yes (by assumption), neq_no hlc (by assumption), show okCuts d.Cuts = true by assumption, decide_eq_true (show (d.Orders.length : Int) ≤ 8 by assumption), Bool.and_true, Bool.true_and]; rfl)
    | (simp only [okDeal, okOrders, decide_eq_false (show ¬ (d.Orders.length : Int) ≤ 8 by assumption), Bool.and_false]; rfl)
    | (simp only [okDeal, neq_yes hlc (by assumption), Bool.and_false, Bool.false_and]; rfl)
    | (simp only [okDeal, all_no (by assumption), Bool.and_false, Bool.false_and]; rfl)
    | (simp only [okDeal, show okCuts d.Cuts = false by assumption, Bool.false_and]; rfl)
theorem newD_ok {cs : List (List UInt8)} {os : List OrderT} (hc : okL okS cs) (ho : okL OrderT.ok os) (hl : cs.length ≤ 1048576) : (newD cs os).ok := by
  refine ⟨hc, ⟨by unfold newD; rw [List.length_replicate]; omega, fun x hx => ?_⟩, ho⟩
  rw [List.eq_of_mem_replicate hx]
  exact ⟨trivial, ⟨Nat.zero_le _, fun _ h => by cases h⟩, ⟨Nat.zero_le _, fun _ h => by cases h⟩, ⟨Nat.zero_le _, fun _ h => by cases h⟩⟩
theorem c_impl_GoodNew (cs : List (List UInt8)) (os : List OrderT) (hc : okL okS cs) (ho : okL OrderT.ok os) (hl : cs.length ≤ 1048576) (how : ∀ s ∈ os, s.w ≤ 1048576) : PC Tryz.prog false 35 [.agg [.sl (cs.map strC), .sl (List.replicate (mkn cs) [.int .i64 0, .nil, .nil, .nil]), .sl (os.map OrderT.cells)]] (.bool (okNew cs os)) [] := by
  rw [zr_rep, mkn_eq hl, ← okNew_eq]
  exact PC.zrow (c_impl_GoodDealW (newD cs os) (newD_ok hc ho hl) hl (fun s hs => by rw [List.eq_of_mem_replicate hs]; decide) how)
theorem zc_rep (n : Nat) : (List.replicate n ()).map zc = (List.replicate n zeroS).map StateT.cells := by
  rw [List.map_replicate, List.map_replicate]
  rfl
def resD (cs : List (List UInt8)) (os : List OrderT) : DealT := match okNew cs os with | true => newD cs os | false => ⟨[], [], []⟩
theorem resD_yes {cs : List (List UInt8)} {os : List OrderT} (h : okNew cs os = true) : resD cs os = newD cs os := by
  unfold resD
  rw [h]
theorem resD_no {cs : List (List UInt8)} {os : List OrderT} (h : okNew cs os = false) : resD cs os = ⟨[], [], []⟩ := by
  unfold resD
  rw [h]
def dealO (d : DealT) : List AObj := [⟨.deep [.leaf], 9, 1, d.Cuts.map strC⟩, ⟨.deep StateT.shp, 61, 4, d.States.map StateT.cells⟩, ⟨.deep OrderT.shp, 81, 3, d.Orders.map OrderT.cells⟩]
theorem c_impl_copyNew (cs : List (List UInt8)) (os : List OrderT) (hok : okNew cs os = true) (ho : os.length ≤ 1048576) (hb : ∀ x ∈ os, x.Reads.length ≤ 1048576 ∧ x.Writes.length ≤ 1048576) : PC Tryz.prog false 48 [.agg [.sl (cs.map strC), .sl (List.replicate (mkn cs) [.int .i64 0, .nil, .nil, .nil]), .sl (os.map OrderT.cells)]] (.agg [.own 0, .own 1, .own 2]) (dealO (newD cs os)) := by
  have hl := okNew_len hok
  have h := c_impl_copyDeal0 cs (List.replicate (mkn cs) ()) os (by omega) (by rw [mkn_eq (by omega), List.length_replicate]; omega) ho hb
  rw [← zr_rep, zc_rep] at h
  have e : dealO (newD cs os) = [⟨.deep [.leaf], 9, 1, cs.map strC⟩, ⟨.deep StateT.shp, 61, 4, (List.replicate (mkn cs) zeroS).map StateT.cells⟩, ⟨.deep OrderT.shp, 81, 3, os.map OrderT.cells⟩] := by
    rw [mkn_eq (by omega)]
    rfl
  rw [e]
  exact h
theorem c_impl_NewDeal (cs : List (List UInt8)) (os : List OrderT) (hc : okL okS cs) (hos : okL OrderT.ok os) (hl : cs.length ≤ 1048576) (how : ∀ s ∈ os, s.w ≤ 1048576) (ho : os.length ≤ 1048576) (hb : ∀ x ∈ os, x.Reads.length ≤ 1048576 ∧ x.Writes.length ≤ 1048576) : PC Tryz.prog false 20 [.sl (cs.map strC), .sl (os.map OrderT.cells)] (.tup [.agg [.own 0, .own 1, .own 2], .bool (okNew cs os)]) (dealO (resD cs os)) := by
  refine pc_at Tryz.func20 rfl (by kernel_rfl) 20 [.cell 4 34, .tmp 5] rfl rfl ?_
  repeat' (conv => whnf); first
    | exact side_of (mk_side hl (Nat.le_of_ble_eq_true rfl))
    | (refine nameB_cases (b := okNew cs os) (fun h => ?_) (fun h => ?_))
    | refine nameB_true ?_
    | refine nameB_false ?_
    | refine nameB_yes (by assumption) ?_
    | refine nameB_no (by assumption) ?_
    | refine nameB_dyes (by assumption) ?_
    | refine nameB_dno (by assumption) ?_
    | (refine nameB_dec (fun h => ?_) (fun h => ?_) <;> try simp only [lensB, midL_len, mkL_length, Int.toNat_natCast, fact_byte] at h)
    | (refine nameB_cases (fun h => ?_) (fun h => ?_) <;> try simp only [bne_iff_ne, ne_eq, bne_eq_false_iff_eq, beq_iff_eq, beq_eq_false_iff_ne, Bool.not_eq_true', Bool.not_eq_false', Bool.or_eq_true, Bool.or_eq_false_iff, lensB, midL_len, mkL_length, Int.toNat_natCast, fact_byte] at h)
    | refine splitB_true ?_
    | refine splitB_false ?_
    | (refine splitB_intro (fun h => ?_) (fun h => ?_) <;> subst h)
    | refine draw_text (by kernel_rfl) (by kernel_rfl) (by kernel_rfl) ?_
    | refine both_intro ?_ ?_
    | refine eitherB_l ?_
    | exact True.intro
    | (show Go.Ab.CallA _ _ _ _ _ _ _; first
        | refine Call0 (c_impl_GoodNew cs os hc hos hl how) rfl rfl ?_
        | refine CallF (c_impl_copyNew cs os (by assumption) ho hb) rfl rfl rfl (Nat.le_of_ble_eq_true rfl) ?_)
    | refine ix_map_at hx ?_
    | refine ix_map_at hy ?_
    | refine sl_pre (by omega) (fun _ => rfl) ?_
    | refine sl_suf (by omega) (fun _ => rfl) ?_
    | (refine ix_map2 hx (by omega) (by (try simp only [List.length_take]); omega) (fun y hy => ?_); try simp only [Int.toNat_natCast] at hy)
    | (refine ix_map (by omega) (by (try simp only [List.length_take]); omega) (fun x hx => ?_); try simp only [Int.toNat_natCast] at hx)
    | refine side_and (side_of (by first | (and_intros <;> first | exact Nat.le_of_ble_eq_true rfl | rfl | omega | (simp only [lensB, lensC, List.length_replicate, midL_len, mkL_length]; omega) | exact bytes_ok (Nat.le_of_ble_eq_true rfl) (by omega) (by simp only [lensB, lensC, List.length_replicate, midL_len, mkL_length]; omega) | exact bytes_okN (Nat.le_of_ble_eq_true rfl) (by simp only [lensB, lensC, List.length_replicate, midL_len, mkL_length]; omega)) | fail)) ?_
    | refine nilB_intro (fun h => ?_) ?_
    | refine side_and (side_of (show Go.Ab.structOk _ _ = true by kernel_rfl)) ?_
    | refine side_and (side_of (map_len (fun _ => rfl))) ?_
    | refine side_and (side_of (map_one (fun _ => rfl) _)) ?_
    | refine side_and ?_ ?_
    | refine LoadK_of rfl rfl ?_
    | refine LoadD_cel rfl rfl rfl rfl ?_
    | refine LoadD_of rfl ?_
    | refine StoreD_of rfl rfl rfl ?_
    | refine AppD_of rfl (by and_intros <;> first | rfl | decide) (by simp only [lensC]; first | (refine ⟨by omega, ?_⟩; refine Nat.le_trans (Nat.mul_le_mul_left _ (show _ ≤ 512 by decide)) ?_; omega) | fail) ?_
    | refine AppN_of rfl rfl (by and_intros <;> rfl) (by simp only [lensC]; first | (refine ⟨by omega, ?_⟩; refine Nat.le_trans (Nat.mul_le_mul_left _ (show _ ≤ 512 by decide)) ?_; omega) | fail) ?_
    | (show False; omega)
  all_goals
    conv => whnf
    first
    | (rw [resD_yes (by assumption), show okNew cs os = true by assumption]
       exact OutA_deep rfl rfl rfl ⟨⟨rfl, rfl⟩, ⟨rfl, rfl⟩, ⟨rfl, rfl⟩, trivial⟩ rfl)
    | (rw [resD_no (by assumption), show okNew cs os = false by assumption]
       refine OutA_nilB 0 1 9 1 0 rfl rfl rfl (by decide) ?_
       refine OutA_nilB 0 2 61 4 1 rfl rfl rfl (by decide) ?_
       refine OutA_nilB 0 3 81 3 2 rfl rfl rfl (by decide) ?_
       refine OutA_prom [(1, [.leaf]), (2, StateT.shp), (3, OrderT.shp)] ⟨⟨_, _, _, rfl, prom_nil⟩, ⟨_, _, _, rfl, prom_nil⟩, ⟨_, _, _, rfl, prom_nil⟩, trivial⟩ ?_
       conv => whnf
       exact OutA_deep rfl rfl rfl ⟨⟨rfl, rfl⟩, ⟨rfl, rfl⟩, ⟨rfl, rfl⟩, trivial⟩ rfl)
end Go.Proofs.YtgkghkcahepicaaGreat
