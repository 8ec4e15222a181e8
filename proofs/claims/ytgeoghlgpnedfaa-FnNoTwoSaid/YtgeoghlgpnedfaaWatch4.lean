/-
  What the functions that change lease tables give.
  No condition.
-/
import Derived.Test.YtgeoghlgpnedfaaWatch3
namespace Go.Proofs.Ytgeoghlgpnedfaa
open Go.Ab
set_option linter.unusedSimpArgs false
set_option maxRecDepth 20000
set_option maxHeartbeats 2000000
set_option linter.unusedVariables false

def driftW (w : WatchT) (who off : Int) : WatchT := { w with Clocks := w.Clocks.set who.toNat ⟨off⟩ }
def okDrift (w : WatchT) (who off : Int) : Bool := okWatch w && okWho w.Clocks.length who && inB (-5) off 5
theorem drift_ok {w : WatchT} {who off : Int} (hw : okWatch w = true) (hi : 0 ≤ who ∧ who < w.Clocks.length) : okWatch (driftW w who off) = inB (-5) off 5 := by
  have key : ∀ (cs : List ClockT) (i : Nat), i < cs.length → cs.all okClock = true → (cs.set i ⟨off⟩).all okClock = inB (-5) off 5 := by
    intro cs
    induction cs with
    | nil => intro i h; simp at h
    | cons c cs ih =>
      intro i h ha
      simp only [List.all_cons, Bool.and_eq_true] at ha
      cases i with
      | zero => simp only [List.set_cons_zero, List.all_cons, ha.2, Bool.and_true]; rfl
      | succ i =>
        simp only [List.set_cons_succ, List.all_cons, ha.1, Bool.true_and]
        exact ih i (by simpa using h) ha.2
  simp only [okWatch, Bool.and_eq_true] at hw
  have h1 := key w.Clocks who.toNat (by omega) hw.1.1.2.2
  have e : okWatch (driftW w who off) = (inB 0 w.True 100000 && (inB 1 (w.Clocks.set who.toNat ⟨off⟩).length 5 && (w.Clocks.set who.toNat ⟨off⟩).all okClock) && decide ((w.Given.length : Int) ≤ 40) && w.Given.all (okLease (w.Clocks.set who.toNat ⟨off⟩).length)) := rfl
  rw [e, List.length_set, hw.1.1.1, hw.1.1.2.1, h1, hw.1.2, hw.2]
  simp only [Bool.and_true, Bool.true_and]
theorem set_map {α : Type} {f : α → List AV} {xs : List α} {i : Nat} {x : α} {e : List AV} (he : e = f x) : (xs.map f).set i e = (xs.set i x).map f := by rw [he, List.map_set]
theorem get_map {α : Type} {f : α → List AV} {xs : List α} {n : Int} {Q : List AV → Prop} (h0 : 0 ≤ n) (h : n < xs.length) (hQ : ∀ x, xs[n.toNat]? = some x → Q (f x)) : ∃ e, (xs.map f)[n.toNat]? = some e ∧ Q e := (ix_map h0 h hQ).2
theorem drift_okk {w : WatchT} {who off : Int} (hok : w.ok) : (driftW w who off).ok := by
  refine ⟨hok.1, ⟨by simpa [driftW] using hok.2.1.1, fun c hc => trivial⟩, hok.2.2⟩
theorem c_impl_DriftTo (w : WatchT) (who off : Int) (hok : w.ok) (hl : w.w ≤ 1048576) : PC Try.prog false 143 [.agg w.cells, .int .i64 who, .int .i64 off] (.tup [.agg [.int .i64 (resW (okDrift w who off) (driftW w who off)).True, .own 0, .own 1], .bool (okDrift w who off)]) (watchOs (resW (okDrift w who off) (driftW w who off)).Clocks (resW (okDrift w who off) (driftW w who off)).Given) := by
  have hw2 : w.w = w.Clocks.length + w.Given.length := rfl
  have hd : okWatch w = true → okWho w.Clocks.length who = true → okWatch (driftW w who off) = inB (-5) off 5 ∧ (0 ≤ who ∧ who < w.Clocks.length) := fun h1 h2 => ⟨drift_ok h1 (okWho_lt h2 (by omega)), okWho_lt h2 (by omega)⟩
  by_cases hpre : okWatch w = true ∧ okWho w.Clocks.length who = true
  · obtain ⟨hp1, hp2⟩ := hpre
    obtain ⟨hdo, hdi⟩ := hd hp1 hp2
    refine pc_at Try.func143 rfl (by kernel_rfl) 31 [.cell 6 30, .tmp 7] rfl rfl ?_
    repeat' (conv => whnf); first
      | refine get_map hdi.1 hdi.2 (fun x hx => ?_)
      | refine nameB_true ?_
      | refine nameB_false ?_
      | refine nameB_yes (by assumption) ?_
      | refine nameB_no (by assumption) ?_
      | refine nameB_dyes (by assumption) ?_
      | refine nameB_dno (by assumption) ?_
      | (refine nameB_dec (fun h => ?_) (fun h => ?_) <;> try simp only [List.length_map, List.length_take, List.length_append, List.length_drop, List.length_set, markList_length, midL_len, mkL_length, Int.toNat_natCast, fact_byte] at h)
      | (refine nameB_cases (fun h => ?_) (fun h => ?_) <;> try simp only [bne_iff_ne, ne_eq, bne_eq_false_iff_eq, beq_iff_eq, beq_eq_false_iff_ne, Bool.not_eq_true', Bool.not_eq_false', Bool.or_eq_true, Bool.or_eq_false_iff, List.length_map, List.length_take, List.length_append, List.length_drop, List.length_set, markList_length, midL_len, mkL_length, Int.toNat_natCast, fact_byte] at h)
      | refine splitB_true ?_
      | refine splitB_false ?_
      | (refine splitB_intro (fun h => ?_) (fun h => ?_) <;> subst h)
      | refine ⟨⟨by kernel_rfl, by kernel_rfl, by kernel_rfl⟩, ?_⟩
      | (show Go.Ab.CallA _ _ _ _ _ _ _; first
          | refine Call0 (c_impl_Watch_isNode w who) rfl rfl ?_
          | refine CallF (c_impl_copyWatch w hl) rfl rfl rfl (Nat.le_of_ble_eq_true rfl) ?_
          | refine CallI (nid := 4096 * 5 + 16 * 1) (f := 64) Try.func64 rfl (by kernel_rfl) 1000000 [6] 9 [.cell 2 30, .tmp 3] rfl rfl ?_
          | refine Call0 (c_impl_GoodWatch w hok) rfl rfl ?_
          | refine Call0 (c_impl_GoodWatch (driftW w who off) (drift_okk hok)) (congrArg (fun l => [AV.agg [AV.int .i64 w.True, .sl l, .sl (w.Given.map LeaseT.cells)]]) (set_map rfl)) rfl ?_)
      | (show Go.Ab.RetI _ _ _ _ _ _ _ _; refine RetI_of rfl ?_)
      | refine ix_map_at hx ?_
      | refine ix_map_at hy ?_
      | refine sl_pre (by omega) (fun _ => rfl) ?_
      | refine sl_suf (by omega) (fun _ => rfl) ?_
      | (refine ix_map2 hx (by omega) (by (try simp only [List.length_take]); omega) (fun y hy => ?_); try simp only [Int.toNat_natCast] at hy)
      | (refine ix_map (by omega) (by (try simp only [List.length_take]); omega) (fun x hx => ?_); try simp only [Int.toNat_natCast] at hx)
      | refine side_and (side_of (by first | (and_intros <;> first | exact Nat.le_of_ble_eq_true rfl | rfl | omega | (simp only [List.length_map, List.length_append, List.length_replicate, List.length_take, List.length_cons, List.length_nil, List.length_drop, List.length_set, markList_length, midL_len, mkL_length]; omega) | exact bytes_ok (Nat.le_of_ble_eq_true rfl) (by omega) (by simp only [List.length_map, List.length_append, List.length_replicate, List.length_take, List.length_cons, List.length_nil, List.length_drop, List.length_set, markList_length, midL_len, mkL_length]; omega) | exact bytes_okN (Nat.le_of_ble_eq_true rfl) (by simp only [List.length_map, List.length_append, List.length_replicate, List.length_take, List.length_cons, List.length_nil, List.length_drop, List.length_set, markList_length, midL_len, mkL_length]; omega)) | fail)) ?_
      | refine nilB_intro (fun h => ?_) ?_
      | refine side_and (side_of (show Go.Ab.structOk _ _ = true by kernel_rfl)) ?_
      | refine side_and (side_of (map_len (fun _ => rfl))) ?_
      | refine side_and (side_of (map_one (fun _ => rfl) _)) ?_
      | refine side_and ?_ ?_
      | refine LoadK_of rfl rfl ?_
      | refine LoadD_cel rfl rfl rfl rfl ?_
      | refine LoadD_of rfl ?_
      | refine StoreD_of rfl rfl rfl ?_
      | refine AppD_of rfl (by and_intros <;> first | rfl | decide) (by simp only [List.length_map, List.length_append, List.length_take, List.length_cons, List.length_nil]; first | (refine ⟨by omega, ?_⟩; refine Nat.le_trans (Nat.mul_le_mul_left _ (show _ ≤ 512 by decide)) ?_; omega) | fail) ?_
      | refine AppN_of rfl rfl (by and_intros <;> rfl) (by simp only [List.length_map, List.length_append, List.length_take, List.length_cons, List.length_nil]; first | (refine ⟨by omega, ?_⟩; refine Nat.le_trans (Nat.mul_le_mul_left _ (show _ ≤ 512 by decide)) ?_; omega) | fail) ?_
      | (show False; omega)
    all_goals
      conv => whnf
      first
      | (rw [show okDrift w who off = true from by rw [okDrift, hp1, hp2, ← hdo]; exact h]; exact OutA_ids rfl rfl rfl ⟨⟨_, _, _, rfl, congrArg (AObj.mk false _ _) (set_map rfl).symm⟩, ⟨_, _, _, rfl, rfl⟩, trivial⟩ rfl (.inr watch_flat))
      | (rw [show okDrift w who off = false from by rw [okDrift, hp1, hp2, ← hdo]; exact h]; exact OutA_nilB 16 1 27 1 1 rfl rfl rfl (by decide) (OutA_nilB 16 2 112 3 2 rfl rfl rfl (by decide) (OutA_ids rfl rfl rfl ⟨⟨_, _, _, rfl, rfl⟩, ⟨_, _, _, rfl, rfl⟩, trivial⟩ rfl (.inr watch_flat))))
  · have hno : okDrift w who off = false := by
      cases h1 : okWatch w <;> cases h2 : okWho w.Clocks.length who <;> simp_all [okDrift]
    refine pc_at Try.func143 rfl (by kernel_rfl) 31 [.cell 6 30, .tmp 7] rfl rfl ?_
    repeat' (conv => whnf); first
      | exact absurd (And.intro (by assumption) (by assumption)) hpre
      | refine nameB_true ?_
      | refine nameB_false ?_
      | refine nameB_yes (by assumption) ?_
      | refine nameB_no (by assumption) ?_
      | refine nameB_dyes (by assumption) ?_
      | refine nameB_dno (by assumption) ?_
      | (refine nameB_dec (fun h => ?_) (fun h => ?_) <;> try simp only [List.length_map, List.length_take, List.length_append, List.length_drop, List.length_set, markList_length, midL_len, mkL_length, Int.toNat_natCast, fact_byte] at h)
      | (refine nameB_cases (fun h => ?_) (fun h => ?_) <;> try simp only [bne_iff_ne, ne_eq, bne_eq_false_iff_eq, beq_iff_eq, beq_eq_false_iff_ne, Bool.not_eq_true', Bool.not_eq_false', Bool.or_eq_true, Bool.or_eq_false_iff, List.length_map, List.length_take, List.length_append, List.length_drop, List.length_set, markList_length, midL_len, mkL_length, Int.toNat_natCast, fact_byte] at h)
      | refine splitB_true ?_
      | refine splitB_false ?_
      | (refine splitB_intro (fun h => ?_) (fun h => ?_) <;> subst h)
      | refine ⟨⟨by kernel_rfl, by kernel_rfl, by kernel_rfl⟩, ?_⟩
      | (show Go.Ab.CallA _ _ _ _ _ _ _; first
          | refine Call0 (c_impl_Watch_isNode w who) rfl rfl ?_
          | refine Call0 (c_impl_GoodWatch w hok) rfl rfl ?_)
      | refine ix_map_at hx ?_
      | refine ix_map_at hy ?_
      | refine sl_pre (by omega) (fun _ => rfl) ?_
      | refine sl_suf (by omega) (fun _ => rfl) ?_
      | (refine ix_map2 hx (by omega) (by (try simp only [List.length_take]); omega) (fun y hy => ?_); try simp only [Int.toNat_natCast] at hy)
      | (refine ix_map (by omega) (by (try simp only [List.length_take]); omega) (fun x hx => ?_); try simp only [Int.toNat_natCast] at hx)
      | refine side_and (side_of (by first | (and_intros <;> first | exact Nat.le_of_ble_eq_true rfl | rfl | omega | (simp only [List.length_map, List.length_append, List.length_replicate, List.length_take, List.length_cons, List.length_nil, List.length_drop, List.length_set, markList_length, midL_len, mkL_length]; omega) | exact bytes_ok (Nat.le_of_ble_eq_true rfl) (by omega) (by simp only [List.length_map, List.length_append, List.length_replicate, List.length_take, List.length_cons, List.length_nil, List.length_drop, List.length_set, markList_length, midL_len, mkL_length]; omega) | exact bytes_okN (Nat.le_of_ble_eq_true rfl) (by simp only [List.length_map, List.length_append, List.length_replicate, List.length_take, List.length_cons, List.length_nil, List.length_drop, List.length_set, markList_length, midL_len, mkL_length]; omega)) | fail)) ?_
      | refine nilB_intro (fun h => ?_) ?_
      | refine side_and (side_of (show Go.Ab.structOk _ _ = true by kernel_rfl)) ?_
      | refine side_and (side_of (map_len (fun _ => rfl))) ?_
      | refine side_and (side_of (map_one (fun _ => rfl) _)) ?_
      | refine side_and ?_ ?_
      | refine LoadK_of rfl rfl ?_
      | refine LoadD_cel rfl rfl rfl rfl ?_
      | refine LoadD_of rfl ?_
      | refine StoreD_of rfl rfl rfl ?_
      | refine AppD_of rfl (by and_intros <;> first | rfl | decide) (by simp only [List.length_map, List.length_append, List.length_take, List.length_cons, List.length_nil]; first | (refine ⟨by omega, ?_⟩; refine Nat.le_trans (Nat.mul_le_mul_left _ (show _ ≤ 512 by decide)) ?_; omega) | fail) ?_
      | refine AppN_of rfl rfl (by and_intros <;> rfl) (by simp only [List.length_map, List.length_append, List.length_take, List.length_cons, List.length_nil]; first | (refine ⟨by omega, ?_⟩; refine Nat.le_trans (Nat.mul_le_mul_left _ (show _ ≤ 512 by decide)) ?_; omega) | fail) ?_
      | (show False; omega)
    all_goals
      conv => whnf
      first
      | (rw [show okDrift w who off = false from hno]; exact OutA_nilB 16 1 27 1 1 rfl rfl rfl (by decide) (OutA_nilB 16 2 112 3 2 rfl rfl rfl (by decide) (OutA_ids rfl rfl rfl ⟨⟨_, _, _, rfl, rfl⟩, ⟨_, _, _, rfl, rfl⟩, trivial⟩ rfl (.inr watch_flat))))
theorem pc_bool {P : Program} {sh : Bool} {f : Nat} {args : List AV} {b b' : Bool} {os : List AObj} (h : PC P sh f args (.bool b) os) (e : b = b') : PC P sh f args (.bool b') os := by rwa [e] at h
theorem c_spec_DriftTo (w : WatchT) (who off : Int) (hok : w.ok) (hl : w.w ≤ 1048576) : PC Try.prog false 148 [.agg w.cells, .int .i64 who, .int .i64 off] (.tup [.agg [.int .i64 (resW (okDrift w who off) (driftW w who off)).True, .own 0, .own 1], .bool (okDrift w who off)]) (watchOs (resW (okDrift w who off) (driftW w who off)).Clocks (resW (okDrift w who off) (driftW w who off)).Given) := by
  have hw2 : w.w = w.Clocks.length + w.Given.length := rfl
  by_cases hpre : okDrift w who off = true
  · have hp := hpre
    simp only [okDrift, Bool.and_eq_true] at hp
    obtain ⟨⟨hp1, hp2⟩, hp3⟩ := hp
    have hdi := okWho_lt hp2 (by omega)
    refine pc_at Try.func148 rfl (by kernel_rfl) 28 [.cell 6 30, .tmp 7] rfl rfl ?_
    repeat' (conv => whnf); first
      | refine get_map hdi.1 hdi.2 (fun x hx => ?_)
      | refine nameB_true ?_
      | refine nameB_false ?_
      | refine nameB_yes (by assumption) ?_
      | refine nameB_no (by assumption) ?_
      | refine nameB_dyes (by assumption) ?_
      | refine nameB_dno (by assumption) ?_
      | (refine nameB_dec (fun h => ?_) (fun h => ?_) <;> try simp only [List.length_map, List.length_take, List.length_append, List.length_drop, List.length_set, markList_length, midL_len, mkL_length, Int.toNat_natCast, fact_byte] at h)
      | (refine nameB_cases (fun h => ?_) (fun h => ?_) <;> try simp only [bne_iff_ne, ne_eq, bne_eq_false_iff_eq, beq_iff_eq, beq_eq_false_iff_ne, Bool.not_eq_true', Bool.not_eq_false', Bool.or_eq_true, Bool.or_eq_false_iff, List.length_map, List.length_take, List.length_append, List.length_drop, List.length_set, markList_length, midL_len, mkL_length, Int.toNat_natCast, fact_byte] at h)
      | refine splitB_true ?_
      | refine splitB_false ?_
      | (refine splitB_intro (fun h => ?_) (fun h => ?_) <;> subst h)
      | refine ⟨⟨by kernel_rfl, by kernel_rfl, by kernel_rfl⟩, ?_⟩
      | (show Go.Ab.CallA _ _ _ _ _ _ _; first
          | refine Call0 (pc_bool (b' := true) (c_spec_l10Has w who hok) (by rw [hp1, hp2]; rfl)) rfl rfl ?_
          | refine Call0 (pc_bool (b' := true) (c_spec_l1In off (-5) 5) hp3) rfl rfl ?_
          | refine CallF (c_spec_l10Own w hl) rfl rfl rfl (Nat.le_of_ble_eq_true rfl) ?_)
      | refine ix_map_at hx ?_
      | refine ix_map_at hy ?_
      | refine sl_pre (by omega) (fun _ => rfl) ?_
      | refine sl_suf (by omega) (fun _ => rfl) ?_
      | (refine ix_map2 hx (by omega) (by (try simp only [List.length_take]); omega) (fun y hy => ?_); try simp only [Int.toNat_natCast] at hy)
      | (refine ix_map (by omega) (by (try simp only [List.length_take]); omega) (fun x hx => ?_); try simp only [Int.toNat_natCast] at hx)
      | refine side_and (side_of (by first | (and_intros <;> first | exact Nat.le_of_ble_eq_true rfl | rfl | omega | (simp only [List.length_map, List.length_append, List.length_replicate, List.length_take, List.length_cons, List.length_nil, List.length_drop, List.length_set, markList_length, midL_len, mkL_length]; omega) | exact bytes_ok (Nat.le_of_ble_eq_true rfl) (by omega) (by simp only [List.length_map, List.length_append, List.length_replicate, List.length_take, List.length_cons, List.length_nil, List.length_drop, List.length_set, markList_length, midL_len, mkL_length]; omega) | exact bytes_okN (Nat.le_of_ble_eq_true rfl) (by simp only [List.length_map, List.length_append, List.length_replicate, List.length_take, List.length_cons, List.length_nil, List.length_drop, List.length_set, markList_length, midL_len, mkL_length]; omega)) | fail)) ?_
      | refine nilB_intro (fun h => ?_) ?_
      | refine side_and (side_of (show Go.Ab.structOk _ _ = true by kernel_rfl)) ?_
      | refine side_and (side_of (map_len (fun _ => rfl))) ?_
      | refine side_and (side_of (map_one (fun _ => rfl) _)) ?_
      | refine side_and ?_ ?_
      | refine LoadK_of rfl rfl ?_
      | refine LoadD_cel rfl rfl rfl rfl ?_
      | refine LoadD_of rfl ?_
      | refine StoreD_of rfl rfl rfl ?_
      | refine AppD_of rfl (by and_intros <;> first | rfl | decide) (by simp only [List.length_map, List.length_append, List.length_take, List.length_cons, List.length_nil]; first | (refine ⟨by omega, ?_⟩; refine Nat.le_trans (Nat.mul_le_mul_left _ (show _ ≤ 512 by decide)) ?_; omega) | fail) ?_
      | refine AppN_of rfl rfl (by and_intros <;> rfl) (by simp only [List.length_map, List.length_append, List.length_take, List.length_cons, List.length_nil]; first | (refine ⟨by omega, ?_⟩; refine Nat.le_trans (Nat.mul_le_mul_left _ (show _ ≤ 512 by decide)) ?_; omega) | fail) ?_
      | (show False; omega)
    all_goals
      conv => whnf
      rw [hpre]
      exact OutA_ids rfl rfl rfl ⟨⟨_, _, _, rfl, congrArg (AObj.mk false _ _) (set_map rfl).symm⟩, ⟨_, _, _, rfl, rfl⟩, trivial⟩ rfl (.inr watch_flat)
  · have hno : okDrift w who off = false := by simpa using hpre
    refine pc_at Try.func148 rfl (by kernel_rfl) 28 [.cell 6 30, .tmp 7] rfl rfl ?_
    repeat' (conv => whnf); first
      | exact absurd (show okDrift w who off = true by rw [okDrift, show (okWatch w && okWho w.Clocks.length who) = true by assumption, show inB (-5) off 5 = true by assumption]; rfl) hpre
      | refine nameB_true ?_
      | refine nameB_false ?_
      | refine nameB_yes (by assumption) ?_
      | refine nameB_no (by assumption) ?_
      | refine nameB_dyes (by assumption) ?_
      | refine nameB_dno (by assumption) ?_
      | (refine nameB_dec (fun h => ?_) (fun h => ?_) <;> try simp only [List.length_map, List.length_take, List.length_append, List.length_drop, List.length_set, markList_length, midL_len, mkL_length, Int.toNat_natCast, fact_byte] at h)
      | (refine nameB_cases (fun h => ?_) (fun h => ?_) <;> try simp only [bne_iff_ne, ne_eq, bne_eq_false_iff_eq, beq_iff_eq, beq_eq_false_iff_ne, Bool.not_eq_true', Bool.not_eq_false', Bool.or_eq_true, Bool.or_eq_false_iff, List.length_map, List.length_take, List.length_append, List.length_drop, List.length_set, markList_length, midL_len, mkL_length, Int.toNat_natCast, fact_byte] at h)
      | refine splitB_true ?_
      | refine splitB_false ?_
      | (refine splitB_intro (fun h => ?_) (fun h => ?_) <;> subst h)
      | refine ⟨⟨by kernel_rfl, by kernel_rfl, by kernel_rfl⟩, ?_⟩
      | (show Go.Ab.CallA _ _ _ _ _ _ _; first
          | refine Call0 (c_spec_l10Has w who hok) rfl rfl ?_
          | refine Call0 (c_spec_l1In ..) rfl rfl ?_)
      | refine ix_map_at hx ?_
      | refine ix_map_at hy ?_
      | refine sl_pre (by omega) (fun _ => rfl) ?_
      | refine sl_suf (by omega) (fun _ => rfl) ?_
      | (refine ix_map2 hx (by omega) (by (try simp only [List.length_take]); omega) (fun y hy => ?_); try simp only [Int.toNat_natCast] at hy)
      | (refine ix_map (by omega) (by (try simp only [List.length_take]); omega) (fun x hx => ?_); try simp only [Int.toNat_natCast] at hx)
      | refine side_and (side_of (by first | (and_intros <;> first | exact Nat.le_of_ble_eq_true rfl | rfl | omega | (simp only [List.length_map, List.length_append, List.length_replicate, List.length_take, List.length_cons, List.length_nil, List.length_drop, List.length_set, markList_length, midL_len, mkL_length]; omega) | exact bytes_ok (Nat.le_of_ble_eq_true rfl) (by omega) (by simp only [List.length_map, List.length_append, List.length_replicate, List.length_take, List.length_cons, List.length_nil, List.length_drop, List.length_set, markList_length, midL_len, mkL_length]; omega) | exact bytes_okN (Nat.le_of_ble_eq_true rfl) (by simp only [List.length_map, List.length_append, List.length_replicate, List.length_take, List.length_cons, List.length_nil, List.length_drop, List.length_set, markList_length, midL_len, mkL_length]; omega)) | fail)) ?_
      | refine nilB_intro (fun h => ?_) ?_
      | refine side_and (side_of (show Go.Ab.structOk _ _ = true by kernel_rfl)) ?_
      | refine side_and (side_of (map_len (fun _ => rfl))) ?_
      | refine side_and (side_of (map_one (fun _ => rfl) _)) ?_
      | refine side_and ?_ ?_
      | refine LoadK_of rfl rfl ?_
      | refine LoadD_cel rfl rfl rfl rfl ?_
      | refine LoadD_of rfl ?_
      | refine StoreD_of rfl rfl rfl ?_
      | refine AppD_of rfl (by and_intros <;> first | rfl | decide) (by simp only [List.length_map, List.length_append, List.length_take, List.length_cons, List.length_nil]; first | (refine ⟨by omega, ?_⟩; refine Nat.le_trans (Nat.mul_le_mul_left _ (show _ ≤ 512 by decide)) ?_; omega) | fail) ?_
      | refine AppN_of rfl rfl (by and_intros <;> rfl) (by simp only [List.length_map, List.length_append, List.length_take, List.length_cons, List.length_nil]; first | (refine ⟨by omega, ?_⟩; refine Nat.le_trans (Nat.mul_le_mul_left _ (show _ ≤ 512 by decide)) ?_; omega) | fail) ?_
      | (show False; omega)
    all_goals
      conv => whnf
      first
      | (rw [show okDrift w who off = false from hno]; exact OutA_nilB 16 1 27 1 1 rfl rfl rfl (by decide) (OutA_nilB 16 2 112 3 2 rfl rfl rfl (by decide) (OutA_ids rfl rfl rfl ⟨⟨_, _, _, rfl, rfl⟩, ⟨_, _, _, rfl, rfl⟩, trivial⟩ rfl (.inr watch_flat))))
theorem zero_ok : (⟨0, [], []⟩ : WatchT).ok := ⟨trivial, ⟨Nat.zero_le _, fun _ h => by cases h⟩, ⟨Nat.zero_le _, fun _ h => by cases h⟩⟩
end Go.Proofs.Ytgeoghlgpnedfaa
