/-
  What the functions that change lease tables give.
  No condition.
-/
import Derived.Test.YtcdlapjpnenkdaaWatch3
namespace Go.Proofs.Ytcdlapjpnenkdaa
open Go.Ab
set_option linter.unusedSimpArgs false
set_option maxRecDepth 20000
set_option maxHeartbeats 2000000
set_option linter.unusedVariables false

def driftW (w : WatchT) (who off : Int) : WatchT := { w with Clocks := w.Clocks.set who.toNat ⟨off⟩ }
def okDrift (w : WatchT) (who off : Int) : Bool := okWatch w && okWho w.Clocks.length who && inB (-5) off 5
theorem drift_ok {w : WatchT} {who off : Int} (hw : okWatch w = true) (hi : 0 ≤ who ∧ who < w.Clocks.length) : okWatch (driftW w who off) = inB (-5) off 5 := by
  have key : ∀ (cs : List ClockT) (i : Nat), i < cs.length → cs.all okClock = true → (cs.set i ⟨off⟩).all okClock = inB (-5) off 5 := by
    intro cs
    induction cs with
    | nil => intro i h; simp at h
    | cons c cs ih =>
      intro i h ha
      simp only [List.all_cons, Bool.and_eq_true] at ha
      cases i with
      | zero => simp only [List.set_cons_zero, List.all_cons, ha.2, Bool.and_true]; rfl
      | succ i =>
        simp only [List.set_cons_succ, List.all_cons, ha.1, Bool.true_and]
        exact ih i (by simpa using h) ha.2
  simp only [okWatch, Bool.and_eq_true] at hw
  have h1 := key w.Clocks who.toNat (by omega) hw.1.1.2.2
  have e : okWatch (driftW w who off) = (inB 0 w.True 100000 && (inB 1 (w.Clocks.set who.toNat ⟨off⟩).length 5 && (w.Clocks.set who.toNat ⟨off⟩).all okClock) && decide ((w.Given.length : Int) ≤ 40) && w.Given.all (okLease (w.Clocks.set who.toNat ⟨off⟩).length)) := rfl
  rw [e, List.length_set, hw.1.1.1, hw.1.1.2.1, h1, hw.1.2, hw.2]
  simp only [Bool.and_true, Bool.true_and]
theorem set_map {α : Type} {f : α → List AV} {xs : List α} {i : Nat} {x : α} {e : List AV} (he : e = f x) : (xs.map f).set i e = (xs.set i x).map f := by rw [he, List.map_set]
theorem get_map {α : Type} {f : α → List AV} {xs : List α} {n : Int} {Q : List AV → Prop} (h0 : 0 ≤ n) (h : n < xs.length) (hQ : ∀ x, xs[n.toNat]? = some x → Q (f x)) : ∃ e, (xs.map f)[n.toNat]? = some e ∧ Q e := (ix_map h0 h hQ).2
theorem drift_okk {w : WatchT} {who off : Int} (hok : w.ok) : (driftW w who off).ok := by
  refine ⟨hok.1, ⟨by simpa [driftW] using hok.2.1.1, fun c hc => trivial⟩, hok.2.2⟩
theorem c_impl_DriftTo (w : WatchT) (who off : Int) (hok : w.ok) (hl : w.w ≤ 1048576) : PC Try.prog false 20 [.agg w.cells, .int .i64 who, .int .i64 off] (.tup [.agg [.int .i64 (resW (okDrift w who off) (driftW w who off)).True, .own 0, .own 1], .bool (okDrift w who off)]) (watchOs (resW (okDrift w who off) (driftW w who off)).Clocks (resW (okDrift w who off) (driftW w who off)).Given) := by
  have hw2 : w.w = w.Clocks.length + w.Given.length := rfl
  have hd : okWatch w = true → okWho w.Clocks.length who = true → okWatch (driftW w who off) = inB (-5) off 5 ∧ (0 ≤ who ∧ who < w.Clocks.length) := fun h1 h2 => ⟨drift_ok h1 (okWho_lt h2 (by omega)), okWho_lt h2 (by omega)⟩
  by_cases hpre : okWatch w = true ∧ okWho w.Clocks.length who = true
  · obtain ⟨hp1, hp2⟩ := hpre
    obtain ⟨hdo, hdi⟩ := hd hp1 hp2
    refine pc_at Try.func20 rfl (by kernel_rfl) 31 [.cell 6 33, .tmp 7] rfl rfl ?_
    repeat' (conv => whnf); first
      | refine get_map hdi.1 hdi.2 (fun x hx => ?_)
      | refine nameB_true ?_
      | refine nameB_false ?_
      | refine nameB_yes (by assumption) ?_
      | refine nameB_no (by assumption) ?_
      | refine nameB_dyes (by assumption) ?_
      | refine nameB_dno (by assumption) ?_
      | (refine nameB_dec (fun h => ?_) (fun h => ?_) <;> try simp only [List.length_map, List.length_take, List.length_append, List.length_drop, markList_length, Int.toNat_natCast, fact_byte] at h)
      | (refine nameB_cases (fun h => ?_) (fun h => ?_) <;> try simp only [bne_iff_ne, ne_eq, bne_eq_false_iff_eq, beq_iff_eq, beq_eq_false_iff_ne, Bool.not_eq_true', Bool.not_eq_false', Bool.or_eq_true, Bool.or_eq_false_iff, List.length_map, List.length_take, List.length_append, List.length_drop, markList_length, Int.toNat_natCast, fact_byte] at h)
      | refine splitB_true ?_
      | refine splitB_false ?_
      | (refine splitB_intro (fun h => ?_) (fun h => ?_) <;> subst h)
      | refine ⟨⟨by kernel_rfl, by kernel_rfl, by kernel_rfl⟩, ?_⟩
      | (show Go.Ab.CallA _ _ _ _ _ _ _; first
          | refine Call0 (c_impl_Watch_isNode w who) rfl rfl ?_
          | refine CallF (c_impl_copyWatch w hl) rfl rfl rfl (Nat.le_of_ble_eq_true rfl) ?_
          | refine CallI (nid := 4096 * 5 + 16 * 1) (f := 57) Try.func57 rfl (by kernel_rfl) 1000000 [6] 9 [.cell 2 33, .tmp 3] rfl rfl ?_
          | refine Call0 (c_impl_GoodWatch w hok) rfl rfl ?_
          | refine Call0 (c_impl_GoodWatch (driftW w who off) (drift_okk hok)) (congrArg (fun l => [AV.agg [AV.int .i64 w.True, .sl l, .sl (w.Given.map LeaseT.cells)]]) (set_map rfl)) rfl ?_)
      | (show Go.Ab.RetI _ _ _ _ _ _ _ _; refine RetI_of rfl ?_)
      | refine ix_map_at hx ?_
      | refine ix_map_at hy ?_
      | refine sl_pre (by omega) (fun _ => rfl) ?_
      | refine sl_suf (by omega) (fun _ => rfl) ?_
      | (refine ix_map2 hx (by omega) (by (try simp only [List.length_take]); omega) (fun y hy => ?_); try simp only [Int.toNat_natCast] at hy)
      | (refine ix_map (by omega) (by (try simp only [List.length_take]); omega) (fun x hx => ?_); try simp only [Int.toNat_natCast] at hx)
      | refine side_and (side_of (by first | (and_intros <;> first | exact Nat.le_of_ble_eq_true rfl | rfl | omega | (simp only [List.length_map, List.length_append, List.length_replicate, List.length_take, List.length_cons, List.length_nil, List.length_drop, List.length_set, markList_length]; omega) | exact bytes_ok (Nat.le_of_ble_eq_true rfl) (by omega) (by simp only [List.length_map, List.length_append, List.length_replicate, List.length_take, List.length_cons, List.length_nil, List.length_drop, List.length_set, markList_length]; omega) | exact bytes_okN (Nat.le_of_ble_eq_true rfl) (by simp only [List.length_map, List.length_append, List.length_replicate, List.length_take, List.length_cons, List.length_nil, List.length_drop, List.length_set, markList_length]; omega)) | fail)) ?_
      | refine nilB_intro (fun h => ?_) ?_
      | refine side_and (side_of (map_len (fun _ => rfl))) ?_
      | refine side_and (side_of (map_one (fun _ => rfl) _)) ?_
      | refine side_and ?_ ?_
      | refine LoadK_of rfl rfl ?_
      | (show False; omega)
    all_goals
      conv => whnf
      first
      | (rw [show okDrift w who off = true from by rw [okDrift, hp1, hp2, ← hdo]; exact h]; exact OutA_ids rfl rfl rfl ⟨⟨_, _, _, rfl, congrArg (AObj.mk false _ _) (set_map rfl).symm⟩, ⟨_, _, _, rfl, rfl⟩, trivial⟩ rfl (.inr watch_flat))
      | (rw [show okDrift w who off = false from by rw [okDrift, hp1, hp2, ← hdo]; exact h]; exact OutA_nilB 16 1 49 1 1 rfl rfl rfl (by decide) (OutA_nilB 16 2 85 3 2 rfl rfl rfl (by decide) (OutA_ids rfl rfl rfl ⟨⟨_, _, _, rfl, rfl⟩, ⟨_, _, _, rfl, rfl⟩, trivial⟩ rfl (.inr watch_flat))))
  · have hno : okDrift w who off = false := by
      cases h1 : okWatch w <;> cases h2 : okWho w.Clocks.length who <;> simp_all [okDrift]
    refine pc_at Try.func20 rfl (by kernel_rfl) 31 [.cell 6 33, .tmp 7] rfl rfl ?_
    repeat' (conv => whnf); first
      | exact absurd (And.intro (by assumption) (by assumption)) hpre
      | refine nameB_true ?_
      | refine nameB_false ?_
      | refine nameB_yes (by assumption) ?_
      | refine nameB_no (by assumption) ?_
      | refine nameB_dyes (by assumption) ?_
      | refine nameB_dno (by assumption) ?_
      | (refine nameB_dec (fun h => ?_) (fun h => ?_) <;> try simp only [List.length_map, List.length_take, List.length_append, List.length_drop, markList_length, Int.toNat_natCast, fact_byte] at h)
      | (refine nameB_cases (fun h => ?_) (fun h => ?_) <;> try simp only [bne_iff_ne, ne_eq, bne_eq_false_iff_eq, beq_iff_eq, beq_eq_false_iff_ne, Bool.not_eq_true', Bool.not_eq_false', Bool.or_eq_true, Bool.or_eq_false_iff, List.length_map, List.length_take, List.length_append, List.length_drop, markList_length, Int.toNat_natCast, fact_byte] at h)
      | refine splitB_true ?_
      | refine splitB_false ?_
      | (refine splitB_intro (fun h => ?_) (fun h => ?_) <;> subst h)
      | refine ⟨⟨by kernel_rfl, by kernel_rfl, by kernel_rfl⟩, ?_⟩
      | (show Go.Ab.CallA _ _ _ _ _ _ _; first
          | refine Call0 (c_impl_Watch_isNode w who) rfl rfl ?_
          | refine Call0 (c_impl_GoodWatch w hok) rfl rfl ?_)
      | refine ix_map_at hx ?_
      | refine ix_map_at hy ?_
      | refine sl_pre (by omega) (fun _ => rfl) ?_
      | refine sl_suf (by omega) (fun _ => rfl) ?_
      | (refine ix_map2 hx (by omega) (by (try simp only [List.length_take]); omega) (fun y hy => ?_); try simp only [Int.toNat_natCast] at hy)
      | (refine ix_map (by omega) (by (try simp only [List.length_take]); omega) (fun x hx => ?_); try simp only [Int.toNat_natCast] at hx)
      | refine side_and (side_of (by first | (and_intros <;> first | exact Nat.le_of_ble_eq_true rfl | rfl | omega | (simp only [List.length_map, List.length_append, List.length_replicate, List.length_take, List.length_cons, List.length_nil, List.length_drop, List.length_set, markList_length]; omega) | exact bytes_ok (Nat.le_of_ble_eq_true rfl) (by omega) (by simp only [List.length_map, List.length_append, List.length_replicate, List.length_take, List.length_cons, List.length_nil, List.length_drop, List.length_set, markList_length]; omega) | exact bytes_okN (Nat.le_of_ble_eq_true rfl) (by simp only [List.length_map, List.length_append, List.length_replicate, List.length_take, List.length_cons, List.length_nil, List.length_drop, List.length_set, markList_length]; omega)) | fail)) ?_
      | refine nilB_intro (fun h => ?_) ?_
      | refine side_and (side_of (map_len (fun _ => rfl))) ?_
      | refine side_and (side_of (map_one (fun _ => rfl) _)) ?_
      | refine side_and ?_ ?_
      | refine LoadK_of rfl rfl ?_
      | (show False; omega)
    all_goals
      conv => whnf
      first
      | (rw [show okDrift w who off = false from hno]; exact OutA_nilB 16 1 49 1 1 rfl rfl rfl (by decide) (OutA_nilB 16 2 85 3 2 rfl rfl rfl (by decide) (OutA_ids rfl rfl rfl ⟨⟨_, _, _, rfl, rfl⟩, ⟨_, _, _, rfl, rfl⟩, trivial⟩ rfl (.inr watch_flat))))
theorem pc_bool {P : Program} {sh : Bool} {f : Nat} {args : List AV} {b b' : Bool} {os : List AObj} (h : PC P sh f args (.bool b) os) (e : b = b') : PC P sh f args (.bool b') os := by rwa [e] at h
theorem c_spec_DriftTo (w : WatchT) (who off : Int) (hok : w.ok) (hl : w.w ≤ 1048576) : PC Try.prog false 19 [.agg w.cells, .int .i64 who, .int .i64 off] (.tup [.agg [.int .i64 (resW (okDrift w who off) (driftW w who off)).True, .own 0, .own 1], .bool (okDrift w who off)]) (watchOs (resW (okDrift w who off) (driftW w who off)).Clocks (resW (okDrift w who off) (driftW w who off)).Given) := by
  have hw2 : w.w = w.Clocks.length + w.Given.length := rfl
  by_cases hpre : okDrift w who off = true
  · have hp := hpre
    simp only [okDrift, Bool.and_eq_true] at hp
    obtain ⟨⟨hp1, hp2⟩, hp3⟩ := hp
    have hdi := okWho_lt hp2 (by omega)
    refine pc_at Try.func19 rfl (by kernel_rfl) 28 [.cell 6 33, .tmp 7] rfl rfl ?_
    repeat' (conv => whnf); first
      | refine get_map hdi.1 hdi.2 (fun x hx => ?_)
      | refine nameB_true ?_
      | refine nameB_false ?_
      | refine nameB_yes (by assumption) ?_
      | refine nameB_no (by assumption) ?_
      | refine nameB_dyes (by assumption) ?_
      | refine nameB_dno (by assumption) ?_
      | (refine nameB_dec (fun h => ?_) (fun h => ?_) <;> try simp only [List.length_map, List.length_take, List.length_append, List.length_drop, markList_length, Int.toNat_natCast, fact_byte] at h)
      | (refine nameB_cases (fun h => ?_) (fun h => ?_) <;> try simp only [bne_iff_ne, ne_eq, bne_eq_false_iff_eq, beq_iff_eq, beq_eq_false_iff_ne, Bool.not_eq_true', Bool.not_eq_false', Bool.or_eq_true, Bool.or_eq_false_iff, List.length_map, List.length_take, List.length_append, List.length_drop, markList_length, Int.toNat_natCast, fact_byte] at h)
      | refine splitB_true ?_
      | refine splitB_false ?_
      | (refine splitB_intro (fun h => ?_) (fun h => ?_) <;> subst h)
      | refine ⟨⟨by kernel_rfl, by kernel_rfl, by kernel_rfl⟩, ?_⟩
      | (show Go.Ab.CallA _ _ _ _ _ _ _; first
          | refine Call0 (pc_bool (b' := true) (c_spec_l10Has w who hok) (by rw [hp1, hp2]; rfl)) rfl rfl ?_
          | refine Call0 (pc_bool (b' := true) (c_spec_l1In off (-5) 5) hp3) rfl rfl ?_
          | refine CallF (c_spec_l10Own w hl) rfl rfl rfl (Nat.le_of_ble_eq_true rfl) ?_)
      | refine ix_map_at hx ?_
      | refine ix_map_at hy ?_
      | refine sl_pre (by omega) (fun _ => rfl) ?_
      | refine sl_suf (by omega) (fun _ => rfl) ?_
      | (refine ix_map2 hx (by omega) (by (try simp only [List.length_take]); omega) (fun y hy => ?_); try simp only [Int.toNat_natCast] at hy)
      | (refine ix_map (by omega) (by (try simp only [List.length_take]); omega) (fun x hx => ?_); try simp only [Int.toNat_natCast] at hx)
      | refine side_and (side_of (by first | (and_intros <;> first | exact Nat.le_of_ble_eq_true rfl | rfl | omega | (simp only [List.length_map, List.length_append, List.length_replicate, List.length_take, List.length_cons, List.length_nil, List.length_drop, List.length_set, markList_length]; omega) | exact bytes_ok (Nat.le_of_ble_eq_true rfl) (by omega) (by simp only [List.length_map, List.length_append, List.length_replicate, List.length_take, List.length_cons, List.length_nil, List.length_drop, List.length_set, markList_length]; omega) | exact bytes_okN (Nat.le_of_ble_eq_true rfl) (by simp only [List.length_map, List.length_append, List.length_replicate, List.length_take, List.length_cons, List.length_nil, List.length_drop, List.length_set, markList_length]; omega)) | fail)) ?_
      | refine nilB_intro (fun h => ?_) ?_
      | refine side_and (side_of (map_len (fun _ => rfl))) ?_
      | refine side_and (side_of (map_one (fun _ => rfl) _)) ?_
      | refine side_and ?_ ?_
      | refine LoadK_of rfl rfl ?_
      | (show False; omega)
    all_goals
      conv => whnf
      rw [hpre]
      exact OutA_ids rfl rfl rfl ⟨⟨_, _, _, rfl, congrArg (AObj.mk false _ _) (set_map rfl).symm⟩, ⟨_, _, _, rfl, rfl⟩, trivial⟩ rfl (.inr watch_flat)
  · have hno : okDrift w who off = false := by simpa using hpre
    refine pc_at Try.func19 rfl (by kernel_rfl) 28 [.cell 6 33, .tmp 7] rfl rfl ?_
    repeat' (conv => whnf); first
      | exact absurd (show okDrift w who off = true by rw [okDrift, show (okWatch w && okWho w.Clocks.length who) = true by assumption, show inB (-5) off 5 = true by assumption]; rfl) hpre
      | refine nameB_true ?_
      | refine nameB_false ?_
      | refine nameB_yes (by assumption) ?_
      | refine nameB_no (by assumption) ?_
      | refine nameB_dyes (by assumption) ?_
      | refine nameB_dno (by assumption) ?_
      | (refine nameB_dec (fun h => ?_) (fun h => ?_) <;> try simp only [List.length_map, List.length_take, List.length_append, List.length_drop, markList_length, Int.toNat_natCast, fact_byte] at h)
      | (refine nameB_cases (fun h => ?_) (fun h => ?_) <;> try simp only [bne_iff_ne, ne_eq, bne_eq_false_iff_eq, beq_iff_eq, beq_eq_false_iff_ne, Bool.not_eq_true', Bool.not_eq_false', Bool.or_eq_true, Bool.or_eq_false_iff, List.length_map, List.length_take, List.length_append, List.length_drop, markList_length, Int.toNat_natCast, fact_byte] at h)
      | refine splitB_true ?_
      | refine splitB_false ?_
      | (refine splitB_intro (fun h => ?_) (fun h => ?_) <;> subst h)
      | refine ⟨⟨by kernel_rfl, by kernel_rfl, by kernel_rfl⟩, ?_⟩
      | (show Go.Ab.CallA _ _ _ _ _ _ _; first
          | refine Call0 (c_spec_l10Has w who hok) rfl rfl ?_
          | refine Call0 (c_spec_l1In ..) rfl rfl ?_)
      | refine ix_map_at hx ?_
      | refine ix_map_at hy ?_
      | refine sl_pre (by omega) (fun _ => rfl) ?_
      | refine sl_suf (by omega) (fun _ => rfl) ?_
      | (refine ix_map2 hx (by omega) (by (try simp only [List.length_take]); omega) (fun y hy => ?_); try simp only [Int.toNat_natCast] at hy)
      | (refine ix_map (by omega) (by (try simp only [List.length_take]); omega) (fun x hx => ?_); try simp only [Int.toNat_natCast] at hx)
      | refine side_and (side_of (by first | (and_intros <;> first | exact Nat.le_of_ble_eq_true rfl | rfl | omega | (simp only [List.length_map, List.length_append, List.length_replicate, List.length_take, List.length_cons, List.length_nil, List.length_drop, List.length_set, markList_length]; omega) | exact bytes_ok (Nat.le_of_ble_eq_true rfl) (by omega) (by simp only [List.length_map, List.length_append, List.length_replicate, List.length_take, List.length_cons, List.length_nil, List.length_drop, List.length_set, markList_length]; omega) | exact bytes_okN (Nat.le_of_ble_eq_true rfl) (by simp only [List.length_map, List.length_append, List.length_replicate, List.length_take, List.length_cons, List.length_nil, List.length_drop, List.length_set, markList_length]; omega)) | fail)) ?_
      | refine nilB_intro (fun h => ?_) ?_
      | refine side_and (side_of (map_len (fun _ => rfl))) ?_
      | refine side_and (side_of (map_one (fun _ => rfl) _)) ?_
      | refine side_and ?_ ?_
      | refine LoadK_of rfl rfl ?_
      | (show False; omega)
    all_goals
      conv => whnf
      first
      | (rw [show okDrift w who off = false from hno]; exact OutA_nilB 16 1 49 1 1 rfl rfl rfl (by decide) (OutA_nilB 16 2 85 3 2 rfl rfl rfl (by decide) (OutA_ids rfl rfl rfl ⟨⟨_, _, _, rfl, rfl⟩, ⟨_, _, _, rfl, rfl⟩, trivial⟩ rfl (.inr watch_flat))))
theorem law_DriftTo (a W : WatchT) (b : Bool) (who off : Int) (hok : a.ok) (hW : W.ok) (hc : W.Clocks.length ≤ 1048576) (hg : W.Given.length ≤ 1048576)
    (hS : a.w ≤ 1048576 → PC Try.prog false 19 [.agg a.cells, .int .i64 who, .int .i64 off] (.tup [.agg [.int .i64 W.True, .own 0, .own 1], .bool b]) (watchOs W.Clocks W.Given))
    (hI : a.w ≤ 1048576 → PC Try.prog false 20 [.agg a.cells, .int .i64 who, .int .i64 off] (.tup [.agg [.int .i64 W.True, .own 0, .own 1], .bool b]) (watchOs W.Clocks W.Given)) :
    PC Try.prog false 4 [.agg a.cells, .int .i64 who, .int .i64 off] (.bool true) [] := by
  have hw2 : a.w = a.Clocks.length + a.Given.length := rfl
  refine pc_at Try.func4 rfl (by kernel_rfl) 106 [.tmp 6] rfl rfl ?_
  repeat' (conv => whnf); first
    | refine nameB_self (b := b) ?_
    | refine nameB_no (b := !(b == b)) (by simp) ?_
    | refine nameB_dno (by omega) ?_
    | refine nameB_true ?_
    | refine nameB_false ?_
    | refine nameB_yes (by assumption) ?_
    | refine nameB_no (by assumption) ?_
    | refine nameB_dyes (by assumption) ?_
    | refine nameB_dno (by assumption) ?_
    | (refine nameB_dec (fun h => ?_) (fun h => ?_) <;> try simp only [List.length_map, List.length_take, List.length_append, List.length_drop, markList_length, Int.toNat_natCast, fact_byte] at h)
    | (refine nameB_cases (fun h => ?_) (fun h => ?_) <;> try simp only [bne_iff_ne, ne_eq, bne_eq_false_iff_eq, beq_iff_eq, beq_eq_false_iff_ne, Bool.not_eq_true', Bool.not_eq_false', Bool.or_eq_true, Bool.or_eq_false_iff, List.length_map, List.length_take, List.length_append, List.length_drop, markList_length, Int.toNat_natCast, fact_byte] at h)
    | refine splitB_true ?_
    | refine splitB_false ?_
    | (refine splitB_intro (fun h => ?_) (fun h => ?_) <;> subst h)
    | refine ⟨⟨by kernel_rfl, by kernel_rfl, by kernel_rfl⟩, ?_⟩
    | (show Go.Ab.Loop _ _ _; first
        | (refine Loop_at [0] [0, 8224, 8225, 8226, 20496, 20497, 20498, 20544, 20545, 20546, 20608, 24593, 24594, 24608, 28720, 28721, 28722, 28784, 32800, 32801, 32802, 40992, 40993, 40994, 41008, 41009, 41010, 53280, 53281, 53282, 57424, 57425, 57426, 69664, 69665, 69666, 77856, 77857, 77858, 98320, 98321, 98322, 98368, 98369, 98370, 98432, 102432, 102433, 102434, 114720, 114721, 114722, 1000000, 2000000] (Nat) (fun i => i ≤ (a.Clocks).length) (fun i => [(5, .int .i64 (i : Nat)), (1, .int .i64 (1 + 1 * (i : Nat)))]) (fun i => [(24592, ⟨false, 49, 1, (markList 1 ClockT.mark (1) i).map ClockT.cells ++ ((a.Clocks).drop i).map ClockT.cells⟩)]) (fun i => (a.Clocks).length - i) 0 ⟨by first | first | exact congrArg (AV.int IntKind.i64) (by omega) | exact congrArg (AV.int IntKind.i64) ((inc_eq rfl (by omega) (by omega)).trans (by omega)) | rfl | fail, by first | first | exact congrArg (AV.int IntKind.i64) (by omega) | exact congrArg (AV.int IntKind.i64) ((inc_eq rfl (by omega) (by omega)).trans (by omega)) | rfl | fail, trivial⟩ ⟨by first | rfl | exact congrArg (fun e => some (AObj.mk false _ _ e)) (by (try simp only [List.set_set]); exact mark_set hx rfl) | fail | fail, trivial⟩ (by (try dsimp only); first | (exact Nat.zero_le _) | fail) ?_; (conv => whnf); refine side_and (side_of (by first | exact fun i => rfl | exact fun i => by simp [headOk, closedE, closedO, closedL, AV.closed, hcap.closed])) ?_; rintro i hM; try dsimp only at hM)
        | (refine Loop_at [0] [0, 8224, 8225, 8226, 20496, 20497, 20498, 20544, 20545, 20546, 20608, 24592, 24594, 24608, 28720, 28721, 28722, 28784, 32800, 32801, 32802, 40992, 40993, 40994, 41008, 41009, 41010, 53280, 53281, 53282, 57424, 57425, 57426, 69664, 69665, 69666, 77856, 77857, 77858, 98320, 98321, 98322, 98368, 98369, 98370, 98432, 102432, 102433, 102434, 114720, 114721, 114722, 1000000, 2000000] (Nat) (fun i => i ≤ (a.Given).length) (fun i => [(5, .int .i64 (i : Nat)), (1, .int .i64 (1 + 1 * (a.Clocks.length : Int) + 3 * (i : Nat)))]) (fun i => [(24593, ⟨false, 85, 3, (markList 3 LeaseT.mark (1 + 1 * (a.Clocks.length : Int)) i).map LeaseT.cells ++ ((a.Given).drop i).map LeaseT.cells⟩)]) (fun i => (a.Given).length - i) 0 ⟨by first | first | exact congrArg (AV.int IntKind.i64) (by omega) | exact congrArg (AV.int IntKind.i64) ((inc_eq (inc_eq (inc_eq rfl (by omega) (by omega)) (by omega) (by omega)) (by omega) (by omega)).trans (by omega)) | rfl | fail, by first | first | exact congrArg (AV.int IntKind.i64) (by omega) | exact congrArg (AV.int IntKind.i64) ((inc_eq (inc_eq (inc_eq rfl (by omega) (by omega)) (by omega) (by omega)) (by omega) (by omega)).trans (by omega)) | rfl | fail, trivial⟩ ⟨by first | rfl | exact congrArg (fun e => some (AObj.mk false _ _ e)) (by (try simp only [List.set_set]); exact mark_set hx rfl) | fail | fail, trivial⟩ (by (try dsimp only); first | (exact Nat.zero_le _) | fail) ?_; (conv => whnf); refine side_and (side_of (by first | exact fun i => rfl | exact fun i => by simp [headOk, closedE, closedO, closedL, AV.closed, hcap.closed])) ?_; rintro i hM; try dsimp only at hM)
        | (refine Loop_at [0] [0, 8224, 8225, 8226, 20496, 20497, 20498, 20544, 20545, 20546, 20608, 24592, 24593, 24594, 24608, 28721, 28722, 28784, 32800, 32801, 32802, 40992, 40993, 40994, 41008, 41009, 41010, 53280, 53281, 53282, 57424, 57425, 57426, 69664, 69665, 69666, 77856, 77857, 77858, 98320, 98321, 98322, 98368, 98369, 98370, 98432, 102432, 102433, 102434, 114720, 114721, 114722, 1000000, 2000000] (Nat) (fun i => i ≤ (W.Clocks).length) (fun i => [(5, .int .i64 (i : Nat)), (1, .int .i64 (1 + 1 * (i : Nat)))]) (fun i => [(28720, ⟨false, 49, 1, (markList 1 ClockT.mark (1) i).map ClockT.cells ++ ((W.Clocks).drop i).map ClockT.cells⟩)]) (fun i => (W.Clocks).length - i) 0 ⟨by first | first | exact congrArg (AV.int IntKind.i64) (by omega) | exact congrArg (AV.int IntKind.i64) ((inc_eq rfl (by omega) (by omega)).trans (by omega)) | rfl | fail, by first | first | exact congrArg (AV.int IntKind.i64) (by omega) | exact congrArg (AV.int IntKind.i64) ((inc_eq rfl (by omega) (by omega)).trans (by omega)) | rfl | fail, trivial⟩ ⟨by first | rfl | exact congrArg (fun e => some (AObj.mk false _ _ e)) (by (try simp only [List.set_set]); exact mark_set hx rfl) | fail | fail, trivial⟩ (by (try dsimp only); first | (exact Nat.zero_le _) | fail) ?_; (conv => whnf); refine side_and (side_of (by first | exact fun i => rfl | exact fun i => by simp [headOk, closedE, closedO, closedL, AV.closed, hcap.closed])) ?_; rintro i hM; try dsimp only at hM)
        | (refine Loop_at [0] [0, 8224, 8225, 8226, 20496, 20497, 20498, 20544, 20545, 20546, 20608, 24592, 24593, 24594, 24608, 28720, 28722, 28784, 32800, 32801, 32802, 40992, 40993, 40994, 41008, 41009, 41010, 53280, 53281, 53282, 57424, 57425, 57426, 69664, 69665, 69666, 77856, 77857, 77858, 98320, 98321, 98322, 98368, 98369, 98370, 98432, 102432, 102433, 102434, 114720, 114721, 114722, 1000000, 2000000] (Nat) (fun i => i ≤ (W.Given).length) (fun i => [(5, .int .i64 (i : Nat)), (1, .int .i64 (1 + 1 * (W.Clocks.length : Int) + 3 * (i : Nat)))]) (fun i => [(28721, ⟨false, 85, 3, (markList 3 LeaseT.mark (1 + 1 * (W.Clocks.length : Int)) i).map LeaseT.cells ++ ((W.Given).drop i).map LeaseT.cells⟩)]) (fun i => (W.Given).length - i) 0 ⟨by first | first | exact congrArg (AV.int IntKind.i64) (by omega) | exact congrArg (AV.int IntKind.i64) ((inc_eq (inc_eq (inc_eq rfl (by omega) (by omega)) (by omega) (by omega)) (by omega) (by omega)).trans (by omega)) | rfl | fail, by first | first | exact congrArg (AV.int IntKind.i64) (by omega) | exact congrArg (AV.int IntKind.i64) ((inc_eq (inc_eq (inc_eq rfl (by omega) (by omega)) (by omega) (by omega)) (by omega) (by omega)).trans (by omega)) | rfl | fail, trivial⟩ ⟨by first | rfl | exact congrArg (fun e => some (AObj.mk false _ _ e)) (by (try simp only [List.set_set]); exact mark_set hx rfl) | fail | fail, trivial⟩ (by (try dsimp only); first | (exact Nat.zero_le _) | fail) ?_; (conv => whnf); refine side_and (side_of (by first | exact fun i => rfl | exact fun i => by simp [headOk, closedE, closedO, closedL, AV.closed, hcap.closed])) ?_; rintro i hM; try dsimp only at hM))
    | (show Go.Ab.Again _ _ _ _ _ _ _ _ _ _ _; first
        | refine Again_of (i + 1) ⟨by first | rfl | exact i64_next (by omega) | first | exact congrArg (AV.int IntKind.i64) (by omega) | exact congrArg (AV.int IntKind.i64) ((inc_eq rfl (by omega) (by omega)).trans (by omega)) | fail, by first | first | exact congrArg (AV.int IntKind.i64) (by omega) | exact congrArg (AV.int IntKind.i64) ((inc_eq rfl (by omega) (by omega)).trans (by omega)) | rfl | fail, trivial⟩ ⟨by first | rfl | exact congrArg (fun e => some (AObj.mk false _ _ e)) (by (try simp only [List.set_set]); exact mark_set hx rfl) | fail | fail, trivial⟩ (by first | (and_intros <;> first | rfl | trivial) | fail) (by first | (and_intros <;> first | rfl | trivial) | fail) rfl rfl rfl (by (try dsimp only); first | ((show i + 1 ≤ _; omega)) | fail) (show _ < _ by (try dsimp only); omega)
        | refine Again_of (i + 1) ⟨by first | rfl | exact i64_next (by omega) | first | exact congrArg (AV.int IntKind.i64) (by omega) | exact congrArg (AV.int IntKind.i64) ((inc_eq (inc_eq (inc_eq rfl (by omega) (by omega)) (by omega) (by omega)) (by omega) (by omega)).trans (by omega)) | fail, by first | first | exact congrArg (AV.int IntKind.i64) (by omega) | exact congrArg (AV.int IntKind.i64) ((inc_eq (inc_eq (inc_eq rfl (by omega) (by omega)) (by omega) (by omega)) (by omega) (by omega)).trans (by omega)) | rfl | fail, trivial⟩ ⟨by first | rfl | exact congrArg (fun e => some (AObj.mk false _ _ e)) (by (try simp only [List.set_set]); exact mark_set hx rfl) | fail | fail, trivial⟩ (by first | (and_intros <;> first | rfl | trivial) | fail) (by first | (and_intros <;> first | rfl | trivial) | fail) rfl rfl rfl (by (try dsimp only); first | ((show i + 1 ≤ _; omega)) | fail) (show _ < _ by (try dsimp only); omega)
        | refine Again_of (i + 1) ⟨by first | rfl | exact i64_next (by omega) | first | exact congrArg (AV.int IntKind.i64) (by omega) | exact congrArg (AV.int IntKind.i64) ((inc_eq rfl (by omega) (by omega)).trans (by omega)) | fail, by first | first | exact congrArg (AV.int IntKind.i64) (by omega) | exact congrArg (AV.int IntKind.i64) ((inc_eq rfl (by omega) (by omega)).trans (by omega)) | rfl | fail, trivial⟩ ⟨by first | rfl | exact congrArg (fun e => some (AObj.mk false _ _ e)) (by (try simp only [List.set_set]); exact mark_set hx rfl) | fail | fail, trivial⟩ (by first | (and_intros <;> first | rfl | trivial) | fail) (by first | (and_intros <;> first | rfl | trivial) | fail) rfl rfl rfl (by (try dsimp only); first | ((show i + 1 ≤ _; omega)) | fail) (show _ < _ by (try dsimp only); omega)
        | refine Again_of (i + 1) ⟨by first | rfl | exact i64_next (by omega) | first | exact congrArg (AV.int IntKind.i64) (by omega) | exact congrArg (AV.int IntKind.i64) ((inc_eq (inc_eq (inc_eq rfl (by omega) (by omega)) (by omega) (by omega)) (by omega) (by omega)).trans (by omega)) | fail, by first | first | exact congrArg (AV.int IntKind.i64) (by omega) | exact congrArg (AV.int IntKind.i64) ((inc_eq (inc_eq (inc_eq rfl (by omega) (by omega)) (by omega) (by omega)) (by omega) (by omega)).trans (by omega)) | rfl | fail, trivial⟩ ⟨by first | rfl | exact congrArg (fun e => some (AObj.mk false _ _ e)) (by (try simp only [List.set_set]); exact mark_set hx rfl) | fail | fail, trivial⟩ (by first | (and_intros <;> first | rfl | trivial) | fail) (by first | (and_intros <;> first | rfl | trivial) | fail) rfl rfl rfl (by (try dsimp only); first | ((show i + 1 ≤ _; omega)) | fail) (show _ < _ by (try dsimp only); omega))
    | (show Go.Ab.CallA _ _ _ _ _ _ _; first
        | (by_cases hn : (1048576 : Int) - ((WatchT.w a : Nat) : Int) < 0 <;> first | refine Call0 (pc_szneg (c_laws_szWatch a (1048576 : Int) (by omega) (by omega) hok) hn) rfl rfl ?_ | refine Call0 (pc_szpos (c_laws_szWatch a (1048576 : Int) (by omega) (by omega) hok) hn) rfl rfl ?_)
        | refine CallF (hS (by omega)) rfl rfl rfl (Nat.le_of_ble_eq_true rfl) ?_
        | refine CallF (hI (by omega)) rfl rfl rfl (Nat.le_of_ble_eq_true rfl) ?_
        | refine CallF (c_laws_toWatch a (by omega)) rfl rfl rfl (Nat.le_of_ble_eq_true rfl) ?_
        | refine Call0 (pc_true (c_laws_eqWatch W W hW) rfl) rfl rfl ?_
        | refine Call0 (pc_true (c_laws_eqWatch a a hok) rfl) rfl rfl ?_
        | refine CallI (nid := 4096 * 13 + 16 * 2) (f := 16) Try.func16 rfl (by kernel_rfl) 1000000 [1, 2, 3, 8, 9, 11, 12] 14 [.tmp 4] rfl rfl ?_
        | refine CallI (nid := 4096 * 17 + 16 * 2) (f := 16) Try.func16 rfl (by kernel_rfl) 2000000 [1, 2, 3, 8, 9, 11] 14 [.tmp 4] rfl rfl ?_
        | refine CallI (f := 50) Try.func50 rfl (by kernel_rfl) 3000000 [2] 20 [.tmp 4] rfl rfl ?_
        | refine CallI (f := 51) Try.func51 rfl (by kernel_rfl) 4000000 [] 34 [.tmp 4] rfl rfl ?_
        | refine Call0 (c_laws_heldWatch W.True W.Clocks.length W.Given.length hc hg) (held_watch (mark_end (by omega) (by omega)) (mark_end (by omega) (by omega))) rfl ?_)
    | (show Go.Ab.CallD _ _ _ _ _ _ _; first
        | (by_cases hn : (1048576 : Int) - ((WatchT.w a : Nat) : Int) < 0 <;> first | refine CallD0 (pc_szneg (c_laws_szWatch a (1048576 : Int) (by omega) (by omega) hok) hn) rfl rfl rfl ?_ | refine CallD0 (pc_szpos (c_laws_szWatch a (1048576 : Int) (by omega) (by omega) hok) hn) rfl rfl rfl ?_)
        | refine CallDF (hS (by omega)) rfl rfl ⟨rfl, rfl⟩ ?_
        | refine CallDF (hI (by omega)) rfl rfl ⟨rfl, rfl⟩ ?_
        | refine CallDF (c_laws_toWatch a (by omega)) rfl rfl ⟨rfl, rfl⟩ ?_
        | refine CallD0 (pc_true (c_laws_eqWatch W W hW) rfl) rfl rfl rfl ?_
        | refine CallD0 (pc_true (c_laws_eqWatch a a hok) rfl) rfl rfl rfl ?_
        | refine CallD0 (c_laws_heldWatch W.True W.Clocks.length W.Given.length hc hg) (held_watch (mark_end (by omega) (by omega)) (mark_end (by omega) (by omega))) rfl ?_)
    | (show Go.Ab.RetI _ _ _ _ _ _ _ _; refine RetI_of rfl ?_)
    | refine ix_map_at hx ?_
    | refine ix_map_at hy ?_
    | refine sl_pre (by omega) (fun _ => rfl) ?_
    | refine sl_suf (by omega) (fun _ => rfl) ?_
    | (refine ix_map2 hx (by omega) (by (try simp only [List.length_take]); omega) (fun y hy => ?_); try simp only [Int.toNat_natCast] at hy)
    | (refine ix_map (by omega) (by (try simp only [List.length_take]); omega) (fun x hx => ?_); try simp only [Int.toNat_natCast] at hx)
    | refine side_and (side_of (by first | (and_intros <;> first | exact Nat.le_of_ble_eq_true rfl | rfl | omega | (simp only [List.length_map, List.length_append, List.length_replicate, List.length_take, List.length_cons, List.length_nil, List.length_drop, List.length_set, markList_length]; omega) | exact bytes_ok (Nat.le_of_ble_eq_true rfl) (by omega) (by simp only [List.length_map, List.length_append, List.length_replicate, List.length_take, List.length_cons, List.length_nil, List.length_drop, List.length_set, markList_length]; omega) | exact bytes_okN (Nat.le_of_ble_eq_true rfl) (by simp only [List.length_map, List.length_append, List.length_replicate, List.length_take, List.length_cons, List.length_nil, List.length_drop, List.length_set, markList_length]; omega)) | fail)) ?_
    | refine nilB_intro (fun h => ?_) ?_
    | refine side_and (side_of (map_len (fun _ => rfl))) ?_
    | refine side_and (side_of (map_one (fun _ => rfl) _)) ?_
    | refine side_and ?_ ?_
    | refine LoadK_of rfl rfl ?_
    | (obtain ⟨x, hx⟩ := get_lt (xs := a.Clocks) (i := i) (by omega); refine ix_mark (by simp only [List.length_map, markList_length]) hx ?_)
    | refine ix_set (by simp only [List.length_map, List.length_append, List.length_drop, List.length_set, markList_length]; omega) ?_
    | (obtain ⟨x, hx⟩ := get_lt (xs := a.Given) (i := i) (by omega); refine ix_mark (by simp only [List.length_map, markList_length]) hx ?_)
    | refine ix_set (by simp only [List.length_map, List.length_append, List.length_drop, List.length_set, markList_length]; omega) ?_
    | (obtain ⟨x, hx⟩ := get_lt (xs := W.Clocks) (i := i) (by omega); refine ix_mark (by simp only [List.length_map, markList_length]) hx ?_)
    | refine ix_set (by simp only [List.length_map, List.length_append, List.length_drop, List.length_set, markList_length]; omega) ?_
    | (obtain ⟨x, hx⟩ := get_lt (xs := W.Given) (i := i) (by omega); refine ix_mark (by simp only [List.length_map, markList_length]) hx ?_)
    | refine ix_set (by simp only [List.length_map, List.length_append, List.length_drop, List.length_set, markList_length]; omega) ?_
    | (show False; omega)
  all_goals
    conv => whnf
    refine OutA_plain rfl rfl ?_
    first | rfl | (exfalso; omega) | (exfalso; simp at *; omega)
theorem zero_ok : (⟨0, [], []⟩ : WatchT).ok := ⟨trivial, ⟨Nat.zero_le _, fun _ h => by cases h⟩, ⟨Nat.zero_le _, fun _ h => by cases h⟩⟩
theorem c_laws_FnExactDriftTo (a : WatchT) (who off : Int) (hok : a.ok) : PC Try.prog false 4 [.agg a.cells, .int .i64 who, .int .i64 off] (.bool true) [] := by
  by_cases hw : a.w ≤ 1048576
  · have hw2 : a.w = a.Clocks.length + a.Given.length := rfl
    refine law_DriftTo a (resW (okDrift a who off) (driftW a who off)) (okDrift a who off) who off hok ?_ ?_ ?_ (c_spec_DriftTo a who off hok) (c_impl_DriftTo a who off hok)
    · cases okDrift a who off with
      | true => exact drift_okk hok
      | false => exact zero_ok
    · cases okDrift a who off with
      | true => show (a.Clocks.set _ _).length ≤ _; rw [List.length_set]; omega
      | false => exact Nat.zero_le _
    · cases okDrift a who off with
      | true => show a.Given.length ≤ _; omega
      | false => exact Nat.zero_le _
  · exact law_DriftTo a ⟨0, [], []⟩ false who off hok zero_ok (Nat.zero_le _) (Nat.zero_le _) (fun h => absurd h hw) (fun h => absurd h hw)
end Go.Proofs.Ytcdlapjpnenkdaa
