/-
  The program's and the reference's numbers are the same: a plain law.
  No condition.
-/
import Derived.Test.YthbheejeloomjaaGreatDoorNum1
import Derived.Test.YthbheejeloomjaaGreatDoorNum2
namespace Go.Proofs.YthbheejeloomjaaGreatDoor
open Go.Ab
set_option linter.unusedSimpArgs false
set_option maxHeartbeats 4000000
set_option linter.unusedVariables false

theorem isDg_of {d : Nat} (h : d < 10) : isDg (UInt8.ofNat (48 + d)) = true ∧ (UInt8.ofNat (48 + d)).toNat = 48 + d := by
  have e : (UInt8.ofNat (48 + d)).toNat = 48 + d := by rw [UInt8.toNat_ofNat']; omega
  refine ⟨?_, e⟩
  unfold isDg
  rw [e]
  simp only [Bool.and_eq_true, decide_eq_true_eq]
  omega
theorem dd_dg (n : Nat) : (Lib.decDigits n).all isDg = true ∧ decN (Lib.decDigits n) = n ∧ 0 < (Lib.decDigits n).length := by
  induction n using Nat.strongRecOn with
  | ind n ih =>
    rw [Lib.decDigits]
    split
    · rename_i h
      obtain ⟨h1, h2⟩ := isDg_of h
      refine ⟨by rw [List.all_cons, h1]; rfl, ?_, by simp⟩
      show 10 * 0 + ((UInt8.ofNat (48 + n)).toNat - 48) = n
      rw [h2]; omega
    · rename_i h
      obtain ⟨h1, h2, h3⟩ := ih (n / 10) (by omega)
      obtain ⟨h4, h5⟩ := isDg_of (d := n % 10) (by omega)
      refine ⟨by rw [List.all_append, h1, List.all_cons, h4]; rfl, ?_, by simp⟩
      rw [decN_snoc, h2, h5]
      omega
theorem getD_app {l : List UInt8} {c : UInt8} (h : 0 < l.length) : (l ++ [c]).getD 0 0 = l.getD 0 0 := by
  rw [List.getD_eq_getElem?_getD, List.getD_eq_getElem?_getD, List.getElem?_append_left h]
theorem dd_head (n : Nat) (hn : 0 < n) : ((Lib.decDigits n).getD 0 0).toNat ≠ 48 := by
  induction n using Nat.strongRecOn with
  | ind n ih =>
    rw [Lib.decDigits]
    split
    · rename_i h
      obtain ⟨h1, h2⟩ := isDg_of h
      show (UInt8.ofNat (48 + n)).toNat ≠ 48
      rw [h2]; omega
    · rename_i h
      rw [getD_app (dd_dg (n / 10)).2.2]
      exact ih (n / 10) (by omega) (by omega)
theorem dd_ok6 {n : Nat} (h : n ≤ 999999) : okL6 (Lib.decDigits n) = true := by
  have h1 := dd_len 5 n (by omega)
  have h2 := (dd_dg n).2.2
  refine okL6_3 ?_ ?_
  · unfold inB
    simp only [Bool.and_eq_true, decide_eq_true_eq]
    omega
  · by_cases h0 : n = 0
    · right
      have e : Lib.decDigits n = [UInt8.ofNat (48 + n)] := by rw [Lib.decDigits, dif_pos (by omega)]
      rw [e]
      simp
    · left
      have := dd_head n (by omega)
      omega
theorem rd6_dd {n : Nat} (h : n ≤ 999999) : rd6 (Lib.decDigits n) = (n : Int) := by
  unfold rd6
  rw [dd_ok6 h, (dd_dg n).1, (dd_dg n).2.1]
  rfl
theorem dd_decN : ∀ (k : Nat) (l : List UInt8), l.length = k + 1 → l.all isDg = true → ((l.getD 0 0).toNat ≠ 48 ∨ l.length = 1) → Lib.decDigits (decN l) = l ∧ ((l.getD 0 0).toNat ≠ 48 → 0 < decN l)
  | 0, l, hl, hd, h => by
    match l, hl with
    | [c], _ =>
      simp only [List.all_cons, List.all_nil, Bool.and_true] at hd
      unfold isDg at hd
      simp only [Bool.and_eq_true, decide_eq_true_eq] at hd
      have e : decN [c] = c.toNat - 48 := by show 10 * 0 + (c.toNat - 48) = _; omega
      refine ⟨?_, fun hh => ?_⟩
      · rw [e, Lib.decDigits, dif_pos (by omega)]
        have : 48 + (c.toNat - 48) = c.toNat := by omega
        rw [this, UInt8.ofNat_toNat]
      · have : c.toNat ≠ 48 := hh
        omega
  | k + 1, l, hl, hd, h => by
    have hne : l ≠ [] := by intro e; rw [e] at hl; simp at hl
    obtain ⟨ini, c, rfl⟩ : ∃ ini c, l = ini ++ [c] := ⟨l.dropLast, l.getLast hne, (List.dropLast_concat_getLast hne).symm⟩
    have hi : ini.length = k + 1 := by rw [List.length_append] at hl; simp at hl; omega
    rw [List.all_append, Bool.and_eq_true] at hd
    have hc := hd.2
    simp only [List.all_cons, List.all_nil, Bool.and_true] at hc
    unfold isDg at hc
    simp only [Bool.and_eq_true, decide_eq_true_eq] at hc
    rw [getD_app (by omega)] at h ⊢
    have h48 : (ini.getD 0 0).toNat ≠ 48 := by
      rcases h with h | h
      · exact h
      · rw [List.length_append, List.length_singleton] at h; omega
    obtain ⟨e1, e2⟩ := dd_decN k ini hi hd.1 (.inl h48)
    have e3 := e2 h48
    rw [decN_snoc]
    refine ⟨?_, fun _ => by omega⟩
    rw [dd_more (show ¬ 10 * decN ini + (c.toNat - 48) < 10 by omega), show (10 * decN ini + (c.toNat - 48)) / 10 = decN ini by omega, e1, show 48 + (10 * decN ini + (c.toNat - 48)) % 10 = c.toNat by omega, UInt8.ofNat_toNat]
theorem rd6_text {l : List UInt8} (h : 0 ≤ rd6 l) : Lib.decDigits (rd6 l).toNat = l ∧ l.all isDg = true ∧ 0 < l.length := by
  unfold rd6 at h ⊢
  split at h
  · rename_i hb
    rw [Bool.and_eq_true] at hb
    have h2 := hb.1
    unfold okL6 at h2
    rw [Bool.and_eq_true] at h2
    have h3 := inB_le' h2.1
    have h4 : (l.getD 0 0).toNat ≠ 48 ∨ l.length = 1 := by
      have := h2.2
      simp only [Bool.not_eq_true', Bool.and_eq_false_iff, decide_eq_false_iff_not] at this
      omega
    simp only [Int.toNat_natCast]
    exact ⟨(dd_decN (l.length - 1) l (by omega) hb.2 h4).1, hb.2, by omega⟩
  · omega
theorem pu_dg : ∀ (l : List UInt8) (acc k : Nat), l.all isDg = true → acc < 10 ^ k → k + l.length ≤ 18 → Lib.parseUint10 acc l = .ok (l.foldl (fun n c => 10 * n + (c.toNat - 48)) acc)
  | [], acc, k, _, _, _ => rfl
  | c :: l, acc, k, hd, ha, hk => by
    simp only [List.all_cons, Bool.and_eq_true] at hd
    have hc := hd.1
    unfold isDg at hc
    simp only [Bool.and_eq_true, decide_eq_true_eq] at hc
    simp only [List.length_cons] at hk
    have h5 := Nat.pow_le_pow_right (show 0 < 10 by omega) (show k ≤ 17 by omega)
    unfold Lib.parseUint10
    rw [if_pos hc, if_neg (by omega), if_neg (by omega), pu_dg l (acc * 10 + (c.toNat - 48)) (k + 1) hd.2 (by rw [Nat.pow_succ]; omega) (by omega)]
    rw [List.foldl_cons, Nat.mul_comm acc 10]
theorem pm_dd {n : Nat} (h : n ≤ 999999) : Lib.parseMag (Lib.decDigits n) = .ok n := by
  have h1 := dd_dg n
  have h2 := dd_len 5 n (by omega)
  unfold Lib.parseMag
  rw [if_neg (by intro e; rw [e] at h1; simp at h1)]
  have := pu_dg (Lib.decDigits n) 0 0 h1.1 (by decide) (by omega)
  rw [this]
  exact congrArg _ h1.2.1
theorem dd_cons (n : Nat) : ∃ c r, Lib.decDigits n = c :: r ∧ 48 ≤ c.toNat ∧ c.toNat ≤ 57 := by
  have h := dd_dg n
  cases hd : Lib.decDigits n with
  | nil => rw [hd] at h; simp at h
  | cons c r =>
    rw [hd] at h
    simp only [List.all_cons, Bool.and_eq_true] at h
    have hc := h.1.1
    unfold isDg at hc
    simp only [Bool.and_eq_true, decide_eq_true_eq] at hc
    exact ⟨c, r, rfl, hc.1, hc.2⟩
theorem atoi_itoa {v : Int} (h0 : -999999 ≤ v) (h1 : v ≤ 999999) : Lib.atoiAll (Lib.itoa v) = .ok v := by
  unfold Lib.itoa
  split
  · rename_i hn
    unfold Lib.atoiAll
    simp only
    rw [if_pos (.inr (by decide)), pm_dd (by omega)]
    simp only
    rw [if_neg (fun q => q.1 (by decide)), if_neg (by omega), if_pos (by decide)]
    exact congrArg _ (by omega)
  · rename_i hn
    obtain ⟨c, r, e, hc0, hc1⟩ := dd_cons v.toNat
    have hp := pm_dd (n := v.toNat) (by omega)
    rw [e] at hp ⊢
    unfold Lib.atoiAll
    simp only
    rw [if_neg (by omega), hp]
    simp only
    rw [if_neg (by omega), if_neg (by omega), if_neg (by omega)]
    exact congrArg _ (by omega)
theorem numS_itoa {v : Int} (h0 : -999999 ≤ v) (h1 : v ≤ 999999) : numS (Lib.itoa v) = (v, true) := by
  unfold Lib.itoa
  split
  · rename_i hn
    have hr := rd6_dd (n := v.natAbs) (by omega)
    have hg : negS (45 :: Lib.decDigits v.natAbs) = true := by unfold negS; rw [decide_eq_true (by simp)]; rfl
    have hd : (45 :: Lib.decDigits v.natAbs).drop 1 = Lib.decDigits v.natAbs := rfl
    rw [numS_ok1 hg (by rw [hd, hr]; omega) (by rw [hd, hr]; omega), hd, hr]
    exact congrArg (fun x => (x, true)) (by omega)
  · rename_i hn
    have hr := rd6_dd (n := v.toNat) (by omega)
    have hg : negS (Lib.decDigits v.toNat) = false := by
      obtain ⟨c, r, e, hc0, hc1⟩ := dd_cons v.toNat
      rw [e]
      refine negS_no (.inr ?_)
      show ¬ ((c.toNat : Int) = 45)
      omega
    rw [numS_ok2 hg (by rw [hr]; omega), hr]
    exact congrArg (fun x => (x, true)) (by omega)
theorem numS_text {l : List UInt8} (h : (numS l).2 = true) : -999999 ≤ (numS l).1 ∧ (numS l).1 ≤ 999999 ∧ Lib.itoa (numS l).1 = l := by
  cases hg : negS l with
  | true =>
    have hb := rd6_in (l.drop 1)
    by_cases h2 : rd6 (l.drop 1) < 0 ∨ rd6 (l.drop 1) = 0
    · rw [numS_bad1 hg h2] at h; cases h
    · rw [numS_ok1 hg (fun q => h2 (.inl q)) (fun q => h2 (.inr q))]
      simp only
      refine ⟨by omega, by omega, ?_⟩
      have ht := (rd6_text (l := l.drop 1) (by omega)).1
      unfold Lib.itoa
      rw [if_pos (by omega), show (-(rd6 (l.drop 1))).natAbs = (rd6 (l.drop 1)).toNat by omega, ht]
      unfold negS at hg
      simp only [Bool.and_eq_true, decide_eq_true_eq] at hg
      cases l with
      | nil => simp at hg
      | cons c r =>
        have hc : c.toNat = 45 := hg.2
        show 45 :: r = c :: r
        rw [show (45 : UInt8) = c from UInt8.toNat_inj.1 hc.symm]
  | false =>
    have hb := rd6_in l
    by_cases h2 : rd6 l < 0
    · rw [numS_bad2 hg h2] at h; cases h
    · rw [numS_ok2 hg h2]
      simp only
      refine ⟨by omega, by omega, ?_⟩
      unfold Lib.itoa
      rw [if_neg (by omega)]
      exact (rd6_text (l := l) (by omega)).1
theorem numS_zero {l : List UInt8} (h : (numS l).2 = false) : numS l = (0, false) := by
  cases hg : negS l with
  | true =>
    by_cases h2 : rd6 (l.drop 1) < 0 ∨ rd6 (l.drop 1) = 0
    · exact numS_bad1 hg h2
    · rw [numS_ok1 hg (fun q => h2 (.inl q)) (fun q => h2 (.inr q))] at h; cases h
  | false =>
    by_cases h2 : rd6 l < 0
    · exact numS_bad2 hg h2
    · rw [numS_ok2 hg h2] at h; cases h
theorem num_eq (l : List UInt8) : readI l (-999999) 999999 = numS l := by
  cases hb : (numS l).2 with
  | true =>
    obtain ⟨h0, h1, ht⟩ := numS_text hb
    have ha := atoi_itoa h0 h1
    rw [ht] at ha
    unfold readI
    rw [ha]
    simp only
    rw [if_pos ⟨⟨h0, h1⟩, ht⟩, ← hb]
  | false =>
    rw [numS_zero hb]
    unfold readI
    cases ha : Lib.atoiAll l
    case ok v =>
      simp only
      rw [if_neg]
      rintro ⟨⟨h0, h1⟩, ht⟩
      have := numS_itoa h0 h1
      rw [ht] at this
      rw [this] at hb
      cases hb
    all_goals rfl
end Go.Proofs.YthbheejeloomjaaGreatDoor
