/-
  What ReadRec gives.
  No condition.
-/
import Derived.Test.YtfpkfnfgloonhaaGreatRead6
namespace Go.Proofs.YtfpkfnfgloonhaaGreat
open Go.Ab
set_option linter.unusedSimpArgs false
set_option maxRecDepth 20000
set_option maxHeartbeats 4000000
set_option linter.unusedVariables false

def zeroR : RecT := ⟨0, 0, 0, 0, [], [], false⟩
def goodR (b : List UInt8) (r : RecT × Bool) : Bool := !r.2 && okRec r.1 && decide (recB r.1 = b)
def outR (b : List UInt8) : RecT × Bool := match (sealF b).2 && goodR b (recS (sealF b).1) with | true => ((recS (sealF b).1).1, true) | false => (zeroR, false)
theorem good_same {b s : List UInt8} : goodR b (recI s) = goodR b (recS s) ∧ (goodR b (recS s) = true → recI s = recS s) := by
  have h := rec_rel (s := s)
  unfold goodR
  cases hb : (recS s).2 with
  | true => rw [h.1, hb]; exact ⟨rfl, fun e => by cases e⟩
  | false => rw [h.2 hb, hb]; exact ⟨rfl, fun _ => rfl⟩
theorem outR_no {b : List UInt8} (h : ((sealF b).2 && goodR b (recS (sealF b).1)) = false) : outR b = (zeroR, false) := by unfold outR; rw [h]
theorem outR_yes {b : List UInt8} (h : ((sealF b).2 && goodR b (recS (sealF b).1)) = true) : outR b = ((recS (sealF b).1).1, true) := by unfold outR; rw [h]
theorem sealF_len {b : List UInt8} (h : (sealF b).2 = true) : (sealF b).1.length ≤ 5997 ∧ b.length ≤ 6000 := by
  unfold sealF at h ⊢
  by_cases hc : 3 ≤ b.length ∧ b.length ≤ 6000 ∧ sealB (b.take (b.length - 3)) = b
  · rw [if_pos hc, List.length_take]; omega
  · rw [if_neg hc] at h; cases h
/-- The writes and reads that were read are small. -/
structure SmallR (r : RecT) : Prop where
  reads : r.Reads.length ≤ 100
  writes : r.Writes.length ≤ 6000
  rl : ∀ x ∈ r.Reads, x.length ≤ 60
  wl : ∀ x ∈ r.Writes, x.Key.length ≤ 60 ∧ x.Val.length ≤ 60
theorem sum_le {α : Type} {w : α → Nat} {n : Nat} : ∀ (l : List α), (∀ x ∈ l, w x ≤ n) → (l.map w).sum ≤ n * l.length
  | [], _ => by simp
  | x :: l, h => by
    have h1 := h x (by simp)
    have h2 := sum_le l (fun y hy => h y (by simp [hy]))
    simp only [List.map_cons, List.sum_cons, List.length_cons, Nat.mul_add]
    omega
theorem SmallR.w {r : RecT} (h : SmallR r) : r.w ≤ 1048576 := by
  have e : r.w = wL List.length r.Reads + wL WriteT.w r.Writes := rfl
  have h1 : wL List.length r.Reads = r.Reads.length + (r.Reads.map List.length).sum := rfl
  have h2 : wL WriteT.w r.Writes = r.Writes.length + (r.Writes.map WriteT.w).sum := rfl
  have h3 := sum_le (w := List.length) (n := 60) r.Reads h.rl
  have h4 := sum_le (w := WriteT.w) (n := 120) r.Writes (fun x hx => by have := h.wl x hx; show x.Key.length + x.Val.length ≤ _; omega)
  have := h.reads
  have := h.writes
  omega
theorem SmallR.ok {r : RecT} (h : SmallR r) : r.ok :=
  ⟨trivial, trivial, trivial, trivial, ⟨by have := h.reads; omega, fun x hx => by have := h.rl x hx; show x.length ≤ _; omega⟩, ⟨by have := h.writes; omega, fun x hx => by have := h.wl x hx; exact ⟨by show x.Key.length ≤ _; omega, by show x.Val.length ≤ _; omega, trivial⟩⟩, trivial⟩
theorem manyG_len {α : Type} {b : List UInt8} {rd : Nat → α × Nat × Bool} (ho : ∀ a, a ≤ b.length → OkA b a (rd a)) (hg : ∀ a, a ≤ b.length → (rd a).2.2 = false → a < (rd a).2.1) : ∀ (k : Nat) (out : List α) (a : Nat) (f : Bool), a ≤ b.length → (f = false → out.length ≤ a) → out.length ≤ a + 1 → (manyG rd k out a f).1.length ≤ (manyG rd k out a f).2.1 + 1
  | 0, out, a, f, ha, h, h1 => h1
  | k + 1, out, a, true, ha, h, h1 => h1
  | k + 1, out, a, false, ha, h, h1 => by
    have o := ho a ha
    have hl := h rfl
    have lo := o.lo
    refine manyG_len ho hg k _ _ _ o.hi (fun e => ?_) ?_
    · have := hg a ha e
      rw [List.length_append]; show out.length + 1 ≤ _; omega
    · rw [List.length_append]; show out.length + 1 ≤ _; omega
theorem rdW_go {b : List UInt8} {a : Nat} (ha : a ≤ b.length) (h : (rdWI b a false).2.2 = false) : a < (rdWI b a false).2.1 := by
  have h1 := textFI_ok (b := b) (f := false) ha
  have h2 := takeF_ok (b := b) (f := (textFI b a false).2.2) (n := 1) h1.hi (by omega)
  have h3 := textFI_ok (b := b) (f := (takeF b (textFI b a false).2.1 (textFI b a false).2.2 1).2.2) h2.hi
  have hk : (textFI b a false).2.2 = false := by
    cases hb : (textFI b a false).2.2 with
    | false => rfl
    | true =>
      have h : (textFI b (takeF b (textFI b a false).2.1 (textFI b a false).2.2 1).2.1 (takeF b (textFI b a false).2.1 (textFI b a false).2.2 1).2.2).2.2 = false := h
      rw [hb] at h
      have : (textFI b (textFI b a false).2.1 true).2.2 = false := h
      rw [textFI_bad] at this
      cases this
  have := textFI_go ha hk
  exact Nat.lt_of_lt_of_le this (Nat.le_trans h2.lo h3.lo)
theorem rdW_small {b : List UInt8} {a : Nat} {f : Bool} (ha : a ≤ b.length) : (rdWI b a f).1.Key.length ≤ 60 ∧ (rdWI b a f).1.Val.length ≤ 60 := by
  have h1 := textFI_ok (b := b) (f := f) ha
  have h2 := takeF_ok (b := b) (f := (textFI b a f).2.2) (n := 1) h1.hi (by omega)
  exact ⟨textFI_len ha, textFI_len h2.hi⟩
theorem textsFI_small {b : List UInt8} {a : Nat} {f : Bool} (ha : a ≤ b.length) : (∀ x ∈ (textsFI b a f).1, x.length ≤ 60) ∧ (textsFI b a f).1.length ≤ 100 := by
  have ok := numFI_ok (b := b) (f := f) ha
  refine ⟨(manyG_all (b := b) (rd := fun a => textFI b a false) (p := fun x => x.length ≤ 60) (fun a ha => textFI_ok ha) (fun a ha => textFI_len ha) _ _ _ _ ok.hi (fun x hx => by cases hx)).1, ?_⟩
  by_cases h : (numFI b a f).1 > 40
  · unfold textsFI
    rw [decide_eq_true h, Bool.or_true, manyG_bad]
    exact Nat.zero_le _
  · have := (manyG_all (b := b) (rd := fun a => textFI b a false) (p := fun x => x.length ≤ 60) (fun a ha => textFI_ok ha) (fun a ha => textFI_len ha) (numFI b a f).1.toNat [] (numFI b a f).2.1 ((numFI b a f).2.2 || decide ((numFI b a f).1 > 40)) ok.hi (fun x hx => by cases hx)).2
    exact Nat.le_trans this (by show 0 + _ ≤ _; omega)
theorem recI_small {s : List UInt8} (hs : s.length ≤ 5997) : SmallR (recI s).1 := by
  have ht := textsFI_small (b := s) (a := (rA5 s).2.1) (f := (rA5 s).2.2) a5
  have hw := manyG_all (b := s) (rd := fun a => rdWI s a false) (p := fun x => x.Key.length ≤ 60 ∧ x.Val.length ≤ 60) (fun a ha => rdW_ok ha) (fun a ha => rdW_small ha) (rA7 s).1.toNat [] (rA7 s).2.1 (rA7 s).2.2 a7 (fun x hx => by cases hx)
  have hl := manyG_len (b := s) (rd := fun a => rdWI s a false) (fun a ha => rdW_ok ha) (fun a ha e => rdW_go ha e) (rA7 s).1.toNat [] (rA7 s).2.1 (rA7 s).2.2 a7 (fun _ => Nat.zero_le _) (Nat.zero_le _)
  have hi := (manyG_ok (b := s) (rd := fun a => rdWI s a false) (fun a ha => rdW_ok ha) (rA7 s).1.toNat [] (rA7 s).2.1 (rA7 s).2.2 a7).hi
  exact ⟨ht.2, by show (manyG _ _ _ _ _).1.length ≤ _; omega, ht.1, hw.1⟩
theorem rA7_nat {s : List UInt8} : (rA7 s).1 = ((rA7 s).1.toNat : Int) := (Int.toNat_of_nonneg (numFI_ok (b := s) (f := (rA6 s).2.2) a6).nn).symm
theorem rec_take {r : RecT} (h : SmallR r) : r.Writes.length ≤ 1048576 ∧ r.Reads.length ≤ 1048576 := ⟨by have := h.writes; omega, by have := h.reads; omega⟩
theorem app_w {out : List WriteT} {x : WriteT} {L : List (List AV)} (h : L = [x.cells]) : out.map WriteT.cells ++ L = (out ++ [x]).map WriteT.cells := by rw [h, List.map_append]; rfl
theorem c_impl_ReadRec (b : List UInt8) (hb : b.length ≤ 1073741824) : PC Tryz.prog false 185 [.str b] (.tup [.agg [.int .i64 (outR b).1.Kind, .int .i64 (outR b).1.Txn, .int .i64 (outR b).1.Time, .int .i64 (outR b).1.Lead, .own 0, .own 1, .bool (outR b).1.Yes], .bool (outR b).2]) [⟨false, 9, 1, (outR b).1.Reads.map strC⟩, ⟨false, 154, 3, (outR b).1.Writes.map WriteT.cells⟩] := by
  cases hs2 : (sealF b).2 with
  | false =>
    have e := outR_no (b := b) (by rw [hs2]; rfl)
    have hc := c_impl_OpenSeal b hb
    rw [hs2] at hc
    rw [e]
    refine pc_at Tryz.func185 rfl (by kernel_rfl) 77 [.cell 2 47, .tmp 3] rfl rfl ?_
    repeat' (conv => whnf); first
      | refine nameB_true ?_
      | refine nameB_false ?_
      | refine nameB_yes (by assumption) ?_
      | refine nameB_no (by assumption) ?_
      | refine nameB_dyes (by assumption) ?_
      | refine nameB_dno (by assumption) ?_
      | (refine nameB_dec (fun h => ?_) (fun h => ?_) <;> try simp only [lensB, midL_len, mkL_length, Int.toNat_natCast, fact_byte] at h)
      | (refine nameB_cases (fun h => ?_) (fun h => ?_) <;> try simp only [bne_iff_ne, ne_eq, bne_eq_false_iff_eq, beq_iff_eq, beq_eq_false_iff_ne, Bool.not_eq_true', Bool.not_eq_false', Bool.or_eq_true, Bool.or_eq_false_iff, lensB, midL_len, mkL_length, Int.toNat_natCast, fact_byte] at h)
      | refine splitB_true ?_
      | refine splitB_false ?_
      | (refine splitB_intro (fun h => ?_) (fun h => ?_) <;> subst h)
      | refine draw_text (by kernel_rfl) (by kernel_rfl) (by kernel_rfl) ?_
      | refine both_intro ?_ ?_
      | refine eitherB_l ?_
      | exact True.intro
      | (show Go.Ab.CallA _ _ _ _ _ _ _; refine Call0 (hc) rfl rfl ?_)
      | (show Go.Ab.CallD _ _ _ _ _ _ _; refine CallD0 (hc) rfl rfl rfl ?_)
      | refine ix_map_at hx ?_
      | refine ix_map_at hy ?_
      | refine sl_pre (by omega) (fun _ => rfl) ?_
      | refine sl_suf (by omega) (fun _ => rfl) ?_
      | (refine ix_map2 hx (by omega) (by (try simp only [List.length_take]); omega) (fun y hy => ?_); try simp only [Int.toNat_natCast] at hy)
      | (refine ix_map (by omega) (by (try simp only [List.length_take]); omega) (fun x hx => ?_); try simp only [Int.toNat_natCast] at hx)
      | refine side_and (side_of (by first | (and_intros <;> first | exact Nat.le_of_ble_eq_true rfl | rfl | omega | (simp only [lensB, lensC, List.length_replicate, midL_len, mkL_length]; omega) | exact bytes_ok (Nat.le_of_ble_eq_true rfl) (by omega) (by simp only [lensB, lensC, List.length_replicate, midL_len, mkL_length]; omega) | exact bytes_okN (Nat.le_of_ble_eq_true rfl) (by simp only [lensB, lensC, List.length_replicate, midL_len, mkL_length]; omega)) | fail)) ?_
      | refine nilB_intro (fun h => ?_) ?_
      | refine side_and (side_of (show Go.Ab.structOk _ _ = true by kernel_rfl)) ?_
      | refine side_and (side_of (map_len (fun _ => rfl))) ?_
      | refine side_and (side_of (map_one (fun _ => rfl) _)) ?_
      | refine side_and ?_ ?_
      | refine LoadK_of rfl rfl ?_
      | refine LoadD_cel rfl rfl rfl rfl ?_
      | refine LoadD_of rfl ?_
      | refine StoreD_of rfl rfl rfl ?_
      | refine AppD_of rfl (by and_intros <;> first | rfl | decide) (by simp only [lensC]; first | (refine ⟨by omega, ?_⟩; refine Nat.le_trans (Nat.mul_le_mul_left _ (show _ ≤ 512 by decide)) ?_; omega) | fail) ?_
      | refine AppN_of rfl rfl (by and_intros <;> rfl) (by simp only [lensC]; first | (refine ⟨by omega, ?_⟩; refine Nat.le_trans (Nat.mul_le_mul_left _ (show _ ≤ 512 by decide)) ?_; omega) | fail) ?_
      | (show False; omega)
    all_goals
      conv => whnf
      exact OutA_nilB 0 1 9 1 4 rfl rfl rfl (by decide) (OutA_nilB 0 2 154 3 5 rfl rfl rfl (by decide) (OutA_ids rfl rfl rfl ⟨⟨_, _, _, rfl, rfl⟩, ⟨_, _, _, rfl, rfl⟩, trivial⟩ rfl (.inr (by intro o ho; simp only [List.mem_cons, List.not_mem_nil, or_false] at ho; rcases ho with rfl | rfl <;> rfl))))
  | true =>
    have hc := c_impl_OpenSeal b hb
    rw [hs2] at hc
    obtain ⟨hsl, hbl⟩ := sealF_len hs2
    have hg := good_same (b := b) (s := (sealF b).1)
    have hsm := recI_small hsl
    have hor : outR b = match goodR b (recI (sealF b).1) with | true => ((recI (sealF b).1).1, true) | false => (zeroR, false) := by
      unfold outR
      rw [hs2, Bool.true_and, hg.1]
      cases hq : goodR b (recS (sealF b).1) with
      | true => simp only; rw [hg.2 hq]
      | false => rfl
    rw [hor]
    generalize (sealF b).1 = s at *
    refine pc_at Tryz.func185 rfl (by kernel_rfl) 77 [.cell 2 47, .tmp 3] rfl rfl ?_
    repeat' (conv => whnf); first
      | (show Go.Ab.drawA _ _ _ _ _; refine draw_exp (.take 0 (.take 2 (.take 4 (.take 7 (.fork 1 (.fork 3 (.fork 5 (.fork 6 (.fork 8 (.fork 9 (.fork 10 (.fork 11 (.take 12 (.fork 13 (.done) (.stop))) (.stop)) (.stop)) (.stop)) (.stop)) (.fork 8 (.fork 6 (.fork 9 (.fork 10 (.fork 11 (.take 12 (.fork 13 (.done) (.stop))) (.stop)) (.stop)) (.stop)) (.stop)) (.stop))) (.stop)) (.stop)) (.fork 3 (.fork 1 (.fork 5 (.fork 6 (.fork 8 (.fork 9 (.fork 10 (.fork 11 (.take 12 (.fork 13 (.done) (.stop))) (.stop)) (.stop)) (.stop)) (.stop)) (.fork 8 (.fork 6 (.fork 9 (.fork 10 (.fork 11 (.take 12 (.fork 13 (.done) (.stop))) (.stop)) (.stop)) (.stop)) (.stop)) (.stop))) (.stop)) (.fork 5 (.fork 1 (.fork 6 (.fork 8 (.fork 9 (.fork 10 (.fork 11 (.take 12 (.fork 13 (.done) (.stop))) (.stop)) (.stop)) (.stop)) (.stop)) (.fork 8 (.fork 6 (.fork 9 (.fork 10 (.fork 11 (.take 12 (.fork 13 (.done) (.stop))) (.stop)) (.stop)) (.stop)) (.stop)) (.stop))) (.fork 6 (.fork 1 (.fork 8 (.fork 9 (.fork 10 (.fork 11 (.take 12 (.fork 13 (.done) (.stop))) (.stop)) (.stop)) (.stop)) (.stop)) (.fork 8 (.fork 1 (.fork 9 (.fork 10 (.fork 11 (.take 12 (.fork 13 (.done) (.stop))) (.stop)) (.stop)) (.stop)) (.fork 9 (.fork 1 (.fork 10 (.fork 11 (.take 12 (.fork 13 (.done) (.stop))) (.stop)) (.stop)) (.fork 10 (.fork 1 (.fork 11 (.take 12 (.fork 13 (.done) (.stop))) (.stop)) (.stop)) (.stop))) (.stop))) (.stop))) (.fork 8 (.fork 1 (.fork 6 (.fork 9 (.fork 10 (.fork 11 (.take 12 (.fork 13 (.done) (.stop))) (.stop)) (.stop)) (.stop)) (.stop)) (.fork 6 (.fork 1 (.fork 9 (.fork 10 (.fork 11 (.take 12 (.fork 13 (.done) (.stop))) (.stop)) (.stop)) (.stop)) (.fork 9 (.fork 1 (.fork 10 (.fork 11 (.take 12 (.fork 13 (.done) (.stop))) (.stop)) (.stop)) (.fork 10 (.fork 1 (.fork 11 (.take 12 (.fork 13 (.done) (.stop))) (.stop)) (.stop)) (.stop))) (.stop))) (.stop))) (.stop)))) (.stop))) (.stop))))))) (by kernel_rfl) (by kernel_rfl) (by kernel_rfl) ?_)
      | refine nameB_self (b := (rA5 s).1 == [1]) ?_
      | refine nameB_self (b := (takeF s (textFI s c g).2.1 (textFI s c g).2.2 1).1 == [1]) ?_
      | refine side_and (side_of (one_lenC rfl rfl)) ?_
      | refine side_and (side_of (by first | (and_intros <;> first | exact Nat.le_of_ble_eq_true rfl | rfl | (intro e; exact absurd (AV.own.inj e) (by decide)) | (intro e; exact AV.noConfusion e)) | fail)) ?_
      | refine side_and (side_of (app_boundC (L := out.map WriteT.cells) rfl (by (try simp only [List.length_map, List.length_append, List.length_take, List.length_set, List.length_drop]); omega) (Nat.le_of_ble_eq_true rfl))) ?_
      | refine nameB_true ?_
      | refine nameB_false ?_
      | refine nameB_yes (by assumption) ?_
      | refine nameB_no (by assumption) ?_
      | refine nameB_dyes (by assumption) ?_
      | refine nameB_dno (by assumption) ?_
      | (refine nameB_dec (fun h => ?_) (fun h => ?_) <;> try simp only [lensB, midL_len, mkL_length, Int.toNat_natCast, fact_byte] at h)
      | (refine nameB_cases (fun h => ?_) (fun h => ?_) <;> try simp only [bne_iff_ne, ne_eq, bne_eq_false_iff_eq, beq_iff_eq, beq_eq_false_iff_ne, Bool.not_eq_true', Bool.not_eq_false', Bool.or_eq_true, Bool.or_eq_false_iff, lensB, midL_len, mkL_length, Int.toNat_natCast, fact_byte] at h)
      | refine splitB_true ?_
      | refine splitB_false ?_
      | (refine splitB_intro (fun h => ?_) (fun h => ?_) <;> subst h)
      | refine draw_text (by kernel_rfl) (by kernel_rfl) (by kernel_rfl) ?_
      | refine both_intro ?_ ?_
      | refine eitherB_l ?_
      | exact True.intro
      | (show Go.Ab.Loop _ _ _; (refine Loop_nilB 20704 1 154 3 5 rfl rfl rfl (by decide) ?_; refine Loop_at [0, 2, 6, 7] [0, 20672] (Nat × List WriteT × Nat × Bool) (fun j => match j with | (k, out, c, g) => manyG (fun a => rdWI s a false) k out c g = rA8 s ∧ k ≤ 1000000000 ∧ c ≤ s.length ∧ out.length ≤ c + 1 ∧ (g = false → out.length ≤ c)) (fun j => match j with | (k, out, c, g) => [(8, .int .i64 (k))]) (fun j => match j with | (k, out, c, g) => [(16416, ⟨true, 209, 3, [[.str s, .int .i64 (c : Int), .bool g]]⟩), (20704, ⟨true, 47, 7, [[.int .i64 (rA1 s).1, .int .i64 (rA2 s).1, .int .i64 (rA3 s).1, .int .i64 (rA4 s).1, .own 20672, .own 1, .bool ((rA5 s).1 == [1])]]⟩), (1, ⟨false, 154, 3, out.map WriteT.cells⟩)]) (fun j => match j with | (k, out, c, g) => k) ((rA7 s).1.toNat, [], (rA7 s).2.1, (rA7 s).2.2) ⟨by first | first | rfl | exact congrArg (AV.int .i64) rA7_nat | exact congrArg (AV.int .i64) ((i64_wrap (by omega) (by omega)).trans (by omega)) | rfl | fail, trivial⟩ ⟨by first | rfl | first | rfl | exact congrArg (fun e => some (AObj.mk _ _ _ e)) (app_w rfl) | fail | fail, by first | rfl | first | rfl | exact congrArg (fun e => some (AObj.mk _ _ _ e)) (app_w rfl) | fail | fail, by first | rfl | first | rfl | exact congrArg (fun e => some (AObj.mk _ _ _ e)) (app_w rfl) | fail | fail, trivial⟩ (by (try dsimp only); first | (exact ⟨rfl, by have := (numFI_ok (b := s) (f := (rA6 s).2.2) a6).le; show (numFI _ _ _).1.toNat ≤ _; omega, a7, Nat.zero_le _, fun _ => Nat.zero_le _⟩) | fail) ?_; (conv => whnf); refine side_and (side_of (by first | exact fun ⟨k, out, c, g⟩ => rfl | exact fun ⟨k, out, c, g⟩ => by simp [headOk, closedE, closedO, closedL, AV.closed, hcap.closed, hasId, AObj.box, BK.ofB])) ?_; rintro ⟨k, out, c, g⟩ hT; try dsimp only at hT))
      | (show Go.Ab.Again _ _ _ _ _ _ _ _ _ _ _; refine Again_of (k - 1, out ++ [(rdWI s c g).1], (rdWI s c g).2.1, (rdWI s c g).2.2) ⟨by first | first | rfl | exact congrArg (AV.int .i64) rA7_nat | exact congrArg (AV.int .i64) ((i64_wrap (by omega) (by omega)).trans (by omega)) | rfl | fail, trivial⟩ ⟨by first | rfl | first | rfl | exact congrArg (fun e => some (AObj.mk _ _ _ e)) (app_w rfl) | fail | fail, by first | rfl | first | rfl | exact congrArg (fun e => some (AObj.mk _ _ _ e)) (app_w rfl) | fail | fail, by first | rfl | first | rfl | exact congrArg (fun e => some (AObj.mk _ _ _ e)) (app_w rfl) | fail | fail, trivial⟩ (by first | (and_intros <;> first | rfl | trivial) | fail) (by first | (and_intros <;> first | rfl | trivial) | fail) rfl rfl rfl (by (try dsimp only); first | ((have hg' : g = false := (by assumption); subst hg'; have ho := rdW_ok (b := s) (f := false) hT.2.2.1; have hl := hT.2.2.2.2 rfl; have lo := ho.lo; exact ⟨manyG_go hT.1 (by omega), by omega, ho.hi, by rw [List.length_append]; show out.length + 1 ≤ _; omega, fun e => by have := rdW_go hT.2.2.1 e; rw [List.length_append]; show out.length + 1 ≤ _; omega⟩)) | fail) (show _ < _ by (try dsimp only); omega))
      | (show Go.Ab.CallA _ _ _ _ _ _ _; first
          | refine Call0 (hc) rfl rfl ?_
          | refine CallB (c_impl_num s 0 false (Nat.zero_le _) (by omega)) rfl rfl rfl rfl rfl rfl ?_
          | refine CallB (c_impl_num s (rA1 s).2.1 (rA1 s).2.2 a1 (by omega)) rfl rfl rfl rfl rfl rfl ?_
          | refine CallB (c_impl_num s (rA2 s).2.1 (rA2 s).2.2 a2 (by omega)) rfl rfl rfl rfl rfl rfl ?_
          | refine CallB (c_impl_num s (rA3 s).2.1 (rA3 s).2.2 a3 (by omega)) rfl rfl rfl rfl rfl rfl ?_
          | refine CallB (c_impl_take s (rA4 s).2.1 (rA4 s).2.2 1 a4 (by omega) (by omega) (by omega)) rfl rfl rfl rfl rfl rfl ?_
          | refine CallB (c_impl_texts s (rA5 s).2.1 (rA5 s).2.2 a5 (by omega)) rfl rfl rfl rfl rfl rfl ?_
          | refine CallB (c_impl_num s (rA6 s).2.1 (rA6 s).2.2 a6 (by omega)) rfl rfl rfl rfl rfl rfl ?_
          | refine CallB (c_impl_text s c g hT.2.2.1 (by omega)) rfl rfl rfl rfl rfl rfl ?_
          | refine CallB (c_impl_take s (textFI s c g).2.1 (textFI s c g).2.2 1 (textFI_ok hT.2.2.1).hi (by omega) (by omega) (by omega)) rfl rfl rfl rfl rfl rfl ?_
          | refine CallB (c_impl_text s (takeF s (textFI s c g).2.1 (textFI s c g).2.2 1).2.1 (takeF s (textFI s c g).2.1 (textFI s c g).2.2 1).2.2 (takeF_ok (textFI_ok hT.2.2.1).hi (by omega)).hi (by omega)) rfl rfl rfl rfl rfl rfl ?_
          | (have e8 := manyG_end hT.1 (by first | (left; omega) | (right; assumption)); have eR : recI s = ((⟨(rA1 s).1, (rA2 s).1, (rA3 s).1, (rA4 s).1, (rA6 s).1, out, (rA5 s).1 == [1]⟩ : RecT), g) := (by unfold recI; rw [← e8]); have hsm2 : SmallR (⟨(rA1 s).1, (rA2 s).1, (rA3 s).1, (rA4 s).1, (rA6 s).1, out, (rA5 s).1 == [1]⟩ : RecT) := (by have h9 := hsm; rw [eR] at h9; exact h9); refine Call0 (c_impl_GoodRec (⟨(rA1 s).1, (rA2 s).1, (rA3 s).1, (rA4 s).1, (rA6 s).1, out, (rA5 s).1 == [1]⟩ : RecT) hsm2.ok (rec_take hsm2).1 (rec_take hsm2).2) rfl rfl ?_)
          | (have e8 := manyG_end hT.1 (by first | (left; omega) | (right; assumption)); have eR : recI s = ((⟨(rA1 s).1, (rA2 s).1, (rA3 s).1, (rA4 s).1, (rA6 s).1, out, (rA5 s).1 == [1]⟩ : RecT), g) := (by unfold recI; rw [← e8]); have hsm2 : SmallR (⟨(rA1 s).1, (rA2 s).1, (rA3 s).1, (rA4 s).1, (rA6 s).1, out, (rA5 s).1 == [1]⟩ : RecT) := (by have h9 := hsm; rw [eR] at h9; exact h9); refine Call0 (c_impl_recBytes (⟨(rA1 s).1, (rA2 s).1, (rA3 s).1, (rA4 s).1, (rA6 s).1, out, (rA5 s).1 == [1]⟩ : RecT) (by assumption) hsm2.w) rfl rfl ?_))
      | (show Go.Ab.CallD _ _ _ _ _ _ _; first
          | refine CallD0 (hc) rfl rfl rfl ?_
          | (have e8 := manyG_end hT.1 (by first | (left; omega) | (right; assumption)); have eR : recI s = ((⟨(rA1 s).1, (rA2 s).1, (rA3 s).1, (rA4 s).1, (rA6 s).1, out, (rA5 s).1 == [1]⟩ : RecT), g) := (by unfold recI; rw [← e8]); have hsm2 : SmallR (⟨(rA1 s).1, (rA2 s).1, (rA3 s).1, (rA4 s).1, (rA6 s).1, out, (rA5 s).1 == [1]⟩ : RecT) := (by have h9 := hsm; rw [eR] at h9; exact h9); refine CallD0 (c_impl_GoodRec (⟨(rA1 s).1, (rA2 s).1, (rA3 s).1, (rA4 s).1, (rA6 s).1, out, (rA5 s).1 == [1]⟩ : RecT) hsm2.ok (rec_take hsm2).1 (rec_take hsm2).2) rfl rfl rfl ?_)
          | (have e8 := manyG_end hT.1 (by first | (left; omega) | (right; assumption)); have eR : recI s = ((⟨(rA1 s).1, (rA2 s).1, (rA3 s).1, (rA4 s).1, (rA6 s).1, out, (rA5 s).1 == [1]⟩ : RecT), g) := (by unfold recI; rw [← e8]); have hsm2 : SmallR (⟨(rA1 s).1, (rA2 s).1, (rA3 s).1, (rA4 s).1, (rA6 s).1, out, (rA5 s).1 == [1]⟩ : RecT) := (by have h9 := hsm; rw [eR] at h9; exact h9); refine CallD0 (c_impl_recBytes (⟨(rA1 s).1, (rA2 s).1, (rA3 s).1, (rA4 s).1, (rA6 s).1, out, (rA5 s).1 == [1]⟩ : RecT) (by assumption) hsm2.w) rfl rfl rfl ?_))
      | refine ix_map_at hx ?_
      | refine ix_map_at hy ?_
      | refine sl_pre (by omega) (fun _ => rfl) ?_
      | refine sl_suf (by omega) (fun _ => rfl) ?_
      | (refine ix_map2 hx (by omega) (by (try simp only [List.length_take]); omega) (fun y hy => ?_); try simp only [Int.toNat_natCast] at hy)
      | (refine ix_map (by omega) (by (try simp only [List.length_take]); omega) (fun x hx => ?_); try simp only [Int.toNat_natCast] at hx)
      | refine side_and (side_of (by first | (and_intros <;> first | exact Nat.le_of_ble_eq_true rfl | rfl | omega | (simp only [lensB, lensC, List.length_replicate, midL_len, mkL_length]; omega) | exact bytes_ok (Nat.le_of_ble_eq_true rfl) (by omega) (by simp only [lensB, lensC, List.length_replicate, midL_len, mkL_length]; omega) | exact bytes_okN (Nat.le_of_ble_eq_true rfl) (by simp only [lensB, lensC, List.length_replicate, midL_len, mkL_length]; omega)) | fail)) ?_
      | refine nilB_intro (fun h => ?_) ?_
      | refine side_and (side_of (show Go.Ab.structOk _ _ = true by kernel_rfl)) ?_
      | refine side_and (side_of (map_len (fun _ => rfl))) ?_
      | refine side_and (side_of (map_one (fun _ => rfl) _)) ?_
      | refine side_and ?_ ?_
      | refine LoadK_of rfl rfl ?_
      | refine LoadD_cel rfl rfl rfl rfl ?_
      | refine LoadD_of rfl ?_
      | refine StoreD_of rfl rfl rfl ?_
      | refine AppD_of rfl (by and_intros <;> first | rfl | decide) (by simp only [lensC]; first | (refine ⟨by omega, ?_⟩; refine Nat.le_trans (Nat.mul_le_mul_left _ (show _ ≤ 512 by decide)) ?_; omega) | fail) ?_
      | refine AppN_of rfl rfl (by and_intros <;> rfl) (by simp only [lensC]; first | (refine ⟨by omega, ?_⟩; refine Nat.le_trans (Nat.mul_le_mul_left _ (show _ ≤ 512 by decide)) ?_; omega) | fail) ?_
      | (show False; omega)
    all_goals
      conv => whnf
      have e8 := manyG_end hT.1 (by first | (left; omega) | (right; assumption)); have eR : recI s = ((⟨(rA1 s).1, (rA2 s).1, (rA3 s).1, (rA4 s).1, (rA6 s).1, out, (rA5 s).1 == [1]⟩ : RecT), g) := (by unfold recI; rw [← e8])
      first
      | (have eG : goodR b (recI s) = false := (by rw [eR]; unfold goodR; first | (simp [*]; done) | (simp_all; done))
         rw [eG]
         exact OutA_nilB 0 2 9 1 4 rfl rfl rfl (by decide) (OutA_nilB 0 3 154 3 5 rfl rfl rfl (by decide) (OutA_ids rfl rfl rfl ⟨⟨_, _, _, rfl, rfl⟩, ⟨_, _, _, rfl, rfl⟩, trivial⟩ rfl (.inr (by intro o ho; simp only [List.mem_cons, List.not_mem_nil, or_false] at ho; rcases ho with rfl | rfl <;> rfl)))))
      | (have eG : goodR b (recI s) = true := (by rw [eR]; unfold goodR; first | (simp [*]; done) | (simp_all; done))
         rw [eG, eR]
         exact OutA_ids rfl rfl rfl ⟨⟨_, _, _, rfl, rfl⟩, ⟨_, _, _, rfl, rfl⟩, trivial⟩ rfl (.inr (by intro o ho; simp only [List.mem_cons, List.not_mem_nil, or_false] at ho; rcases ho with rfl | rfl <;> exact flat_map (fun _ => rfl) _)))
end Go.Proofs.YtfpkfnfgloonhaaGreat
