/-
  A program run against rows: a plain law, and what the program's functions give.
  No condition.
-/
import Derived.Test.YthbheejeloomjaaGreatDoorRun1
namespace Go.Proofs.YthbheejeloomjaaGreatDoor
open Go.Ab
set_option linter.unusedSimpArgs false
set_option maxRecDepth 20000
set_option maxHeartbeats 4000000
set_option linter.unusedVariables false

theorem nodup_len {α : Type} [BEq α] [LawfulBEq α] : ∀ (xs ys : List α), xs.Nodup → (∀ x ∈ xs, x ∈ ys) → xs.length ≤ ys.length
  | [], _, _, _ => Nat.zero_le _
  | x :: xs, ys, h, hs => by
    have h1 := List.nodup_cons.1 h
    have h2 := nodup_len xs (ys.erase x) h1.2 (fun y hy => (List.mem_erase_of_ne (fun e => h1.1 (by rw [← e]; exact hy))).2 (hs y (by simp [hy])))
    have h3 := List.length_erase_of_mem (hs x (by simp))
    have h4 := List.length_pos_of_mem (hs x (by simp))
    simp only [List.length_cons]
    omega
theorem step1_key {got : List GotT} {ws : List WriteT} {o : OpT} (h : (step1 got ws o).1 = 1) : (step1 got ws o).2.1 = o.Key ∧ got.find? (gEq o.Key) = none := by
  by_cases h2 : o.Kind = 2
  · rw [step1_put h2] at h; cases h
  by_cases h3 : o.Kind = 3
  · rw [step1_drop h2 h3] at h; cases h
  cases hs : (stands ws got o.Key).2.2 with
  | false =>
    rw [step1_ask h2 h3 hs]
    refine ⟨rfl, ?_⟩
    cases hf : ws.find? (wEq o.Key) with
    | some w => rw [stands_some hf] at hs; cases hs
    | none =>
      rw [stands_none hf] at hs
      cases hg : got.find? (gEq o.Key) with
      | none => rfl
      | some g => rw [readG_some hg] at hs; cases hs
  | true =>
    exfalso
    cases hh : holdsB o (stands ws got o.Key).1 (stands ws got o.Key).2.1 with
    | false => rw [step1_give h2 h3 hs hh] at h; cases h
    | true =>
      by_cases h4 : o.Kind = 4
      · rw [step1_add h4 hs hh] at h; cases h
      · rw [step1_on h2 h3 h4 hs hh] at h; cases h
theorem stepG_key {got : List GotT} : ∀ (l : List OpT) (ws : List WriteT), (stepG got l ws).1 = 1 → (stepG got l ws).2.1 ∈ l.map OpT.Key ∧ got.find? (gEq (stepG got l ws).2.1) = none
  | [], ws, h => by unfold stepG at h; cases h
  | o :: os, ws, h => by
    unfold stepG at h ⊢
    split at h
    · rename_i h0
      rw [if_pos h0]
      have := stepG_key os _ h
      exact ⟨by simp [this.1], this.2⟩
    · rename_i h0
      rw [if_neg h0]
      have := step1_key h
      rw [this.1]
      exact ⟨by simp, this.2⟩
theorem tell_ok {rows : List WriteT} (h : ∀ w ∈ rows, StOk w) {key : List UInt8} (hk : okKey key = true) : (tellG rows key).Key = key ∧ okStored (tellG rows key).Val (!(tellG rows key).There) = true := by
  cases hf : rows.find? (wEq key) with
  | some w =>
    rw [tellG_some hf]
    have := h w (List.mem_of_find?_eq_some hf)
    exact ⟨rfl, okStored_of this.2.1 (.inl rfl)⟩
  | none => rw [tellG_none hf]; exact ⟨rfl, rfl⟩
theorem allPre_snoc {α : Type} {q : List α → α → Bool} : ∀ (xs pre : List α) (x : α), allPre q pre (xs ++ [x]) = (allPre q pre xs && q (pre ++ xs) x)
  | [], pre, x => by simp [allPre]
  | y :: ys, pre, x => by
    show (q pre y && allPre q (pre ++ [y]) (ys ++ [x])) = ((q pre y && allPre q (pre ++ [y]) ys) && q (pre ++ y :: ys) x)
    rw [allPre_snoc ys (pre ++ [y]) x, Bool.and_assoc]
    simp
structure GotW (l : List OpT) (got : List GotT) : Prop where
  at_ : allPre gotAt [] got = true
  keys : ∀ g ∈ got, g.Key ∈ l.map OpT.Key
theorem gotAt_nodup : ∀ (gs pre : List GotT), allPre gotAt pre gs = true → (gs.map GotT.Key).Nodup ∧ ∀ g ∈ gs, ∀ p ∈ pre, p.Key ≠ g.Key
  | [], pre, _ => ⟨List.nodup_nil, fun _ h => by cases h⟩
  | g :: gs, pre, h => by
    unfold allPre at h
    rw [Bool.and_eq_true] at h
    obtain ⟨h1, h2⟩ := gotAt_nodup gs (pre ++ [g]) h.2
    have h0 : ∀ p ∈ pre, p.Key ≠ g.Key := by
      have := h.1
      unfold gotAt at this
      simp only [Bool.and_eq_true, Bool.not_eq_true', List.any_eq_false, beq_iff_eq] at this
      exact this.2
    refine ⟨?_, fun x hx p hp => ?_⟩
    · rw [List.map_cons, List.nodup_cons]
      refine ⟨fun hm => ?_, h1⟩
      obtain ⟨x, hx, he⟩ := List.mem_map.1 hm
      exact h2 x hx g (by simp) he.symm
    · rcases List.mem_cons.1 hx with rfl | hx
      · exact h0 p hp
      · exact h2 x hx p (by simp [hp])
theorem GotW.len {l : List OpT} {got : List GotT} (h : GotW l got) : got.length ≤ l.length := by
  have := nodup_len (got.map GotT.Key) (l.map OpT.Key) (gotAt_nodup got [] h.at_).1 (fun k hk => by
    obtain ⟨g, hg, rfl⟩ := List.mem_map.1 hk
    exact h.keys g hg)
  rwa [List.length_map, List.length_map] at this
theorem GotW.okGots {l : List OpT} {got : List GotT} (h : GotW l got) (ho : okOps l = true) : okGots got = true := by
  have h1 := h.len
  have h2 := okOps_len ho
  unfold Proofs.YthbheejeloomjaaGreatDoor.okGots
  rw [h.at_, decide_eq_true (show (got.length : Int) ≤ 8 by omega)]; rfl
theorem GotW.nil {l : List OpT} : GotW l [] := ⟨rfl, fun _ h => by cases h⟩
theorem key_ok {l : List OpT} (ho : okOps l = true) {k : List UInt8} (h : k ∈ l.map OpT.Key) : okKey k = true := by
  obtain ⟨o, hm, rfl⟩ := List.mem_map.1 h
  exact (okOp_parts (okOps_all ho o hm)).1
theorem GotW.next {rows : List WriteT} {l : List OpT} {got : List GotT} (h : GotW l got) (hr : ∀ w ∈ rows, StOk w) (ho : okOps l = true) (h1 : (stepG got l []).1 = 1) : GotW l (got ++ [tellG rows (stepG got l []).2.1]) := by
  obtain ⟨k1, k2⟩ := stepG_key l [] h1
  obtain ⟨t1, t2⟩ := tell_ok hr (key_ok ho k1)
  refine ⟨?_, fun g hg => ?_⟩
  · rw [allPre_snoc, h.at_, Bool.true_and, List.nil_append]
    refine gotAt_yes (by rw [t1]; exact key_ok ho k1) t2 ?_
    rw [t1, List.any_eq_false]
    intro p hp
    have := List.find?_eq_none.1 k2 p hp
    exact this
  · rcases List.mem_append.1 hg with hg | hg
    · exact h.keys g hg
    · rw [List.mem_singleton.1 hg, t1]; exact k1
def runF (rows : List WriteT) (l : List OpT) : Nat → List GotT → List GotT × Int × List WriteT
  | 0, got => (got, 2, [])
  | f + 1, got => if (stepG got l []).1 = 1 then runF rows l f (got ++ [tellG rows (stepG got l []).2.1]) else (got, (stepG got l []).1, (stepG got l []).2.2)
def runA (rows : List WriteT) (l : List OpT) : List GotT × Int × List WriteT := runF rows l 9 []
structure OnRun (rows : List WriteT) (l : List OpT) (got : List GotT) : Prop where
  run : runF rows l (9 - got.length) got = runA rows l
  ok : GotW l got
section
variable {rows : List WriteT} {l : List OpT} {got : List GotT}
theorem OnRun.start : OnRun rows l [] := ⟨rfl, GotW.nil⟩
theorem OnRun.le (h : OnRun rows l got) (ho : okOps l = true) : got.length ≤ 8 := Nat.le_trans h.ok.len (okOps_len ho)
theorem OnRun.next (h : OnRun rows l got) (hr : ∀ w ∈ rows, StOk w) (ho : okOps l = true) (h1 : (stepG got l []).1 = 1) : OnRun rows l (got ++ [tellG rows (stepG got l []).2.1]) := by
  have hw := h.ok.next hr ho h1
  have hl := Nat.le_trans hw.len (okOps_len ho)
  refine ⟨?_, hw⟩
  rw [← h.run]
  rw [List.length_append, List.length_singleton] at hl ⊢
  obtain ⟨f, hf⟩ : ∃ f, 9 - got.length = f + 1 := ⟨8 - got.length, by omega⟩
  rw [hf, show 9 - (got.length + 1) = f by omega]
  conv => rhs; unfold runF
  rw [if_pos h1]
theorem OnRun.done (h : OnRun rows l got) (ho : okOps l = true) (h1 : ¬ (stepG got l []).1 = 1) : runA rows l = (got, (stepG got l []).1, (stepG got l []).2.2) := by
  have hl := h.le ho
  rw [← h.run]
  obtain ⟨f, hf⟩ : ∃ f, 9 - got.length = f + 1 := ⟨8 - got.length, by omega⟩
  rw [hf]
  unfold runF
  rw [if_neg h1]
end
theorem got_okL {l : List OpT} {got : List GotT} (h : okGots got = true) : okL GotT.ok got := by
  have hl : got.length ≤ 8 := by
    unfold okGots at h
    rw [Bool.and_eq_true, decide_eq_true_eq] at h
    omega
  refine ⟨by omega, fun g hg => ?_⟩
  have h1 := got_ok h hg
  have h2 := okVal_len h1.2.1
  have h3 := h1.1
  unfold okKey at h3
  rw [Bool.and_eq_true] at h3
  have h4 := inB_le' h3.1
  exact ⟨by show g.Key.length ≤ _; omega, by show g.Val.length ≤ _; omega, trivial⟩
theorem got_snoc {got : List GotT} {g : GotT} {L : List (List AV)} (hL : L = [g.cells]) : got.map GotT.cells ++ L = (got ++ [g]).map GotT.cells := by rw [hL, List.map_append]; rfl
theorem flat_two {a b c d : Nat} {es fs : List (List AV)} (h1 : es.flatten.all AV.flat = true) (h2 : fs.flatten.all AV.flat = true) : ∀ o ∈ [AObj.mk .slc a b es, AObj.mk .slc c d fs], o.elems.flatten.all AV.flat = true := by
  intro o ho
  rcases List.mem_cons.1 ho with rfl | ho
  · exact h1
  · rw [List.mem_singleton.1 ho]; exact h2
theorem c_impl_runAlone (rows : List WriteT) (l : List OpT) (hup : upW rows) (hr : ∀ w ∈ rows, StOk w) (hl : rows.length ≤ 1048576) (ho : okOps l = true) : PC Tryz.prog false 52 [.sl (rows.map WriteT.cells), .sl (l.map OpT.cells)] (.tup [.own 0, .own 1, .bool (decide ((runA rows l).2.1 = 3))]) [⟨false, 70, 3, (runA rows l).1.map GotT.cells⟩, ⟨false, 74, 3, (runA rows l).2.2.map WriteT.cells⟩] := by
  refine pc_at Tryz.func52 rfl (by kernel_rfl) 31 [.tmp 4, .tmp 5, .tmp 6] rfl rfl ?_
  repeat' (conv => whnf); first
 | refine side_and (side_of (one_lenC rfl rfl)) ?_
 | refine side_and (side_of (by first | (and_intros <;> first | exact Nat.le_of_ble_eq_true rfl | rfl | (intro e; exact absurd (AV.own.inj e) (by decide)) | (intro e; exact AV.noConfusion e)) | fail)) ?_
 | refine side_and (side_of (app_boundC (L := got.map GotT.cells) rfl (by (have hq := hT.le ho; simp only [List.length_map]; omega)) (Nat.le_of_ble_eq_true rfl))) ?_
 | (refine nameB_dec (fun h => ?_) (fun h => ?_) <;> try simp only [lensB] at h)
 | (refine nameB_cases (fun h => ?_) (fun h => ?_) <;> try simp only [nmL, lensB] at h)
 | refine splitB_true ?_
 | refine splitB_false ?_
 | ((refine Loop_nil 7 4096 70 3 rfl rfl (by decide) ?_; refine Loop_at [0, 1] [] (List GotT) (fun got => OnRun rows l got) (fun got => [(7, .own 4096)]) (fun got => [(4096, ⟨false, 70, 3, got.map GotT.cells⟩)]) (fun got => 9 - got.length) [] ⟨by first | rfl | (simp_all <;> fail) | fail, trivial⟩ ⟨by first | rfl | first | rfl | exact congrArg (fun e => some (AObj.mk _ _ _ e)) (got_snoc rfl) | fail | fail, trivial⟩ (by (try dsimp only); first | (exact OnRun.start) | fail) ?_; (conv => whnf); refine side_and (side_of (by first | exact fun got => rfl | exact fun got => by simp [headOk, closedE, closedO, closedL, AV.closed, hcap.closed, hasId, AObj.box, BK.ofB])) ?_; rintro got hT; try dsimp only at hT))
 | (refine Again_of (got ++ [tellG rows (stepG got l []).2.1]) ⟨by first | rfl | (simp_all <;> fail) | fail, trivial⟩ ⟨by first | rfl | first | rfl | exact congrArg (fun e => some (AObj.mk _ _ _ e)) (got_snoc rfl) | fail | fail, trivial⟩ (by first | (and_intros <;> first | rfl | trivial) | fail) (by first | (and_intros <;> first | rfl | trivial) | fail) rfl rfl rfl (by (try dsimp only); first | (exact hT.next hr ho (by assumption)) | fail) (show _ < _ by (try dsimp only); (have hq := hT.le ho; rw [List.length_append, List.length_singleton]; omega)))
 | refine CallF (c_impl_stepOps l got ho (hT.ok.okGots ho) (by have hq := hT.le ho; omega)) rfl rfl rfl (Nat.le_of_ble_eq_true rfl) ?_
 | refine Call0 (c_impl_gotOf rows (stepG got l []).2.1 hup hl) rfl rfl ?_
 | fail
  all_goals
    conv => whnf
    first
    | (rw [hT.done ho (by assumption), show decide (((got, (stepG got l []).1, (stepG got l []).2.2) : List GotT × Int × List WriteT).2.1 = 3) = true from decide_eq_true (by assumption)]; exact OutA_ids rfl rfl rfl ⟨⟨_, _, _, rfl, rfl⟩, ⟨_, _, _, rfl, rfl⟩, trivial⟩ rfl (.inr (flat_two (flat_map (fun _ => rfl) _) (flat_map (fun _ => rfl) _))))
    | (rw [hT.done ho (by assumption), show decide (((got, (stepG got l []).1, (stepG got l []).2.2) : List GotT × Int × List WriteT).2.1 = 3) = false from decide_eq_false (by assumption)]; exact OutA_ids rfl rfl rfl ⟨⟨_, _, _, rfl, rfl⟩, ⟨_, _, _, rfl, rfl⟩, trivial⟩ rfl (.inr (flat_two (flat_map (fun _ => rfl) _) (flat_map (fun _ => rfl) _))))
    | fail
theorem wrAt_ok {pre : List WriteT} {w : WriteT} (h : wrAt pre w = true) : StOk w := by
  unfold wrAt okStored at h
  simp only [Bool.and_eq_true] at h
  refine ⟨h.1.2, h.1.1.1, fun hg => ?_⟩
  have := h.1.1.2
  rw [hg] at this
  simpa using this
theorem writes_ok {ws : List WriteT} (h : okWrites ws = true) : WOk ws ∧ ws.length ≤ 24 := by
  refine ⟨⟨okWrites_pair h, fun w hw => ?_⟩, ?_⟩
  · unfold okWrites at h
    rw [Bool.and_eq_true] at h
    obtain ⟨p, hp⟩ := allPre_mem ws [] h.1 w hw
    exact wrAt_ok hp
  · unfold okWrites at h
    rw [Bool.and_eq_true, decide_eq_true_eq] at h
    omega
theorem rw_ok {rows : List WriteT} (h : okRw rows = true) : WOk rows ∧ rows.length ≤ 24 := by
  unfold okRw at h
  rw [Bool.and_eq_true] at h
  exact writes_ok h.1
def runB (rows : List WriteT) (l : List OpT) : Bool := okRw rows && okOps l
def runR (rows : List WriteT) (l : List OpT) : List GotT × Int × List WriteT := match runB rows l with
  | true => runA rows l
  | false => ([], 0, [])
theorem runR_yes {rows : List WriteT} {l : List OpT} (h1 : okRw rows = true) (h2 : okOps l = true) : runB rows l = true ∧ runR rows l = runA rows l := by
  have : runB rows l = true := by unfold runB; rw [h1, h2]; rfl
  exact ⟨this, by unfold runR; rw [this]⟩
theorem runR_no {rows : List WriteT} {l : List OpT} (h : okRw rows = false ∨ okOps l = false) : runB rows l = false ∧ runR rows l = ([], 0, []) := by
  have : runB rows l = false := by unfold runB; rcases h with h | h <;> rw [h] <;> simp
  exact ⟨this, by unfold runR; rw [this]⟩
theorem c_impl_RunAlone (rows : List WriteT) (l : List OpT) (hr : okL WriteT.ok rows) (hrl : rows.length ≤ 1048576) (hok : okL OpT.ok l) : PC Tryz.prog false 22 [.sl (rows.map WriteT.cells), .sl (l.map OpT.cells)] (.tup [.own 0, .own 1, .bool (decide ((runR rows l).2.1 = 3)), .bool (runB rows l)]) [⟨false, 70, 3, (runR rows l).1.map GotT.cells⟩, ⟨false, 74, 3, (runR rows l).2.2.map WriteT.cells⟩] := by
  refine pc_at Tryz.func22 rfl (by kernel_rfl) 29 [.tmp 4, .tmp 5, .tmp 6, .tmp 7] rfl rfl ?_
  repeat' (conv => whnf); first
 | (refine nameB_cases (b := okRw rows) (fun h => ?_) (fun h => ?_))
 | (refine nameB_cases (b := okOps l) (fun h => ?_) (fun h => ?_))
 | refine nameB_true ?_
 | refine nameB_false ?_
 | refine splitB_true ?_
 | refine splitB_false ?_
 | refine Call0 (c_impl_isRows rows hr hrl) rfl rfl ?_
 | refine Call0 (c_impl_GoodOps l hok) rfl rfl ?_
 | refine CallF (c_impl_runAlone rows l (rw_ok (by assumption)).1.1 (rw_ok (by assumption)).1.2 hrl (by assumption)) rfl rfl rfl (Nat.le_of_ble_eq_true rfl) ?_
 | fail
  all_goals
    conv => whnf
    first
    | (obtain ⟨e1, e2⟩ := runR_yes (rows := rows) (l := l) (by assumption) (by assumption); rw [e1, e2]; exact OutA_ids rfl rfl rfl ⟨⟨_, _, _, rfl, rfl⟩, ⟨_, _, _, rfl, rfl⟩, trivial⟩ rfl (.inr (flat_two (flat_map (fun _ => rfl) _) (flat_map (fun _ => rfl) _))))
    | (obtain ⟨e1, e2⟩ := runR_no (rows := rows) (l := l) (by first | exact .inl (by assumption) | exact .inr (by assumption)); rw [e1, e2]; exact OutA_nil 4 1 70 3 rfl rfl (by decide) (OutA_nil 5 2 74 3 rfl rfl (by decide) (OutA_ids rfl rfl rfl ⟨⟨_, _, _, rfl, rfl⟩, ⟨_, _, _, rfl, rfl⟩, trivial⟩ rfl (.inr (flat_two (flat_map (fun _ => rfl) _) (flat_map (fun _ => rfl) _))))))
    | trace_state
end Go.Proofs.YthbheejeloomjaaGreatDoor
