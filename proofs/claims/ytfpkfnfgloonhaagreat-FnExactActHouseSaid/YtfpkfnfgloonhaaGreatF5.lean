/- Part 5 of one proof: lemmas and contracts, laid one behind the other. No condition. -/
import Derived.Test.YtfpkfnfgloonhaaGreatF2
import Derived.Test.YtfpkfnfgloonhaaGreatF3
import Derived.Test.YtfpkfnfgloonhaaGreatF4
import Derived.Test.YtfpkfnfgloonhaaGreatM5
import Derived.Test.YtfpkfnfgloonhaaGreatF1
import Derived.Test.YtfpkfnfgloonhaaGreatProg
import Derived.KernelRfl
namespace Go.Proofs.YtfpkfnfgloonhaaGreat
open Go.Ab
set_option linter.unusedSimpArgs false
set_option maxRecDepth 20000
set_option maxHeartbeats 4000000
set_option linter.unusedVariables false

def fitsL (term : Int) (r : ReplicaT) (L : List EntryT) (n k : Nat) : Bool :=
  match r.Up with
  | true => decide (L = r.Log) && decide ((n : Int) = (k : Int))
  | false => preE L r.Log && (decide ((L.length : Int) = (r.Log.length : Int)) || (decide ((L.length : Int) = (r.Log.length : Int) + 1) && inB (lastE r.Log) (lastE L) term))
def mendB (d : DiskT) : Bool := okDsk d && decide (d.Loose = [])
def fitsD (term : Int) (r : ReplicaT) (d : DiskT) : Bool := (mendB d && (frames d.Kept 0).1.all okE) && fitsL term r ((frames d.Kept 0).1.map outE) (frames d.Kept 0).2 d.Kept.length
theorem mendB_of {d : DiskT} (h : mendB d = true) : okDsk d = true ∧ d.Loose = [] ∧ dskB d = d.Kept := by
  unfold mendB at h
  rw [Bool.and_eq_true, decide_eq_true_eq] at h
  exact ⟨h.1, h.2, by unfold dskB; rw [h.2, List.append_nil]⟩
theorem c_impl_isMendable (d : DiskT) (hw : d.w ≤ 1048576) : PC Tryz.prog false 115 [.agg d.cells] (.bool (mendB d)) [] := by
  refine pc_at Tryz.func115 rfl (by kernel_rfl) 10 [.tmp 2] rfl rfl ?_
  repeat' (conv => whnf); first
 | (refine nameB_cases (b := okDsk d) (fun h => ?_) (fun h => ?_))
 | (refine nameB_cases (fun h => ?_) (fun h => ?_) <;> try simp only [nmL, lensB] at h)
 | refine splitB_true ?_
 | refine splitB_false ?_
 | refine Call0 (c_impl_GoodDisk d hw) rfl rfl ?_
 | refine side_and (side_of (by first | exact Nat.le_of_ble_eq_true rfl | exact rfl | omega | fail)) ?_
 | fail
  all_goals
    conv => whnf
    refine OutA_plain rfl rfl ?_
    first
    | (rw [mendB, (by assumption : okDsk d = true), decide_eq_true (by assumption)]; rfl)
    | (rw [mendB, (by assumption : okDsk d = true), decide_eq_false (by assumption)]; rfl)
    | (rw [mendB, (by assumption : okDsk d = false)]; rfl)
theorem preE_le {a b : List EntryT} (h : preE a b = true) : b.length ≤ a.length := by
  unfold preE at h
  have := of_decide_eq_true h
  have h2 := congrArg List.length this
  rw [List.length_take] at h2
  omega
theorem c_impl_fits_no (g : GroupT) (r : ReplicaT) (d : DiskT) (hd : d.w ≤ 1048576) (hm : mendB d = false) : PC Tryz.prog false 66 [.agg g.cells, .agg r.cells, .agg d.cells] (.bool false) [] := by
  refine pc_at Tryz.func66 rfl (by kernel_rfl) 64 [.tmp 6] rfl rfl ?_
  repeat' (conv => whnf); first
 | refine nameB_no (b := mendB d) hm ?_
 | refine nameB_true ?_
 | refine splitB_true ?_
 | refine Call0 (c_impl_isMendable d hd) rfl rfl ?_
 | refine side_and (side_of (by first | exact Nat.le_of_ble_eq_true rfl | exact rfl | omega | fail)) ?_
 | fail
  all_goals
    conv => whnf
    exact OutA_plain rfl rfl rfl
theorem c_impl_fits_bad (g : GroupT) (r : ReplicaT) (d : DiskT) (hd : d.w ≤ 1048576) (hm : mendB d = true) (hb : PC Tryz.prog false 100 [.agg d.cells] (.tup [.nil, .int .i64 0, .bool false]) []) : PC Tryz.prog false 66 [.agg g.cells, .agg r.cells, .agg d.cells] (.bool false) [] := by
  refine pc_at Tryz.func66 rfl (by kernel_rfl) 64 [.tmp 6] rfl rfl ?_
  repeat' (conv => whnf); first
 | refine nameB_yes (b := mendB d) hm ?_
 | refine nameB_true ?_
 | refine nameB_false ?_
 | refine splitB_true ?_
 | refine splitB_false ?_
 | refine Call0 (c_impl_isMendable d hd) rfl rfl ?_
 | refine Call0 (hb) rfl rfl ?_
 | refine side_and (side_of (by first | exact Nat.le_of_ble_eq_true rfl | exact rfl | omega | fail)) ?_
 | fail
  all_goals
    conv => whnf
    exact OutA_plain rfl rfl rfl
theorem c_impl_fits_up (g : GroupT) (r : ReplicaT) (d : DiskT) (L : List EntryT) (n : Nat) (hu : r.Up = true) (hL : okL EntryT.ok L) (hd : d.w ≤ 1048576) (hm : mendB d = true) (hb : PC Tryz.prog false 100 [.agg d.cells] (.tup [.own 0, .int .i64 (n : Nat), .bool true]) [⟨.deep EntryT.shp, 124, 8, L.map EntryT.cells⟩]) : PC Tryz.prog false 66 [.agg g.cells, .agg r.cells, .agg d.cells] (.bool (fitsL g.Term r L n d.Kept.length)) [] := by
  refine pc_at Tryz.func66 rfl (by kernel_rfl) 64 [.tmp 6] rfl rfl ?_
  repeat' (conv => whnf); first
 | refine nameB_yes (b := mendB d) hm ?_
 | refine nameB_yes (b := r.Up) hu ?_
 | refine nameB_false ?_
 | (refine nameB_dec (fun h => ?_) (fun h => ?_) <;> try simp only [lensB] at h)
 | refine splitB_true ?_
 | refine splitB_false ?_
 | refine Call0 (c_impl_isMendable d hd) rfl rfl ?_
 | refine CallF (hb) rfl rfl rfl (Nat.le_of_ble_eq_true rfl) ?_
 | refine Call0 (c_impl_sameEntries L r.Log hL) rfl rfl ?_
 | refine side_and (side_of (by first | exact Nat.le_of_ble_eq_true rfl | exact rfl | omega | fail)) ?_
 | fail
  all_goals
    conv => whnf
    refine OutA_plain rfl rfl ?_
    unfold fitsL
    rw [hu]
    first
    | (rw [decide_eq_false (show ¬ L = r.Log by assumption)]; rfl)
    | (rw [decide_eq_true (show L = r.Log by assumption), decide_eq_true (by assumption)]; rfl)
    | (rw [decide_eq_true (show L = r.Log by assumption), decide_eq_false (by assumption)]; rfl)
    | rfl
theorem c_impl_fits_down (g : GroupT) (r : ReplicaT) (d : DiskT) (L : List EntryT) (n : Nat) (hu : r.Up = false) (hL : okL EntryT.ok L) (hLl : L.length ≤ 1048575) (hr : r.Log.length ≤ 1048575) (hd : d.w ≤ 1048576) (hm : mendB d = true) (hb : PC Tryz.prog false 100 [.agg d.cells] (.tup [.own 0, .int .i64 (n : Nat), .bool true]) [⟨.deep EntryT.shp, 124, 8, L.map EntryT.cells⟩]) : PC Tryz.prog false 66 [.agg g.cells, .agg r.cells, .agg d.cells] (.bool (fitsL g.Term r L n d.Kept.length)) [] := by
  have hw : IntKind.i64.wrap ((r.Log.length : Int) + 1) = (r.Log.length : Int) + 1 := i64w (by omega) (by omega)
  refine pc_at Tryz.func66 rfl (by kernel_rfl) 64 [.tmp 6] rfl rfl ?_
  repeat' (conv => whnf); first
 | refine nameB_yes (b := mendB d) hm ?_
 | refine nameB_no (b := r.Up) hu ?_
 | (refine nameB_cases (b := preE L r.Log) (fun h => ?_) (fun h => ?_))
 | (rw [hw] at h)
 | refine nameB_true ?_
 | refine nameB_false ?_
 | (refine nameB_dec (fun h => ?_) (fun h => ?_) <;> try simp only [lensB] at h)
 | (refine nameB_cases (fun h => ?_) (fun h => ?_) <;> try simp only [nmL, lensB] at h)
 | refine splitB_true ?_
 | refine splitB_false ?_
 | refine draw_text (by kernel_rfl) (by kernel_rfl) (by kernel_rfl) ?_
 | refine Call0 (c_impl_isMendable d hd) rfl rfl ?_
 | refine CallF (hb) rfl rfl rfl (Nat.le_of_ble_eq_true rfl) ?_
 | refine Call0 (c_impl_hasPrefix L r.Log hL (by omega)) rfl rfl ?_
 | refine CallD0 (c_impl_lastTerm L (by omega)) rfl rfl rfl ?_
 | refine CallD0 (c_impl_lastTerm r.Log (by omega)) rfl rfl rfl ?_
 | refine CallD0 (c_impl_within ..) rfl rfl rfl ?_
 | refine side_and (side_of (by first | exact Nat.le_of_ble_eq_true rfl | exact rfl | omega | fail)) ?_
 | fail
  all_goals
    conv => whnf
    refine OutA_plain rfl rfl ?_
    unfold fitsL
    rw [hu]
    first
    | (rw [(by assumption : preE L r.Log = false)]; rfl)
    | (have q := preE_le (by assumption : preE L r.Log = true)
       rw [(by assumption : preE L r.Log = true)]
       first
       | (rw [decide_eq_true (by assumption : (L.length : Int) = (r.Log.length : Int))]; rfl)
       | (rw [decide_eq_false (show ¬ (L.length : Int) = (r.Log.length : Int) by omega), decide_eq_false (show ¬ (L.length : Int) = (r.Log.length : Int) + 1 by omega)]; rfl)
       | (rw [decide_eq_false (show ¬ (L.length : Int) = (r.Log.length : Int) by omega), decide_eq_true (show (L.length : Int) = (r.Log.length : Int) + 1 by omega), (by assumption : inB (lastE r.Log) (lastE L) g.Term = true)]; rfl)
       | (rw [decide_eq_false (show ¬ (L.length : Int) = (r.Log.length : Int) by omega), decide_eq_true (show (L.length : Int) = (r.Log.length : Int) + 1 by omega), (by assumption : inB (lastE r.Log) (lastE L) g.Term = false)]; rfl))
theorem c_impl_fitsDisk (g : GroupT) (r : ReplicaT) (d : DiskT) (hr : r.Log.length ≤ 1048575) (hd : d.w ≤ 1048576) : PC Tryz.prog false 66 [.agg g.cells, .agg r.cells, .agg d.cells] (.bool (fitsD g.Term r d)) [] := by
  cases hm : mendB d with
  | false =>
    have e : fitsD g.Term r d = false := by unfold fitsD; rw [hm]; rfl
    rw [e]
    exact c_impl_fits_no g r d hd hm
  | true =>
    obtain ⟨m1, m2, m3⟩ := mendB_of hm
    have hw2 := okDsk_w m1
    cases ha : (frames d.Kept 0).1.all okE with
    | false =>
      have e : fitsD g.Term r d = false := by unfold fitsD; rw [hm, ha]; rfl
      rw [e]
      exact c_impl_fits_bad g r d hd hm (c_impl_onDisk_no d (by omega) (by rw [m3]; exact ha))
    | true =>
      have e : fitsD g.Term r d = fitsL g.Term r ((frames d.Kept 0).1.map outE) (frames d.Kept 0).2 d.Kept.length := by unfold fitsD; rw [hm, ha]; rfl
      rw [e]
      have hy := c_impl_onDisk_yes d (by omega) (by rw [m3]; exact ha)
      rw [m3] at hy
      obtain ⟨f1, f2, f3⟩ := frames_ok (b := d.Kept)
      have hk : d.Kept.length ≤ 50000 := by have : d.w = d.Kept.length + d.Loose.length := rfl; omega
      have hL : okL EntryT.ok ((frames d.Kept 0).1.map outE) := ⟨by rw [List.length_map]; omega, fun x hx => by
        obtain ⟨z, _, rfl⟩ := List.mem_map.1 hx
        exact small_ok outE_small⟩
      cases hu : r.Up with
      | true => exact c_impl_fits_up g r d _ _ hu hL hd hm hy
      | false => exact c_impl_fits_down g r d _ _ hu hL (by rw [List.length_map]; omega) hr hd hm hy
theorem last_at {L : List EntryT} {y : EntryT} {m : Nat} (h : L[m]? = some y) (hl : L.length = m + 1) : lastE L = y.Term := by
  unfold lastE
  rw [List.getLast?_eq_getElem?, hl, Nat.add_sub_cancel, h]
def fitsS (term : Int) (r : ReplicaT) (d : DiskT) : Bool := ((okOnD d && decide (d.Loose = [])) && preE (onD d) r.Log) && fitsL term r (onD d) (frames d.Kept 0).2 d.Kept.length
theorem preE_self {a b : List EntryT} (h : a = b) : preE a b = true := by
  subst h
  unfold preE
  rw [List.take_length]
  exact decide_eq_true rfl
theorem fits_same {term : Int} {r : ReplicaT} {d : DiskT} : fitsS term r d = fitsD term r d := by
  unfold fitsS fitsD
  cases h1 : okDsk d with
  | false =>
    have e1 : okOnD d = false := by unfold okOnD; rw [h1]; rfl
    have e2 : mendB d = false := by unfold mendB; rw [h1]; rfl
    rw [e1, e2]
    rfl
  | true =>
    by_cases h2 : d.Loose = []
    · have e0 : dskB d = d.Kept := by unfold dskB; rw [h2, List.append_nil]
      have e1 : mendB d = true := by unfold mendB; rw [h1, decide_eq_true h2]; rfl
      have e2 : okOnD d = (frames d.Kept 0).1.all okE := by unfold okOnD; rw [h1, e0]; rfl
      rw [e1, e2, decide_eq_true h2]
      cases h3 : (frames d.Kept 0).1.all okE with
      | false => rfl
      | true =>
        have e3 : onD d = (frames d.Kept 0).1.map outE := by rw [onD_yes (by rw [e2]; exact h3), e0]
        rw [e3]
        generalize (frames d.Kept 0).1.map outE = L
        simp only [Bool.and_true, Bool.true_and]
        cases hp : preE L r.Log with
        | true => rfl
        | false =>
          unfold fitsL
          rw [Bool.false_and]
          cases r.Up with
          | true =>
            simp only
            rw [decide_eq_false (fun e => by rw [preE_self e] at hp; cases hp)]
            rfl
          | false =>
            simp only
            rw [hp]
            rfl
    · have e1 : mendB d = false := by unfold mendB; rw [decide_eq_false h2]; simp
      rw [e1, decide_eq_false h2]
      simp
theorem ix_ents {L : List EntryT} {n m : Nat} {Q : List AV → Prop} (e : n = m) (h : m < L.length) (hQ : ∀ x, L[m]? = some x → Q x.cells) : ∃ y, (L.map EntryT.cells)[n]? = some y ∧ Q y := by
  subst e
  exact ⟨EntryT.cells L[n], by simp [h], hQ _ (by simp [h])⟩
theorem preE_eq {a b : List EntryT} (h : preE a b = true) (hl : (a.length : Int) = (b.length : Int)) : a = b := by
  unfold preE at h
  have := of_decide_eq_true h
  rw [List.take_of_length_le (by omega)] at this
  exact this
theorem fitsS_no {term : Int} {r : ReplicaT} {d : DiskT} (h : okOnD d = false ∨ ¬ d.Loose = [] ∨ preE (onD d) r.Log = false) : fitsS term r d = false := by
  unfold fitsS
  rcases h with h | h | h
  · rw [h]; rfl
  · rw [decide_eq_false h]; simp
  · rw [h]; simp
theorem fitsS_val {term : Int} {r : ReplicaT} {d : DiskT} (h1 : okOnD d = true) (h2 : d.Loose = []) (h3 : preE (onD d) r.Log = true) : fitsS term r d = fitsL term r (onD d) (frames d.Kept 0).2 d.Kept.length := by
  unfold fitsS
  rw [h1, decide_eq_true h2, h3]
  rfl
theorem fits_up {term : Int} {r : ReplicaT} {L : List EntryT} {n k : Nat} (hu : r.Up = true) (hp : preE L r.Log = true) : (¬ (L.length : Int) = (r.Log.length : Int) → fitsL term r L n k = false) ∧ ((L.length : Int) = (r.Log.length : Int) → fitsL term r L n k = decide ((n : Int) = (k : Int))) := by
  unfold fitsL
  rw [hu]
  refine ⟨fun h => ?_, fun h => ?_⟩
  · simp only
    rw [decide_eq_false (fun e => h (by rw [e]))]
    rfl
  · simp only
    rw [decide_eq_true (preE_eq hp h)]
    rfl
theorem fits_down {term : Int} {r : ReplicaT} {L : List EntryT} {n k : Nat} (hu : r.Up = false) (hp : preE L r.Log = true) : ((L.length : Int) = (r.Log.length : Int) → fitsL term r L n k = true) ∧ (¬ (L.length : Int) = (r.Log.length : Int) → fitsL term r L n k = (decide ((L.length : Int) = (r.Log.length : Int) + 1) && inB (lastE r.Log) (lastE L) term)) := by
  unfold fitsL
  rw [hu]
  refine ⟨fun h => ?_, fun h => ?_⟩
  · simp only
    rw [hp, decide_eq_true h]
    rfl
  · simp only
    rw [hp, decide_eq_false h]
    rfl
theorem c_spec_l11Fits (d : DiskT) (r : ReplicaT) (term : Int) (hg : okDsk d = true) (hr : r.Log.length ≤ 1048575) : PC Tryz.prog true 89 [.agg d.cells, .agg r.cells, .int .i64 term] (.bool (fitsS term r d)) [] := by
  have hw2 := okDsk_w hg
  have hk : d.w = d.Kept.length + d.Loose.length := rfl
  obtain ⟨o1, o2⟩ := onD_ok d
  have o3 : (onD d).length ≤ 50000 := by
    cases h : okOnD d with
    | false => rw [onD_no h]; exact Nat.zero_le _
    | true =>
      rw [onD_yes h, List.length_map]
      have := (frames_ok (b := dskB d)).2.1
      have := dskB_len d
      omega
  have hw : IntKind.i64.wrap ((r.Log.length : Int) + 1) = (r.Log.length : Int) + 1 := i64w (by omega) (by omega)
  have hb := c_spec_l9Begins (onD d) r.Log r.Log.length o1 (by omega) (by omega) (Nat.le_refl _)
  rw [List.take_length] at hb
  refine pc_at Tryz.func89 rfl (by kernel_rfl) 88 [.tmp 6] rfl rfl ?_
  repeat' (conv => whnf); first
 | (rw [hw] at h)
 | (refine nameB_cases (b := okOnD d) (fun h => ?_) (fun h => ?_))
 | (refine nameB_cases (b := preE (onD d) r.Log) (fun h => ?_) (fun h => ?_))
 | (refine nameB_cases (b := r.Up) (fun h => ?_) (fun h => ?_))
 | refine ix_ents (m := r.Log.length) (by simp) (by omega) (fun y hy => ?_)
 | refine nameB_true ?_
 | refine nameB_false ?_
 | (refine nameB_dec (fun h => ?_) (fun h => ?_) <;> try simp only [lensB] at h)
 | (refine nameB_cases (fun h => ?_) (fun h => ?_) <;> try simp only [nmL, lensB] at h)
 | refine splitB_true ?_
 | refine splitB_false ?_
 | refine draw_text (by kernel_rfl) (by kernel_rfl) (by kernel_rfl) ?_
 | refine CallT (c_spec_OnDisk d (by omega)) rfl rfl rfl rfl (Nat.le_of_ble_eq_true rfl) ?_
 | refine CallF (c_spec_l6Frames d.Kept (by omega)) rfl rfl rfl (Nat.le_of_ble_eq_true rfl) ?_
 | refine Call0 hb (congrArg (fun z : Nat => [AV.sl ((onD d).map EntryT.cells), AV.sl (r.Log.map EntryT.cells), AV.int .i64 (z : Int)]) (List.length_map _)) rfl ?_
 | refine CallD0 (c_spec_l9Last r.Log (by omega)) rfl rfl rfl ?_
 | refine CallD0 (c_spec_l1In ..) rfl rfl rfl ?_
 | refine side_and (side_of (by first | exact Nat.le_of_ble_eq_true rfl | exact rfl | omega | fail)) ?_
 | refine LoadK_of rfl rfl ?_
 | fail
  all_goals
    conv => whnf
    refine OutA_plain rfl rfl ?_
    first
    | (rw [fitsS_no (by first | exact .inl (by assumption) | exact .inr (.inl (by assumption)) | exact .inr (.inr (by assumption)))]; rfl)
    | (exfalso; have q1 : r.Up = true := (by assumption); have q2 : r.Up = false := (by assumption); rw [q1] at q2; cases q2)
    | (exfalso; omega)
    | (rw [fitsS_val (by assumption) (by assumption) (by assumption), (fits_up (by assumption) (by assumption)).2 (by assumption), decide_eq_true (by assumption)]; rfl)
    | (rw [fitsS_val (by assumption) (by assumption) (by assumption), (fits_up (by assumption) (by assumption)).2 (by assumption), decide_eq_false (by assumption)]; rfl)
    | (rw [fitsS_val (by assumption) (by assumption) (by assumption), (fits_up (by assumption) (by assumption)).1 (by assumption)]; rfl)
    | (rw [fitsS_val (by assumption) (by assumption) (by assumption), (fits_down (by assumption) (by assumption)).1 (by assumption)]; rfl)
    | (rw [fitsS_val (by assumption) (by assumption) (by assumption), (fits_down (by assumption) (by assumption)).2 (by assumption), decide_eq_false (by assumption)]; rfl)
    | (have hla := last_at hy (by omega)
       rw [fitsS_val (by assumption) (by assumption) (by assumption), (fits_down (by assumption) (by assumption)).2 (by assumption), decide_eq_true (by assumption), hla]
       first | (rw [(by assumption : inB _ y.Term term = true)]; rfl) | (rw [(by assumption : inB _ y.Term term = false)]; rfl) | rfl)
theorem c_spec_l11Fits2 (d : DiskT) (r : ReplicaT) (term : Int) (hg : okDsk d = true) (hr : r.Log.length ≤ 1048575) : PC Tryz.prog true 89 [.agg d.cells, .agg r.cells, .int .i64 term] (.bool (fitsD term r d)) [] := by
  have := c_spec_l11Fits d r term hg hr
  rw [fits_same] at this
  exact this
theorem wL_memS {α : Type} {w : α → Nat} {xs : List α} {x : α} (h : x ∈ xs) : w x + 1 ≤ wL w xs := by
  induction xs with
  | nil => simp at h
  | cons y ys ih =>
    simp only [wL, List.map_cons, List.sum_cons, List.length_cons] at ih ⊢
    rcases List.mem_cons.1 h with rfl | h
    · omega
    · have := ih h
      omega
def pairF (term : Int) (p : ReplicaT × DiskT) : Bool := fitsD term p.1 p.2
def okHouse (h : HouseT) : Bool := (okGroup h.Group && decide ((h.Disks.length : Int) = (h.Group.Reps.length : Int))) && (h.Group.Reps.zip h.Disks).all (pairF h.Group.Term)
theorem zip_at {xs : List ReplicaT} {ys : List DiskT} {k : Nat} {x : ReplicaT} {y : DiskT} (hx : xs[k]? = some x) (hy : ys[k]? = some y) : (xs.zip ys)[k]? = some (x, y) := by
  rw [List.getElem?_zip_eq_some]
  exact ⟨hx, hy⟩
structure HB (h : HouseT) : Prop where
  gb : GB h.Group
  log : ∀ x ∈ h.Group.Reps, x.Log.length ≤ 1048575
  dl : h.Disks.length ≤ 1048576
  dw : ∀ d ∈ h.Disks, d.w ≤ 1048576
theorem hb_of {h : HouseT} (hw : h.w ≤ 1048576) : HB h := by
  have e : h.w = h.Group.w + wL DiskT.w h.Disks := rfl
  refine ⟨gb_of (by omega), fun x hx => ?_, ?_, fun d hd => ?_⟩
  · have h1 := wL_memS (w := ReplicaT.w) hx
    have h2 : wL EntryT.w x.Log + 1 ≤ h.Group.w := h1
    have := wL_len (w := EntryT.w) (xs := x.Log)
    omega
  · have := wL_len (w := DiskT.w) (xs := h.Disks)
    omega
  · have := (wL_mem (w := DiskT.w) hd).2
    omega
theorem fits_gone {term : Int} {r : ReplicaT} {d : DiskT} (h : okDsk d = false) : fitsD term r d = false := by
  unfold fitsD mendB
  rw [h]
  rfl
theorem okH_no {H : HouseT} (h : okGroup H.Group = false ∨ ¬ (H.Disks.length : Int) = (H.Group.Reps.length : Int) ∨ (H.Group.Reps.zip H.Disks).all (pairF H.Group.Term) = false) : okHouse H = false := by
  unfold okHouse
  rcases h with h | h | h
  · rw [h]; rfl
  · rw [decide_eq_false h]; simp
  · rw [h]; simp
theorem okH_yes {H : HouseT} (h1 : okGroup H.Group = true) (h2 : (H.Disks.length : Int) = (H.Group.Reps.length : Int)) (h3 : (H.Group.Reps.zip H.Disks).all (pairF H.Group.Term) = true) : okHouse H = true := by
  unfold okHouse
  rw [h1, decide_eq_true h2, h3]
  rfl
theorem bad_dsk {H : HouseT} {k : Nat} {y : DiskT} (hl : (H.Disks.length : Int) = (H.Group.Reps.length : Int)) (hT : ((H.Group.Reps.zip H.Disks).drop k).all (pairF H.Group.Term) = (H.Group.Reps.zip H.Disks).all (pairF H.Group.Term)) (hy : H.Disks[k]? = some y) (h : okDsk y = false) : (H.Group.Reps.zip H.Disks).all (pairF H.Group.Term) = false := by
  have hk : k < H.Disks.length := (List.getElem?_eq_some_iff.1 hy).1
  have hx : H.Group.Reps[k]? = some (H.Group.Reps[k]'(by omega)) := List.getElem?_eq_getElem _
  exact all_bad hT (zip_at hx hy) (fits_gone h)
theorem c_impl_GoodHouse (H : HouseT) (hok : H.ok) (hb : HB H) : PC Tryz.prog false 26 [.agg H.cells] (.bool (okHouse H)) [] := by
  have hw1 := hb.gb
  have hw2 := hb.dw
  have hl := reps_len hw1
  refine pc_at Tryz.func26 rfl (by kernel_rfl) 39 [.tmp 2] rfl rfl ?_
  repeat' (conv => whnf); first
 | (refine nameB_cases (b := okGroup H.Group) (fun h => ?_) (fun h => ?_))
 | (refine nameB_cases (b := fitsD H.Group.Term x y) (fun h => ?_) (fun h => ?_))
 | refine nameB_true ?_
 | refine nameB_false ?_
 | (refine nameB_dec (fun h => ?_) (fun h => ?_) <;> try simp only [lensB] at h)
 | (refine nameB_cases (fun h => ?_) (fun h => ?_) <;> try simp only [nmL, lensB] at h)
 | refine splitB_true ?_
 | refine splitB_false ?_
 | refine draw_text (by kernel_rfl) (by kernel_rfl) (by kernel_rfl) ?_
 | ((refine Loop_at [1, 21, 22] [0] (Nat) (fun k => ((H.Group.Reps.zip H.Disks).drop k).all (pairF H.Group.Term) = (H.Group.Reps.zip H.Disks).all (pairF H.Group.Term) ∧ k ≤ H.Group.Reps.length) (fun k => [(23, .int .i64 (k : Nat))]) (fun k => []) (fun k => H.Group.Reps.length - k) 0 ⟨by first | (simp_all <;> fail) | rfl | fail, trivial⟩ trivial (by (try dsimp only); first | (exact ⟨rfl, Nat.zero_le _⟩) | fail) ?_; (conv => whnf); refine side_and (side_of (by first | exact fun k => rfl | exact fun k => by simp [headOk, closedE, closedO, closedL, AV.closed, hcap.closed, hasId, AObj.box, BK.ofB])) ?_; rintro k hT; try dsimp only at hT))
 | (refine Again_of (k + 1) ⟨by first | rfl | exact i64_next (by omega) | (simp_all <;> fail) | fail, trivial⟩ trivial (by first | (and_intros <;> first | rfl | trivial) | fail) (by first | (and_intros <;> first | rfl | trivial) | fail) rfl rfl rfl (by (try dsimp only); first | (exact ⟨all_go hT.1 (zip_at hx hy) (by assumption), by omega⟩) | fail) (show _ < _ by (try dsimp only); omega))
 | refine Call0 (c_impl_GoodGroup H.Group hok.1 hw1) rfl rfl ?_
 | refine CallD0 (c_impl_fitsDisk H.Group x y (hb.log x (List.mem_of_getElem? hx)) (hw2 y (List.mem_of_getElem? hy))) rfl rfl rfl ?_
 | (refine ix_map2 hx (by omega) (by (try simp only [List.length_take]); omega) (fun y hy => ?_); try simp only [Int.toNat_natCast] at hy)
 | (refine ix_map (by omega) (by (try simp only [List.length_take]); omega) (fun x hx => ?_); try simp only [Int.toNat_natCast] at hx)
 | refine side_and (side_of (by first | exact ⟨Nat.le_of_ble_eq_true rfl, rfl⟩ | fail)) ?_
 | refine side_and (side_of (by first | exact Nat.le_of_ble_eq_true rfl | exact rfl | omega | fail)) ?_
 | refine side_and (side_of (by first | (and_intros <;> first | rfl | omega | exact Nat.le_of_ble_eq_true rfl) | fail)) ?_
 | refine LoadK_of rfl rfl ?_
 | fail
  all_goals
    conv => whnf
    refine OutA_plain rfl rfl ?_
    first
    | (have hb := all_bad hT.1 (zip_at hx hy) (by assumption); rw [okH_no (.inr (.inr hb))]; rfl)
    | (have hb := all_end hT.1 (by rw [List.length_zip]; omega); rw [okH_yes (by assumption) (by assumption) hb]; rfl)
    | (rw [okH_no (by first | exact .inl (by assumption) | exact .inr (.inl (by assumption)))]; rfl)
theorem c_spec_l11Good (H : HouseT) (hok : H.ok) (hb : HB H) : PC Tryz.prog true 45 [.agg H.cells] (.bool (okHouse H)) [] := by
  have hw1 := hb.gb
  have hw2 := hb.dw
  have hl := reps_len hw1
  have hdl := hb.dl
  refine pc_at Tryz.func45 rfl (by kernel_rfl) 50 [.tmp 2] rfl rfl ?_
  repeat' (conv => whnf); first
 | (refine nameB_cases (b := okGroup H.Group) (fun h => ?_) (fun h => ?_))
 | (refine nameB_cases (b := fitsD H.Group.Term x y) (fun h => ?_) (fun h => ?_))
 | (refine nameB_cases (b := okDsk y) (fun h => ?_) (fun h => ?_))
 | refine ix_at (f := DiskT.cells) (m := k) rfl hy ?_
 | (refine ix_as (f := DiskT.cells) (m := k) rfl (by omega) (fun y hy => ?_))
 | (refine ix_as (f := ReplicaT.cells) (m := k) rfl (by omega) (fun x hx => ?_))
 | refine nameB_true ?_
 | refine nameB_false ?_
 | (refine nameB_dec (fun h => ?_) (fun h => ?_) <;> try simp only [lensB] at h)
 | (refine nameB_cases (fun h => ?_) (fun h => ?_) <;> try simp only [nmL, lensB] at h)
 | refine splitB_true ?_
 | refine splitB_false ?_
 | refine draw_text (by kernel_rfl) (by kernel_rfl) (by kernel_rfl) ?_
 | ((refine Loop_at [1] [0] (Nat) (fun k => ((H.Group.Reps.zip H.Disks).drop k).all (pairF H.Group.Term) = (H.Group.Reps.zip H.Disks).all (pairF H.Group.Term) ∧ k ≤ H.Disks.length) (fun k => [(3, .int .i64 (k : Nat))]) (fun k => []) (fun k => H.Disks.length - k) 0 ⟨by first | (simp_all <;> fail) | rfl | fail, trivial⟩ trivial (by (try dsimp only); first | (exact ⟨rfl, Nat.zero_le _⟩) | fail) ?_; (conv => whnf); refine side_and (side_of (by first | exact fun k => rfl | exact fun k => by simp [headOk, closedE, closedO, closedL, AV.closed, hcap.closed, hasId, AObj.box, BK.ofB])) ?_; rintro k hT; try dsimp only at hT))
 | (refine Again_of (k + 1) ⟨by first | rfl | exact i64_next (by omega) | (simp_all <;> fail) | fail, trivial⟩ trivial (by first | (and_intros <;> first | rfl | trivial) | fail) (by first | (and_intros <;> first | rfl | trivial) | fail) rfl rfl rfl (by (try dsimp only); first | (exact ⟨all_go hT.1 (zip_at hx hy) (by assumption), by omega⟩) | fail) (show _ < _ by (try dsimp only); omega))
 | refine Call0 (c_spec_GoodGroup H.Group hok.1 hw1) rfl rfl ?_
 | refine CallD0 (c_spec_GoodDisk y (hw2 y (List.mem_of_getElem? hy))) rfl rfl rfl ?_
 | refine CallDT (c_spec_l11Fits2 y x H.Group.Term (by assumption) (hb.log x (List.mem_of_getElem? hx))) rfl rfl rfl ⟨rfl, rfl⟩ ?_
 | refine side_and (side_of (by first | exact Nat.le_of_ble_eq_true rfl | exact rfl | omega | fail)) ?_
 | refine LoadK_of rfl rfl ?_
 | fail
  all_goals
    conv => whnf
    refine OutA_plain rfl rfl ?_
    first
    | (rw [okH_no (by first | exact .inl (by assumption) | exact .inr (.inl (by assumption)))]; rfl)
    | (have hb := all_bad hT.1 (zip_at hx hy) (by assumption); rw [okH_no (.inr (.inr hb))]; rfl)
    | (have hb := bad_dsk (by assumption) hT.1 hy (by assumption); rw [okH_no (.inr (.inr hb))]; rfl)
    | (have hb := all_end hT.1 (by rw [List.length_zip]; omega); rw [okH_yes (by assumption) (by assumption) hb]; rfl)
@[irreducible] def frB (s : List UInt8) : List UInt8 := numB (s.length : Nat) ++ sealB s
theorem frB_len {s : List UInt8} : (frB s).length ≤ 2 * s.length + 4 := by
  have h1 := numB_len (s.length : Nat)
  have h2 : (sealB s).length = s.length + 3 := (by unfold sealB threeB; simp)
  unfold frB
  rw [List.length_append]
  omega
theorem c_impl_frameBytes (s : List UInt8) (h : s.length ≤ 500000000) : PC Tryz.prog false 146 [.str s] (.str (frB s)) [] := by
  refine pc_at Tryz.func146 rfl (by kernel_rfl) 9 [.tmp 2] rfl rfl ?_
  repeat' (conv => whnf); first
 | exact side_of (by have h1 := numB_len (s.length : Nat); have h2 : (sealB s).length = s.length + 3 := (by unfold sealB threeB; simp); omega)
 | refine Call0 (c_impl_numBytes9 (s.length : Nat) (by omega) (by omega)) rfl rfl ?_
 | refine Call0 (c_impl_seal s (by omega)) rfl rfl ?_
 | refine side_and ?_ ?_
 | fail
  all_goals
    conv => whnf
    exact OutA_plain rfl rfl (by unfold frB; rfl)
theorem c_spec_l6FrameW (s : List UInt8) (h : s.length ≤ 500000000) : PC Tryz.prog false 78 [.str s] (.str (frB s)) [] := by
  refine pc_at Tryz.func78 rfl (by kernel_rfl) 9 [.tmp 2] rfl rfl ?_
  repeat' (conv => whnf); first
 | exact side_of (by have h1 := numB_len (s.length : Nat); have h2 : (sealB s).length = s.length + 3 := (by unfold sealB threeB; simp); omega)
 | refine Call0 (c_spec_l1NumB9 (s.length : Nat) (by omega) (by omega)) rfl rfl ?_
 | refine Call0 (c_spec_l1Seal s (by omega)) rfl rfl ?_
 | refine side_and ?_ ?_
 | fail
  all_goals
    conv => whnf
    exact OutA_plain rfl rfl (by unfold frB; rfl)
def entIn (e : EntryT) : Prop := okRec e.Rec = true ∧ (0 ≤ e.Term ∧ e.Term ≤ 200) ∧ e.w ≤ 1048576
theorem entB_len {e : EntryT} (h : entIn e) : (entB e).length ≤ 40000300 := by
  have h1 := numB_len e.Term
  have h2 := recB_len h.1 h.2.2
  have h3 := h.2.1
  unfold entB
  rw [List.length_append]
  omega
theorem c_impl_entryBytes0 (e : EntryT) (h : entIn e) : PC Tryz.prog false 107 [.agg e.cells] (.str (entB e)) [] := by
  obtain ⟨h1, h2, hw⟩ := h
  have a1 := numB_len e.Term
  have a2 := recB_len h1 hw
  refine pc_at Tryz.func107 rfl (by kernel_rfl) 10 [.tmp 2] rfl rfl ?_
  repeat' (conv => whnf); first
 | refine draw_text (by kernel_rfl) (by kernel_rfl) (by kernel_rfl) ?_
 | refine CallD0 (c_impl_numBytes e.Term (by omega) (by omega)) rfl rfl rfl ?_
 | refine CallD0 (c_impl_recBytes e.Rec h1 hw) rfl rfl rfl ?_
 | refine side_and (side_of (by first | exact Nat.le_of_ble_eq_true rfl | exact rfl | omega | fail)) ?_
 | fail
  all_goals
    conv => whnf
    exact OutA_plain rfl rfl rfl
theorem c_spec_l11Bytes0 (e : EntryT) (h : entIn e) : PC Tryz.prog false 79 [.agg e.cells] (.str (entB e)) [] := by
  obtain ⟨h1, h2, hw⟩ := h
  have a1 := numB_len e.Term
  have a2 := recB_len h1 hw
  refine pc_at Tryz.func79 rfl (by kernel_rfl) 10 [.tmp 2] rfl rfl ?_
  repeat' (conv => whnf); first
 | refine draw_text (by kernel_rfl) (by kernel_rfl) (by kernel_rfl) ?_
 | refine CallD0 (c_spec_l1NumB e.Term (by omega) (by omega)) rfl rfl rfl ?_
 | refine CallD0 (c_spec_l4Bytes e.Rec h1 hw) rfl rfl rfl ?_
 | refine side_and (side_of (by first | exact Nat.le_of_ble_eq_true rfl | exact rfl | omega | fail)) ?_
 | fail
  all_goals
    conv => whnf
    exact OutA_plain rfl rfl rfl
@[irreducible] def keptB (L : List EntryT) : List UInt8 := (L.map fun e => frB (entB e)).flatten
theorem keptB_nil : keptB [] = [] := by unfold keptB; rfl
theorem keptB_next {L : List EntryT} {k : Nat} {x : EntryT} (hx : L[k]? = some x) : keptB (L.take k) ++ frB (entB x) = keptB (L.take (k + 1)) := by
  unfold keptB
  rw [List.take_add_one, hx, Option.toList_some, List.map_append, List.flatten_append, List.map_cons, List.map_nil, List.flatten_cons, List.flatten_nil, List.append_nil]
theorem keptB_len {L : List EntryT} (h : ∀ e ∈ L, entIn e) : (keptB L).length ≤ L.length * 80000604 := by
  unfold keptB
  induction L with
  | nil => exact Nat.zero_le _
  | cons x xs ih =>
    have h1 := ih fun e he => h e (List.mem_cons_of_mem _ he)
    have h2 := entB_len (h x (List.mem_cons_self ..))
    have h3 := frB_len (s := entB x)
    simp only [List.map_cons, List.flatten_cons, List.length_append, List.length_cons, Nat.succ_mul] at h1 ⊢
    omega
theorem kept_side {L : List EntryT} {k : Nat} {x : EntryT} (h : ∀ e ∈ L, entIn e) (hl : L.length ≤ 61) (hx : L[k]? = some x) : (keptB (L.take k)).length + (frB (entB x)).length ≤ 4611686018427387904 := by
  have h1 := keptB_len (L := L.take k) fun e he => h e (List.mem_of_mem_take he)
  have h2 := entB_len (h x (List.mem_of_getElem? hx))
  have h3 := frB_len (s := entB x)
  have h4 : (L.take k).length ≤ 61 := by rw [List.length_take]; omega
  have h5 : (L.take k).length * 80000604 ≤ 61 * 80000604 := Nat.mul_le_mul_right _ h4
  omega
theorem c_impl_diskOf (L : List EntryT) (hent : ∀ e ∈ L, entIn e) (hl : L.length ≤ 61) : PC Tryz.prog false 99 [.sl (L.map EntryT.cells)] (.agg [.str (keptB L), .str []]) [] := by
  refine pc_at Tryz.func99 rfl (by kernel_rfl) 22 [.cell 2 92] rfl rfl ?_
  repeat' (conv => whnf); first
 | exact side_of (kept_side hent hl hx)
 | (refine ix_as (f := EntryT.cells) (m := k) rfl (by omega) (fun x hx => ?_))
 | (refine nameB_dec (fun h => ?_) (fun h => ?_) <;> try simp only [lensB] at h)
 | refine splitB_true ?_
 | refine splitB_false ?_
 | refine draw_text (by kernel_rfl) (by kernel_rfl) (by kernel_rfl) ?_
 | ((refine Loop_at [2, 3, 7, 8] [0] (Nat) (fun k => k ≤ L.length) (fun k => [(9, .int .i64 (k : Nat))]) (fun k => [(4112, ⟨true, 92, 2, [[.str (keptB (L.take k)), .str []]]⟩)]) (fun k => L.length - k) 0 ⟨by first | (simp_all <;> fail) | rfl | fail, trivial⟩ ⟨by first | rfl | first | exact congrArg (fun z : List UInt8 => some (AObj.mk .box 92 2 [[.str z, .str []]])) keptB_nil.symm | exact congrArg (fun z : List UInt8 => some (AObj.mk .box 92 2 [[.str z, .str []]])) (keptB_next hx) | fail | fail, trivial⟩ (by (try dsimp only); first | (exact Nat.zero_le _) | fail) ?_; (conv => whnf); refine side_and (side_of (by first | exact fun k => rfl | exact fun k => by simp [headOk, closedE, closedO, closedL, AV.closed, hcap.closed, hasId, AObj.box, BK.ofB])) ?_; rintro k hT; try dsimp only at hT))
 | (refine Again_of (k + 1) ⟨by first | rfl | exact i64_next (by omega) | (simp_all <;> fail) | fail, trivial⟩ ⟨by first | rfl | first | exact congrArg (fun z : List UInt8 => some (AObj.mk .box 92 2 [[.str z, .str []]])) keptB_nil.symm | exact congrArg (fun z : List UInt8 => some (AObj.mk .box 92 2 [[.str z, .str []]])) (keptB_next hx) | fail | fail, trivial⟩ (by first | (and_intros <;> first | rfl | trivial) | fail) (by first | (and_intros <;> first | rfl | trivial) | fail) rfl rfl rfl (by (try dsimp only); first | ((show k + 1 ≤ _; omega)) | fail) (show _ < _ by (try dsimp only); omega))
 | refine CallD0 (c_impl_entryBytes0 x (hent x (List.mem_of_getElem? hx))) rfl rfl rfl ?_
 | refine CallD0 (c_impl_frameBytes (entB x) (by have := entB_len (hent x (List.mem_of_getElem? hx)); omega)) rfl rfl rfl ?_
 | refine side_and (side_of (by first | exact ⟨Nat.le_of_ble_eq_true rfl, rfl⟩ | fail)) ?_
 | refine side_and (side_of (by first | exact Nat.le_of_ble_eq_true rfl | exact rfl | omega | fail)) ?_
 | refine side_and (side_of (by first | (and_intros <;> first | rfl | omega | exact Nat.le_of_ble_eq_true rfl) | fail)) ?_
 | refine side_and ?_ ?_
 | fail
  all_goals
    conv => whnf
    refine OutA_plain rfl rfl ?_
    have e : k = L.length := by omega
    subst e
    rw [List.take_length]
    rfl
theorem c_spec_l11Kept (L : List EntryT) (hent : ∀ e ∈ L, entIn e) (hl : L.length ≤ 61) : PC Tryz.prog false 47 [.sl (L.map EntryT.cells)] (.str (keptB L)) [] := by
  refine pc_at Tryz.func47 rfl (by kernel_rfl) 20 [.tmp 2] rfl rfl ?_
  repeat' (conv => whnf); first
 | exact side_of (kept_side hent hl hx)
 | (refine ix_as (f := EntryT.cells) (m := k) rfl (by omega) (fun x hx => ?_))
 | (refine nameB_dec (fun h => ?_) (fun h => ?_) <;> try simp only [lensB] at h)
 | refine splitB_true ?_
 | refine splitB_false ?_
 | ((refine Loop_at [0] [] (Nat) (fun k => k ≤ L.length) (fun k => [(3, .str (keptB (L.take k))), (4, .int .i64 (k : Nat))]) (fun k => []) (fun k => L.length - k) 0 ⟨by first | rfl | first | exact congrArg AV.str keptB_nil.symm | exact congrArg AV.str (keptB_next hx) | fail, by first | first | exact congrArg AV.str keptB_nil.symm | exact congrArg AV.str (keptB_next hx) | rfl | fail, trivial⟩ trivial (by (try dsimp only); first | (exact Nat.zero_le _) | fail) ?_; (conv => whnf); refine side_and (side_of (by first | exact fun k => rfl | exact fun k => by simp [headOk, closedE, closedO, closedL, AV.closed, hcap.closed, hasId, AObj.box, BK.ofB])) ?_; rintro k hT; try dsimp only at hT))
 | (refine Again_of (k + 1) ⟨by first | rfl | first | exact congrArg AV.str keptB_nil.symm | exact congrArg AV.str (keptB_next hx) | fail, by first | rfl | exact i64_next (by omega) | first | exact congrArg AV.str keptB_nil.symm | exact congrArg AV.str (keptB_next hx) | fail, trivial⟩ trivial (by first | (and_intros <;> first | rfl | trivial) | fail) (by first | (and_intros <;> first | rfl | trivial) | fail) rfl rfl rfl (by (try dsimp only); first | ((show k + 1 ≤ _; omega)) | fail) (show _ < _ by (try dsimp only); omega))
 | refine Call0 (c_spec_l11Bytes0 x (hent x (List.mem_of_getElem? hx))) rfl rfl ?_
 | refine Call0 (c_spec_l6FrameW (entB x) (by have := entB_len (hent x (List.mem_of_getElem? hx)); omega)) rfl rfl ?_
 | refine side_and (side_of (by first | exact Nat.le_of_ble_eq_true rfl | exact rfl | omega | fail)) ?_
 | refine side_and ?_ ?_
 | fail
  all_goals
    conv => whnf
    refine OutA_plain rfl rfl ?_
    have e : k = L.length := by omega
    subst e
    rw [List.take_length]
    rfl
def mended (d : DiskT) : DiskT := ⟨d.Kept.take (frames d.Kept 0).2, []⟩
theorem frames_end {b : List UInt8} : (frames b 0).2 ≤ b.length := by
  obtain ⟨f1, f2, f3⟩ := frames_ok (b := b)
  omega
theorem c_spec_MendDisk (d : DiskT) (hm : mendB d = true) (hw : d.w ≤ 1048576) : PC Tryz.prog false 48 [.agg d.cells] (.tup [.agg (mended d).cells, .bool true]) [] := by
  obtain ⟨m1, m2, m3⟩ := mendB_of hm
  have hw2 := okDsk_w m1
  have hk : d.w = d.Kept.length + d.Loose.length := rfl
  have he := frames_end (b := d.Kept)
  refine pc_at Tryz.func48 rfl (by kernel_rfl) 26 [.cell 2 92, .tmp 3] rfl rfl ?_
  repeat' (conv => whnf); first
 | refine nameB_yes (b := okDsk d) m1 ?_
 | refine nameB_false ?_
 | (refine nameB_cases (fun h => ?_) (fun h => ?_) <;> try simp only [nmL, lensB] at h)
 | refine splitB_true ?_
 | refine splitB_false ?_
 | refine Call0 (c_spec_GoodDisk d hw) rfl rfl ?_
 | refine CallF (c_spec_l6Frames d.Kept (by omega)) rfl rfl rfl (Nat.le_of_ble_eq_true rfl) ?_
 | refine side_and (side_of (by first | exact ⟨Nat.le_of_ble_eq_true rfl, rfl⟩ | fail)) ?_
 | refine side_and (side_of (by first | exact Nat.le_of_ble_eq_true rfl | exact rfl | omega | fail)) ?_
 | refine side_and (side_of (by first | (and_intros <;> first | rfl | omega | exact Nat.le_of_ble_eq_true rfl) | fail)) ?_
 | fail
  all_goals
    conv => whnf
    first
    | (exact absurd m2 (by assumption))
    | exact OutA_plain rfl rfl rfl
theorem c_Clone_Disk (xs : List DiskT) (hl : xs.length ≤ 1048576) : PC Tryz.prog false 60 [.sl (xs.map DiskT.cells)] (.own 0) [⟨false, 92, 2, xs.map DiskT.cells⟩] := by
  refine pc_at Tryz.func60 rfl (by kernel_rfl) 8 [.tmp 2] rfl rfl ?_
  repeat' (conv => whnf); first
 | refine splitB_true ?_
 | refine splitB_false ?_
 | refine side_and (side_of (by first | exact ⟨Nat.le_of_ble_eq_true rfl, rfl⟩ | fail)) ?_
 | refine side_and (side_of (by first | exact Nat.le_of_ble_eq_true rfl | exact rfl | omega | fail)) ?_
 | refine side_and (side_of (by first | (and_intros <;> first | rfl | omega | exact Nat.le_of_ble_eq_true rfl) | fail)) ?_
 | refine side_and (side_of (by first | (and_intros <;> first | exact Nat.le_of_ble_eq_true rfl | rfl | omega | (simp only [lensB, lensC]; omega) | exact bytes_ok (Nat.le_of_ble_eq_true rfl) (by omega) (by simp only [lensB, lensC]; omega) | exact bytes_okN (Nat.le_of_ble_eq_true rfl) (by simp only [lensB, lensC]; omega)) | fail)) ?_
 | refine nilB_intro (fun h => ?_) ?_
 | refine side_and (side_of (map_len (fun _ => rfl))) ?_
 | refine side_and (side_of (map_one (fun _ => rfl) _)) ?_
 | fail
  all_goals
    conv => whnf
    first
    | exact OutA_ids rfl rfl rfl ⟨⟨_, _, _, rfl, rfl⟩, trivial⟩ rfl (.inr (flat_one (flat_map (fun _ => rfl) _)))
    | exact OutA_nil 2 1 92 2 rfl rfl (by decide) (OutA_ids rfl rfl rfl ⟨⟨_, _, _, rfl, congrArg (AObj.mk false _ _) (map_nil_of (by assumption))⟩, trivial⟩ rfl (.inr (flat_one (flat_map (fun _ => rfl) _))))
def lenLead (g : GroupT) : Nat := match g.Reps[g.Lead.toNat]? with | some y => y.Log.length | none => 0
def okPut (g : GroupT) (r : RecT) : Bool := okGroup g && (decide (0 ≤ g.Lead) && (decide (lenLead g < 60) && okRec r))
def putE (g : GroupT) (r : RecT) (y : ReplicaT) : ReplicaT := { y with Log := y.Log ++ [⟨g.Term, r⟩] }
def putN (g : GroupT) (r : RecT) : GroupT := ⟨setRep g g.Lead (putE g r), g.Term, g.Lead⟩
def putR (g : GroupT) (r : RecT) : GroupT := resG (okPut g r) (putN g r)
theorem ix_setG {L : List (List AV)} {e : List AV} {n : Nat} {Q : List AV → Prop} (h : n < L.length) (hQ : Q e) : ∃ e', (L.set n e)[n]? = some e' ∧ Q e' := ⟨e, by simp [h], hQ⟩
theorem lead_side {g : GroupT} (h : okGroup g = true) (h0 : ¬ g.Lead < 0) : 0 ≤ g.Lead ∧ g.Lead < ((g.Reps.map ReplicaT.cells).length : Int) := by
  have := okLead_lt h h0
  rw [List.length_map]
  omega
theorem putR_yes {g : GroupT} {r : RecT} (h : okPut g r = true) : putR g r = putN g r := by rw [putR, resG_yes h]
theorem putR_no {g : GroupT} {r : RecT} (h : okPut g r = false) : putR g r = ⟨[], 0, 0⟩ := by rw [putR, resG_no h]; rfl
theorem lenLead_of {g : GroupT} {y : ReplicaT} (hy : g.Reps[g.Lead.toNat]? = some y) : lenLead g = y.Log.length := by unfold lenLead; rw [hy]
theorem okG_log {g : GroupT} {l : ReplicaT} (h : okGroup g = true) (hl : l ∈ g.Reps) : l.Log.length ≤ 60 := by
  unfold okGroup at h
  simp only [Bool.and_eq_true, List.all_eq_true] at h
  have h2 := h.2 l hl
  unfold okRep at h2
  simp only [Bool.and_eq_true] at h2
  have h3 := h2.1
  unfold okLog at h3
  simp only [Bool.and_eq_true, decide_eq_true_eq] at h3
  omega
theorem lenLead_60 {g : GroupT} {y : ReplicaT} (hg : okGroup g = true) (hy : g.Reps[g.Lead.toNat]? = some y) : y.Log.length ≤ 60 := okG_log hg (List.mem_of_getElem? hy)
theorem okPut_yes {g : GroupT} {r : RecT} {y : ReplicaT} (h1 : okGroup g = true) (h2 : ¬ g.Lead < 0) (hy : g.Reps[g.Lead.toNat]? = some y) (h3 : ¬ (y.Log.length : Int) = 60) (h4 : okRec r = true) : okPut g r = true := by
  have := lenLead_60 h1 hy
  unfold okPut
  rw [h1, h4, lenLead_of hy, decide_eq_true (show 0 ≤ g.Lead by omega), decide_eq_true (show y.Log.length < 60 by omega)]
  rfl
theorem okPut_no1 {g : GroupT} {r : RecT} (h : okGroup g = false ∨ g.Lead < 0 ∨ okRec r = false) : okPut g r = false := by
  unfold okPut
  rcases h with h | h | h
  · rw [h]; rfl
  · rw [decide_eq_false (show ¬ 0 ≤ g.Lead by omega)]; simp
  · rw [h]; simp
theorem okPut_no2 {g : GroupT} {r : RecT} {y : ReplicaT} (hy : g.Reps[g.Lead.toNat]? = some y) (h3 : (y.Log.length : Int) = 60 ∨ (y.Log.length : Int) ≥ 60) : okPut g r = false := by
  unfold okPut
  rw [lenLead_of hy, decide_eq_false (show ¬ y.Log.length < 60 by omega)]
  simp
theorem put_cells {g : GroupT} {r : RecT} {y : ReplicaT} {c c0 : List AV} (hy : g.Reps[g.Lead.toNat]? = some y) (hc : c = (putE g r y).cells) : ((g.Reps.map ReplicaT.cells).set g.Lead.toNat c0).set g.Lead.toNat c = (putN g r).Reps.map ReplicaT.cells := by
  rw [List.set_set]
  exact setRep_cells (f := putE g r) hy hc
theorem putE_cells {g : GroupT} {r : RecT} {y : ReplicaT} {L : List (List AV)} (hL : L = y.Log.map EntryT.cells ++ [(⟨g.Term, r⟩ : EntryT).cells]) : [AV.bool y.Up, .sl L, .int .i64 y.Sure] = (putE g r y).cells := by
  rw [hL]
  unfold putE ReplicaT.cells
  simp only [List.map_append, List.map_cons, List.map_nil]
theorem c_impl_PutEntry (g : GroupT) (r : RecT) (hok : g.ok) (hw : GB g) (rok : r.ok) (h1r : r.Reads.length ≤ 1048576) (h2r : r.Writes.length ≤ 1048576) : PC Tryz.prog false 105 [.agg g.cells, .agg r.cells] (.tup [.agg [.own 0, .int .i64 (putR g r).Term, .int .i64 (putR g r).Lead], .bool (okPut g r)]) [⟨.deep ReplicaT.shp, 90, 3, (putR g r).Reps.map ReplicaT.cells⟩] := by
  have hl := reps_len hw
  refine pc_at Tryz.func105 rfl (by kernel_rfl) 55 [.cell 4 38, .tmp 5] rfl rfl ?_
  repeat' (conv => whnf); first
 | (show Go.Ab.drawA _ _ _ _ _; refine draw_exp (.take 0 (.take 1 (.take 2 (.take 3 (.take 5 (.fork 4 (.fork 6 (.fork 7 (.fork 8 (.fork 9 (.fork 10 (.fork 11 (.take 12 (.take 13 (.fork 14 (.done) (.stop)))) (.stop)) (.stop)) (.stop)) (.stop)) (.stop)) (.fork 7 (.fork 6 (.fork 8 (.fork 9 (.fork 10 (.fork 11 (.take 12 (.take 13 (.fork 14 (.done) (.stop)))) (.stop)) (.stop)) (.stop)) (.stop)) (.fork 8 (.fork 6 (.fork 9 (.fork 10 (.fork 11 (.take 12 (.take 13 (.fork 14 (.done) (.stop)))) (.stop)) (.stop)) (.stop)) (.stop)) (.stop))) (.stop))) (.fork 6 (.fork 4 (.fork 7 (.fork 8 (.fork 9 (.fork 10 (.fork 11 (.take 12 (.take 13 (.fork 14 (.done) (.stop)))) (.stop)) (.stop)) (.stop)) (.stop)) (.stop)) (.fork 7 (.fork 4 (.fork 8 (.fork 9 (.fork 10 (.fork 11 (.take 12 (.take 13 (.fork 14 (.done) (.stop)))) (.stop)) (.stop)) (.stop)) (.stop)) (.fork 8 (.fork 4 (.fork 9 (.fork 10 (.fork 11 (.take 12 (.take 13 (.fork 14 (.done) (.stop)))) (.stop)) (.stop)) (.stop)) (.fork 9 (.fork 4 (.fork 10 (.fork 11 (.take 12 (.take 13 (.fork 14 (.done) (.stop)))) (.stop)) (.stop)) (.fork 10 (.fork 4 (.fork 11 (.take 12 (.take 13 (.fork 14 (.done) (.stop)))) (.stop)) (.stop)) (.stop))) (.stop))) (.stop))) (.stop))) (.fork 7 (.fork 4 (.fork 6 (.fork 8 (.fork 9 (.fork 10 (.fork 11 (.take 12 (.take 13 (.fork 14 (.done) (.stop)))) (.stop)) (.stop)) (.stop)) (.stop)) (.fork 8 (.fork 6 (.fork 9 (.fork 10 (.fork 11 (.take 12 (.take 13 (.fork 14 (.done) (.stop)))) (.stop)) (.stop)) (.stop)) (.stop)) (.stop))) (.fork 6 (.fork 4 (.fork 8 (.fork 9 (.fork 10 (.fork 11 (.take 12 (.take 13 (.fork 14 (.done) (.stop)))) (.stop)) (.stop)) (.stop)) (.stop)) (.fork 8 (.fork 4 (.fork 9 (.fork 10 (.fork 11 (.take 12 (.take 13 (.fork 14 (.done) (.stop)))) (.stop)) (.stop)) (.stop)) (.fork 9 (.fork 4 (.fork 10 (.fork 11 (.take 12 (.take 13 (.fork 14 (.done) (.stop)))) (.stop)) (.stop)) (.fork 10 (.fork 4 (.fork 11 (.take 12 (.take 13 (.fork 14 (.done) (.stop)))) (.stop)) (.stop)) (.stop))) (.stop))) (.stop))) (.fork 8 (.fork 4 (.fork 6 (.fork 9 (.fork 10 (.fork 11 (.take 12 (.take 13 (.fork 14 (.done) (.stop)))) (.stop)) (.stop)) (.stop)) (.stop)) (.fork 6 (.fork 4 (.fork 9 (.fork 10 (.fork 11 (.take 12 (.take 13 (.fork 14 (.done) (.stop)))) (.stop)) (.stop)) (.stop)) (.fork 9 (.fork 4 (.fork 10 (.fork 11 (.take 12 (.take 13 (.fork 14 (.done) (.stop)))) (.stop)) (.stop)) (.fork 10 (.fork 4 (.fork 11 (.take 12 (.take 13 (.fork 14 (.done) (.stop)))) (.stop)) (.stop)) (.stop))) (.stop))) (.stop))) (.stop)))) (.stop))))))))) (by kernel_rfl) (by kernel_rfl) (by kernel_rfl) ?_)
 | refine ix_ownat (f := ReplicaT.cells) (xs := g.Reps) hy ?_
 | refine ix_setG (L := g.Reps.map ReplicaT.cells) (by rw [List.length_map]; exact (okLead_lt (by assumption) (by assumption)).2) ?_
 | exact side_of (lead_side (by assumption) (by assumption))
 | refine ix_own (f := ReplicaT.cells) (xs := g.Reps) (okLead_lt (by assumption) (by assumption)).2 (fun y hy => ?_)
 | (refine nameB_cases (b := okGroup g) (fun h => ?_) (fun h => ?_))
 | refine nameB_true ?_
 | refine nameB_false ?_
 | (refine nameB_dec (fun h => ?_) (fun h => ?_) <;> try simp only [lensB] at h)
 | (refine nameB_cases (fun h => ?_) (fun h => ?_) <;> try simp only [nmL, lensB] at h)
 | refine splitB_true ?_
 | refine splitB_false ?_
 | refine both_intro ?_ ?_
 | exact True.intro
 | refine Call0 (c_impl_GoodGroup g hok hw) rfl rfl ?_
 | refine CallF (c_impl_copyGroup g hw) rfl rfl rfl (Nat.le_of_ble_eq_true rfl) ?_
 | refine Call0 (c_impl_GoodRec r rok h2r h1r) rfl rfl ?_
 | refine CallF (c_impl_copyRec r h1r h2r) rfl rfl rfl (Nat.le_of_ble_eq_true rfl) ?_
 | (refine hook_appC true rfl rfl rfl rfl rfl rfl (by rw [List.getElem?_map, hy]; rfl) ?_)
 | refine side_and (side_of (by first | exact ⟨Nat.le_of_ble_eq_true rfl, rfl⟩ | fail)) ?_
 | refine side_and (side_of (by first | exact Nat.le_of_ble_eq_true rfl | exact rfl | omega | fail)) ?_
 | refine side_and (side_of (by first | (and_intros <;> first | rfl | omega | exact Nat.le_of_ble_eq_true rfl) | fail)) ?_
 | refine side_and ?_ ?_
 | refine LoadD_cel rfl rfl rfl rfl ?_
 | refine StoreD_of rfl rfl rfl ?_
 | refine BuildD_of EntryT.shp rfl rfl rfl ?_
 | refine AppD_of rfl (by and_intros <;> first | rfl | decide) (deep_app (L := y.Log.map EntryT.cells) rfl rfl (by rw [List.length_map]; have := wL_len (w := EntryT.w) (xs := y.Log); have := rep_logS hw hy; omega) (Nat.le_of_ble_eq_true rfl)) ?_
 | fail
  all_goals
    conv => whnf
    first
    | (have e := okPut_yes (by assumption) (by assumption) hy (by assumption) (by assumption)
       rw [putR_yes e, e]
       exact OutA_deep rfl rfl rfl ⟨⟨congrArg (fun e => some (AObj.mk _ _ _ e)) (put_cells hy (putE_cells rfl)), rfl⟩, trivial⟩ rfl)
    | (have e : okPut g r = false := (by first | exact okPut_no1 (by first | exact .inl (by assumption) | exact .inr (.inl (by assumption)) | exact .inr (.inr (by assumption))) | exact okPut_no2 hy (by first | exact .inl (by assumption) | exact .inr (by assumption)))
       rw [putR_no e, e]
       refine OutA_nilB 32 1 90 3 0 rfl rfl rfl (by decide) ?_
       refine OutA_prom [(1, ReplicaT.shp)] ⟨⟨_, _, _, rfl, prom_nil⟩, trivial⟩ ?_
       conv => whnf
       exact OutA_deep rfl rfl rfl ⟨⟨rfl, rfl⟩, trivial⟩ rfl)
theorem c_spec_l9OwnLogD (xs : List EntryT) (hl : xs.length ≤ 1048576) (hb : ∀ x ∈ xs, x.Rec.Reads.length ≤ 1048576 ∧ x.Rec.Writes.length ≤ 1048576) : PC Tryz.prog false 120 [.sl (xs.map EntryT.cells)] (.own 0) [⟨.deep EntryT.shp, 124, 8, xs.map EntryT.cells⟩] := by
  refine pc_at Tryz.func120 rfl (by kernel_rfl) 36 [.tmp 2] rfl rfl ?_
  repeat' (conv => whnf); first
 | refine eitherB_r ⟨by and_intros <;> first | rfl | decide, BuildD_prom [(24640, [.leaf]), (28736, WriteT.shp)] ⟨⟨_, _, _, rfl, prom_map (fun _ => rfl)⟩, ⟨_, _, _, rfl, prom_map (fun _ => rfl)⟩, trivial⟩ EntryT.shp rfl rfl rfl ?_⟩
 | exact side_of (big_mapS (f := strC) (hb x (List.mem_of_getElem? hx)).1 (Nat.le_of_ble_eq_true rfl))
 | exact side_of (big_mapS (f := WriteT.cells) (hb x (List.mem_of_getElem? hx)).2 (Nat.le_of_ble_eq_true rfl))
 | (refine nameB_dec (fun h => ?_) (fun h => ?_) <;> try simp only [lensB] at h)
 | refine splitB_true ?_
 | refine splitB_false ?_
 | ((refine Loop_nil 3 1 124 8 rfl rfl (by decide) ?_; refine Loop_prom [(1, EntryT.shp)] ⟨⟨_, _, _, rfl, by first | exact prom_nil | exact prom_rep rfl | exact prom_map (fun _ => rfl) | exact prom_one rfl⟩, trivial⟩ ?_; refine Loop_at [0] [] (Nat) (fun k => True ∧ k ≤ xs.length) (fun k => [(3, .own 1), (4, .int .i64 (k : Nat))]) (fun k => [(1, ⟨.deep EntryT.shp, 124, 8, (xs.take k).map EntryT.cells⟩)]) (fun k => xs.length - k) 0 ⟨by first | rfl | (simp_all <;> fail) | fail, by first | (simp_all <;> fail) | rfl | fail, trivial⟩ ⟨by first | rfl | exact congrArg (fun e => some (AObj.mk _ _ _ e)) (app_snoc hx rfl) | fail | fail, trivial⟩ (by (try dsimp only); first | trivial | (refine ⟨?_, by omega⟩; simp <;> fail) | (simp <;> fail) | fail) ?_; (conv => whnf); refine side_and (side_of (by first | exact fun k => rfl | exact fun k => by simp [headOk, closedE, closedO, closedL, AV.closed, hcap.closed, hasId, AObj.box, BK.ofB])) ?_; rintro k hT; try dsimp only at hT))
 | (refine Again_of (k + 1) ⟨by first | rfl | (simp_all <;> fail) | fail, by first | rfl | exact i64_next (by omega) | (simp_all <;> fail) | fail, trivial⟩ ⟨by first | rfl | exact congrArg (fun e => some (AObj.mk _ _ _ e)) (app_snoc hx rfl) | fail | fail, trivial⟩ (by first | (and_intros <;> first | rfl | trivial) | fail) (by first | (and_intros <;> first | rfl | trivial) | fail) rfl rfl rfl (by (try dsimp only); first | (exact ⟨trivial, by omega⟩) | fail) (show _ < _ by (try dsimp only); omega))
 | (refine ix_map (by omega) (by (try simp only [List.length_take]); omega) (fun x hx => ?_); try simp only [Int.toNat_natCast] at hx)
 | refine side_and (side_of (by first | exact ⟨Nat.le_of_ble_eq_true rfl, rfl⟩ | fail)) ?_
 | refine side_and (side_of (by first | exact Nat.le_of_ble_eq_true rfl | exact rfl | omega | fail)) ?_
 | refine side_and (side_of (by first | (and_intros <;> first | rfl | omega | exact Nat.le_of_ble_eq_true rfl) | fail)) ?_
 | refine side_and (side_of (map_len (fun _ => rfl))) ?_
 | refine side_and (side_of (map_one (fun _ => rfl) _)) ?_
 | refine side_and ?_ ?_
 | refine AppD_of rfl (by and_intros <;> first | rfl | decide) (deep_app (L := (xs.take k).map EntryT.cells) rfl rfl (by rw [List.length_map, List.length_take]; omega) (Nat.le_of_ble_eq_true rfl)) ?_
 | fail
  all_goals
    conv => whnf
    exact OutA_deep rfl rfl rfl ⟨⟨congrArg (fun e => some (AObj.mk _ _ _ e)) (full_take (by omega)), rfl⟩, trivial⟩ rfl
theorem log_ents {l : List EntryT} (hw : wL EntryT.w l ≤ 1048576) : l.length ≤ 1048576 ∧ ∀ x ∈ l, x.Rec.Reads.length ≤ 1048576 ∧ x.Rec.Writes.length ≤ 1048576 :=
  ⟨Nat.le_trans wL_len hw, fun x hx => by
    have h := ent_len (Nat.le_trans (wL_mem hx).2 hw)
    exact ⟨h.2, h.1⟩⟩
theorem c_spec_l9OwnD (g : GroupT) (hw : GB g) : PC Tryz.prog false 69 [.agg g.cells] (.agg [.own 0, .int .i64 g.Term, .int .i64 g.Lead]) [⟨.deep ReplicaT.shp, 90, 3, g.Reps.map ReplicaT.cells⟩] := by
  have hl := reps_len hw
  refine pc_at Tryz.func69 rfl (by kernel_rfl) 44 [.cell 2 38] rfl rfl ?_
  repeat' (conv => whnf); first
 | (show Go.Ab.drawA _ _ _ _ _; refine draw_exp (.take 0 (.take 2 (.take 4 (.take 8 (.take 10 (.take 15 (.take 17 (.late 22 [1] [3, 5, 6, 7, 9, 11, 12, 13, 14, 16, 18, 19, 20, 21] (.lend 1 (.lstop (.fork 22 (.fork 23 (.take 24 (.fork 25 (.done) (.stop))) (.stop)) (.stop))) (.lstop (.fork 1 (.fork 22 (.fork 23 (.take 24 (.fork 25 (.done) (.stop))) (.stop)) (.stop)) (.fork 22 (.fork 1 (.fork 23 (.take 24 (.fork 25 (.done) (.stop))) (.stop)) (.stop)) (.stop))))))))))))) (by kernel_rfl) (by kernel_rfl) (by kernel_rfl) ?_)
 | refine nameB_self (b := x.Up) ?_
 | (refine nameB_dec (fun h => ?_) (fun h => ?_) <;> try simp only [lensB] at h)
 | refine splitB_true ?_
 | refine splitB_false ?_
 | refine both_intro ?_ ?_
 | exact True.intro
 | ((refine Loop_nilB 4192 1 90 3 0 rfl rfl rfl (by decide) ?_; refine Loop_prom [(1, ReplicaT.shp)] ⟨⟨_, _, _, rfl, by first | exact prom_nil | exact prom_rep rfl | exact prom_map (fun _ => rfl) | exact prom_one rfl⟩, trivial⟩ ?_; refine Loop_at [1, 2, 3] [0, 16] (Nat) (fun k => True ∧ k ≤ g.Reps.length) (fun k => [(4, .int .i64 (k : Nat))]) (fun k => [(4192, ⟨true, 38, 3, [[.own 1, .int .i64 g.Term, .int .i64 g.Lead]]⟩), (1, ⟨.deep ReplicaT.shp, 90, 3, (g.Reps.take k).map ReplicaT.cells⟩)]) (fun k => g.Reps.length - k) 0 ⟨by first | (simp_all <;> fail) | rfl | fail, trivial⟩ ⟨by first | rfl | exact congrArg (fun e => some (AObj.mk _ _ _ e)) (app_snoc hx rfl) | fail | fail, by first | rfl | exact congrArg (fun e => some (AObj.mk _ _ _ e)) (app_snoc hx rfl) | fail | fail, trivial⟩ (by (try dsimp only); first | trivial | (refine ⟨?_, by omega⟩; simp <;> fail) | (simp <;> fail) | fail) ?_; (conv => whnf); refine side_and (side_of (by first | exact fun k => rfl | exact fun k => by simp [headOk, closedE, closedO, closedL, AV.closed, hcap.closed, hasId, AObj.box, BK.ofB])) ?_; rintro k hT; try dsimp only at hT))
 | (refine Again_of (k + 1) ⟨by first | rfl | exact i64_next (by omega) | (simp_all <;> fail) | fail, trivial⟩ ⟨by first | rfl | exact congrArg (fun e => some (AObj.mk _ _ _ e)) (app_snoc hx rfl) | fail | fail, by first | rfl | exact congrArg (fun e => some (AObj.mk _ _ _ e)) (app_snoc hx rfl) | fail | fail, trivial⟩ (by first | (and_intros <;> first | rfl | trivial) | fail) (by first | (and_intros <;> first | rfl | trivial) | fail) rfl rfl rfl (by (try dsimp only); first | (exact ⟨trivial, by omega⟩) | fail) (show _ < _ by (try dsimp only); omega))
 | refine CallDF (c_spec_l9OwnLogD x.Log (log_ents (rep_logS hw hx)).1 (log_ents (rep_logS hw hx)).2) rfl rfl ⟨rfl, rfl⟩ ?_
 | refine ix_map_at hx ?_
 | (refine ix_map (by omega) (by (try simp only [List.length_take]); omega) (fun x hx => ?_); try simp only [Int.toNat_natCast] at hx)
 | refine side_and (side_of (by first | exact ⟨Nat.le_of_ble_eq_true rfl, rfl⟩ | fail)) ?_
 | refine side_and (side_of (by first | exact Nat.le_of_ble_eq_true rfl | exact rfl | omega | fail)) ?_
 | refine side_and (side_of (by first | (and_intros <;> first | rfl | omega | exact Nat.le_of_ble_eq_true rfl) | fail)) ?_
 | refine LoadK_of rfl rfl ?_
 | refine BuildD_of ReplicaT.shp rfl rfl rfl ?_
 | refine AppD_of rfl (by and_intros <;> first | rfl | decide) (deep_app (L := (g.Reps.take k).map ReplicaT.cells) rfl rfl (by rw [List.length_map, List.length_take]; omega) (Nat.le_of_ble_eq_true rfl)) ?_
 | fail
  all_goals
    conv => whnf
    exact OutA_deep rfl rfl rfl ⟨⟨congrArg (fun e => some (AObj.mk _ _ _ e)) (full_take (by omega)), rfl⟩, trivial⟩ rfl
theorem c_spec_GoodRec (r : RecT) (rok : r.ok) (h1 : r.Reads.length ≤ 1048576) (h2 : r.Writes.length ≤ 1048576) : PC Tryz.prog false 97 [.agg r.cells] (.bool (okRec r)) [] := by
  refine pc_at Tryz.func97 rfl (by kernel_rfl) 5 [.tmp 2] rfl rfl ?_
  repeat' (conv => whnf); first
 | refine nameB_self (b := okRec r) ?_
 | refine Call0 (c_spec_l4Good r rok h2 h1) rfl rfl ?_
 | refine side_and (side_of (by first | exact Nat.le_of_ble_eq_true rfl | exact rfl | omega | fail)) ?_
 | fail
  all_goals
    conv => whnf
    exact OutA_plain rfl rfl rfl
theorem okPut_no3 {g : GroupT} {r : RecT} {y : ReplicaT} (hy : g.Reps[g.Lead.toNat]? = some y) (h3 : (y.Log.length : Int) ≥ 60) : okPut g r = false := okPut_no2 hy (.inr h3)
theorem put_ents {g : GroupT} {r : RecT} {y : ReplicaT} (hw : GB g) (hy : g.Reps[g.Lead.toNat]? = some y) (h1 : r.Reads.length ≤ 1048576) (h2 : r.Writes.length ≤ 1048576) : ∀ x ∈ y.Log ++ [(⟨g.Term, r⟩ : EntryT)], x.Rec.Reads.length ≤ 1048576 ∧ x.Rec.Writes.length ≤ 1048576 := fun x hx => by
  rcases List.mem_append.1 hx with h | h
  · exact (log_ents (rep_logS hw hy)).2 x h
  · rw [List.mem_singleton] at h
    subst h
    exact ⟨h1, h2⟩
theorem c_spec_PutEntryD (g : GroupT) (r : RecT) (hok : g.ok) (hw : GB g) (rok : r.ok) (h1r : r.Reads.length ≤ 1048576) (h2r : r.Writes.length ≤ 1048576) : PC Tryz.prog false 77 [.agg g.cells, .agg r.cells] (.tup [.agg [.own 0, .int .i64 (putR g r).Term, .int .i64 (putR g r).Lead], .bool (okPut g r)]) [⟨.deep ReplicaT.shp, 90, 3, (putR g r).Reps.map ReplicaT.cells⟩] := by
  have hl := reps_len hw
  refine pc_at Tryz.func77 rfl (by kernel_rfl) 55 [.cell 4 38, .tmp 5] rfl rfl ?_
  repeat' (conv => whnf); first
 | (show Go.Ab.drawA _ _ _ _ _; refine draw_exp (.take 0 (.take 2 (.take 4 (.take 6 (.take 11 (.late 16 [1, 3] [5, 7, 8, 9, 10, 12, 13, 14, 15] (.lend 1 (.lend 3 (.lstop (.fork 16 (.fork 17 (.fork 18 (.take 19 (.fork 20 (.done) (.stop))) (.stop)) (.stop)) (.stop))) (.lstop (.fork 3 (.fork 16 (.fork 17 (.fork 18 (.take 19 (.fork 20 (.done) (.stop))) (.stop)) (.stop)) (.stop)) (.fork 16 (.fork 3 (.fork 17 (.fork 18 (.take 19 (.fork 20 (.done) (.stop))) (.stop)) (.stop)) (.fork 17 (.fork 3 (.fork 18 (.take 19 (.fork 20 (.done) (.stop))) (.stop)) (.stop)) (.stop))) (.stop))))) (.lend 3 (.lend 1 (.lstop (.fork 16 (.fork 17 (.fork 18 (.take 19 (.fork 20 (.done) (.stop))) (.stop)) (.stop)) (.stop))) (.lstop (.fork 1 (.fork 16 (.fork 17 (.fork 18 (.take 19 (.fork 20 (.done) (.stop))) (.stop)) (.stop)) (.stop)) (.fork 16 (.fork 1 (.fork 17 (.fork 18 (.take 19 (.fork 20 (.done) (.stop))) (.stop)) (.stop)) (.fork 17 (.fork 1 (.fork 18 (.take 19 (.fork 20 (.done) (.stop))) (.stop)) (.stop)) (.stop))) (.stop))))) (.lstop (.fork 1 (.fork 3 (.fork 16 (.fork 17 (.fork 18 (.take 19 (.fork 20 (.done) (.stop))) (.stop)) (.stop)) (.stop)) (.fork 16 (.fork 3 (.fork 17 (.fork 18 (.take 19 (.fork 20 (.done) (.stop))) (.stop)) (.stop)) (.fork 17 (.fork 3 (.fork 18 (.take 19 (.fork 20 (.done) (.stop))) (.stop)) (.stop)) (.stop))) (.stop))) (.fork 3 (.fork 1 (.fork 16 (.fork 17 (.fork 18 (.take 19 (.fork 20 (.done) (.stop))) (.stop)) (.stop)) (.stop)) (.fork 16 (.fork 1 (.fork 17 (.fork 18 (.take 19 (.fork 20 (.done) (.stop))) (.stop)) (.stop)) (.fork 17 (.fork 1 (.fork 18 (.take 19 (.fork 20 (.done) (.stop))) (.stop)) (.stop)) (.stop))) (.stop))) (.fork 16 (.fork 1 (.fork 3 (.fork 17 (.fork 18 (.take 19 (.fork 20 (.done) (.stop))) (.stop)) (.stop)) (.fork 17 (.fork 3 (.fork 18 (.take 19 (.fork 20 (.done) (.stop))) (.stop)) (.stop)) (.stop))) (.fork 3 (.fork 1 (.fork 17 (.fork 18 (.take 19 (.fork 20 (.done) (.stop))) (.stop)) (.stop)) (.fork 17 (.fork 1 (.fork 18 (.take 19 (.fork 20 (.done) (.stop))) (.stop)) (.stop)) (.stop))) (.fork 17 (.fork 1 (.fork 3 (.fork 18 (.take 19 (.fork 20 (.done) (.stop))) (.stop)) (.stop)) (.fork 3 (.fork 1 (.fork 18 (.take 19 (.fork 20 (.done) (.stop))) (.stop)) (.stop)) (.stop))) (.stop)))) (.stop))))))))))))) (by kernel_rfl) (by kernel_rfl) (by kernel_rfl) ?_)
 | refine ix_setG (L := g.Reps.map ReplicaT.cells) (by rw [List.length_map]; exact (okLead_lt (by assumption) (by assumption)).2) ?_
 | refine ix_ownat (f := ReplicaT.cells) (xs := g.Reps) hy ?_
 | exact side_of (lead_side (by assumption) (by assumption))
 | refine ix_own (f := ReplicaT.cells) (xs := g.Reps) (okLead_lt (by assumption) (by assumption)).2 (fun y hy => ?_)
 | refine side_and (side_of (deep_app (L := y.Log.map EntryT.cells) rfl rfl (by rw [List.length_map]; have := lenLead_60 (by assumption) hy; omega) (Nat.le_of_ble_eq_true rfl))) ?_
 | exact side_of (by have q := lead_side (g := g) (by assumption) (by assumption); refine ⟨q.1, ?_⟩; show _ < ((List.set _ _ _).length : Int); rw [List.length_set]; exact q.2)
 | exact side_of (fun z hz => (congrArg List.length (List.mem_singleton.1 hz)).trans rfl)
 | exact side_of (by first | (and_intros <;> first | rfl | (intro e; exact absurd (AV.own.inj e) (Nat.ne_of_beq_eq_false rfl)) | fail) | fail)
 | (refine nameB_cases (b := okGroup g) (fun h => ?_) (fun h => ?_))
 | (refine nameB_cases (b := okRec r) (fun h => ?_) (fun h => ?_))
 | refine nameB_true ?_
 | refine nameB_false ?_
 | (refine nameB_dec (fun h => ?_) (fun h => ?_) <;> try simp only [lensB] at h)
 | refine splitB_true ?_
 | refine splitB_false ?_
 | refine both_intro ?_ ?_
 | exact True.intro
 | refine Call0 (c_spec_GoodGroup g hok hw) rfl rfl ?_
 | refine Call0 (c_spec_GoodRec r rok h1r h2r) rfl rfl ?_
 | refine CallF (c_spec_l9OwnD g hw) rfl rfl rfl (Nat.le_of_ble_eq_true rfl) ?_
 | refine CallF (c_spec_l9OwnLogD (y.Log ++ [(⟨g.Term, r⟩ : EntryT)]) (by have := lenLead_60 (by assumption) hy; rw [List.length_append]; simp; omega) (put_ents hw hy h1r h2r)) (congrArg (fun z => [AV.sl z]) (List.map_append (l₁ := y.Log) (l₂ := [(⟨g.Term, r⟩ : EntryT)]) (f := EntryT.cells)).symm) rfl rfl (Nat.le_of_ble_eq_true rfl) ?_
 | (refine hook_appC false rfl rfl rfl rfl rfl rfl (by rw [List.getElem?_map, hy]; rfl) ?_)
 | refine side_and (side_of (by first | exact ⟨Nat.le_of_ble_eq_true rfl, rfl⟩ | fail)) ?_
 | refine side_and (side_of (by first | exact Nat.le_of_ble_eq_true rfl | exact rfl | omega | fail)) ?_
 | refine side_and (side_of (by first | (and_intros <;> first | rfl | omega | exact Nat.le_of_ble_eq_true rfl) | fail)) ?_
 | refine side_and ?_ ?_
 | refine StoreD_of rfl rfl rfl ?_
 | refine LoadR_cel rfl rfl rfl rfl ?_
 | fail
  all_goals
    conv => whnf
    first
    | (have e := okPut_yes (by assumption) (by assumption) hy (by omega) (by assumption)
       rw [putR_yes e, e]
       exact OutA_deep rfl rfl rfl ⟨⟨congrArg (fun e => some (AObj.mk _ _ _ e)) (put_cells hy (putE_cells (by rw [List.map_append]; rfl))), rfl⟩, trivial⟩ rfl)
    | (have e : okPut g r = false := (by first | exact okPut_no1 (by first | exact .inl (by assumption) | exact .inr (.inl (by assumption)) | exact .inr (.inr (by assumption))) | exact okPut_no3 hy (by assumption))
       rw [putR_no e, e]
       refine OutA_nilB 32 1 90 3 0 rfl rfl rfl (by decide) ?_
       refine OutA_prom [(1, ReplicaT.shp)] ⟨⟨_, _, _, rfl, prom_nil⟩, trivial⟩ ?_
       conv => whnf
       exact OutA_deep rfl rfl rfl ⟨⟨rfl, rfl⟩, trivial⟩ rfl)
def startR (g : GroupT) (r : Int) : GroupT := resG (okUp g r false) ⟨setRep g r fun y => { y with Up := true }, g.Term, g.Lead⟩
theorem startR_yes {g : GroupT} {r : Int} (h : okUp g r false = true) : startR g r = ⟨setRep g r fun y => { y with Up := true }, g.Term, g.Lead⟩ := by rw [startR, resG_yes h]
theorem startR_no {g : GroupT} {r : Int} (h : okUp g r false = false) : startR g r = ⟨[], 0, 0⟩ := by rw [startR, resG_no h]; rfl
theorem downI {g : GroupT} {r : Int} (h1 : okGroup g = true) (h2 : isRep g r = true) (h3 : upAt g r = false) : okUp g r false = true := by unfold okUp; rw [h1, h2, h3]; rfl
theorem downI_no {g : GroupT} {r : Int} (h : okGroup g = false ∨ isRep g r = false ∨ upAt g r = true) : okUp g r false = false := by
  unfold okUp
  rcases h with h | h | h <;> simp [h]
theorem c_spec_StartRep (g : GroupT) (r : Int) (hok : g.ok) (hw : GB g) : PC Tryz.prog true 90 [.agg g.cells, .int .i64 r] (.tup [.agg (startR g r).cells, .bool (okUp g r false)]) [] := by
  have hl := reps_len hw
  refine pc_at Tryz.func90 rfl (by kernel_rfl) 20 [.cell 4 38, .tmp 5] rfl rfl ?_
  repeat' (conv => whnf); first
 | exact side_of (okUp_side (b := false) (by assumption))
 | refine ix_own (f := ReplicaT.cells) (xs := g.Reps) (okUp_lt (b := false) (by assumption)).2 (fun y hy => ?_)
 | (refine nameB_cases (b := okUp g r false) (fun h => ?_) (fun h => ?_))
 | refine nameB_true ?_
 | refine nameB_false ?_
 | refine splitB_true ?_
 | refine splitB_false ?_
 | refine Call0 (c_spec_l9Up g r false hok hw) rfl rfl ?_
 | refine CallT (c_spec_l9Own g hw) rfl rfl rfl rfl (Nat.le_of_ble_eq_true rfl) ?_
 | refine side_and (side_of (by first | exact ⟨Nat.le_of_ble_eq_true rfl, rfl⟩ | fail)) ?_
 | refine side_and (side_of (by first | exact Nat.le_of_ble_eq_true rfl | exact rfl | omega | fail)) ?_
 | refine side_and (side_of (by first | (and_intros <;> first | rfl | omega | exact Nat.le_of_ble_eq_true rfl) | fail)) ?_
 | refine side_and ?_ ?_
 | fail
  all_goals
    conv => whnf
    first
    | (have h0 : okUp g r false = true := (by assumption); rw [h0, startR_yes h0]; refine OutA_frz [12304] ?_; (conv => whnf); exact OutA_plain rfl rfl (congrArg (fun e => AV.tup [.agg [.sl e, .int .i64 g.Term, .int .i64 g.Lead], .bool true]) (setRep_cells (f := fun y => { y with Up := true }) hy rfl)))
    | (have h0 : okUp g r false = false := (by assumption); rw [h0, startR_no h0]; refine OutA_nilB 16 1 90 3 0 rfl rfl rfl (by decide) ?_; refine OutA_frz [1] ?_; (conv => whnf); exact OutA_plain rfl rfl rfl)
theorem c_impl_StartRep (g : GroupT) (r : Int) (hok : g.ok) (hw : GB g) : PC Tryz.prog false 122 [.agg g.cells, .int .i64 r] (.tup [.agg [.own 0, .int .i64 (startR g r).Term, .int .i64 (startR g r).Lead], .bool (okUp g r false)]) [⟨.deep ReplicaT.shp, 90, 3, (startR g r).Reps.map ReplicaT.cells⟩] := by
  have hl := reps_len hw
  refine pc_at Tryz.func122 rfl (by kernel_rfl) 33 [.cell 4 38, .tmp 5] rfl rfl ?_
  repeat' (conv => whnf); first
 | refine ix_as (f := ReplicaT.cells) (m := r.toNat) (by have h9 := isRep_lt (g := g) (n := r) (by assumption); omega) (by have h9 := isRep_lt (g := g) (n := r) (by assumption); omega) (fun y hy => ?_)
 | exact side_of (isRep_side (by assumption))
 | refine ix_ownat (f := ReplicaT.cells) (xs := g.Reps) hy ?_
 | (refine nameB_cases (b := okGroup g) (fun h => ?_) (fun h => ?_))
 | (refine nameB_cases (b := isRep g r) (fun h => ?_) (fun h => ?_))
 | (refine nameB_cases (b := y.Up) (fun h => ?_) (fun h => ?_))
 | refine nameB_true ?_
 | refine nameB_false ?_
 | refine splitB_true ?_
 | refine splitB_false ?_
 | refine Call0 (c_impl_GoodGroup g hok hw) rfl rfl ?_
 | refine Call0 (c_impl_Group_isRep g r hw) rfl rfl ?_
 | refine CallF (c_impl_copyGroup g hw) rfl rfl rfl (Nat.le_of_ble_eq_true rfl) ?_
 | refine side_and (side_of (by first | exact ⟨Nat.le_of_ble_eq_true rfl, rfl⟩ | fail)) ?_
 | refine side_and (side_of (by first | exact Nat.le_of_ble_eq_true rfl | exact rfl | omega | fail)) ?_
 | refine side_and (side_of (by first | (and_intros <;> first | rfl | omega | exact Nat.le_of_ble_eq_true rfl) | fail)) ?_
 | refine side_and ?_ ?_
 | refine StoreD_of rfl rfl rfl ?_
 | fail
  all_goals
    (try have hyu := upAt_of hy)
    conv => whnf
    first
    | (have h0 : okUp g r false = true := downI (by assumption) (by assumption) (hyu.trans (by assumption)); rw [h0, startR_yes h0]; exact OutA_deep rfl rfl rfl ⟨⟨congrArg (fun e => some (AObj.mk _ _ _ e)) (setRep_cells (f := fun y => { y with Up := true }) hy rfl), rfl⟩, trivial⟩ rfl)
    | (have h0 : okUp g r false = false := downI_no (by first | exact .inl (by assumption) | exact .inr (.inl (by assumption)) | exact .inr (.inr (hyu.trans (by assumption)))); rw [h0, startR_no h0]; refine OutA_nilB 16 1 90 3 0 rfl rfl rfl (by decide) ?_; refine OutA_prom [(1, ReplicaT.shp)] ⟨⟨_, _, _, rfl, prom_nil⟩, trivial⟩ ?_; (conv => whnf); exact OutA_deep rfl rfl rfl ⟨⟨rfl, rfl⟩, trivial⟩ rfl)
theorem log_le {g : GroupT} {l : ReplicaT} {n : Nat} (hw : GB g) (h : g.Reps[n]? = some l) : l.Log.length ≤ 1048576 := Nat.le_trans (wL_len (w := EntryT.w)) (rep_w hw (List.mem_of_getElem? h))
theorem sl_tk {l : List EntryT} {m : Nat} : List.drop (Int.toNat 0) (List.take ((m : Int)).toNat (l.map EntryT.cells)) = (l.take m).map EntryT.cells := by
  rw [Int.toNat_natCast, List.map_take]
  rfl
theorem c_impl_Advance_1 (x l : ReplicaT) (m : Nat) (hx : okL EntryT.ok x.Log) (hm : m ≤ l.Log.length) (hll : l.Log.length ≤ 1048576) : PC Tryz.prog false 163 [.agg x.cells, .rp l.cells, .rp [.int .i64 (m : Nat)]] (.bool (preE x.Log (l.Log.take m))) [] := by
  refine pc_at Tryz.func163 rfl (by kernel_rfl) 12 [.tmp 4] rfl rfl ?_
  repeat' (conv => whnf); first
 | (refine nameB_cases (b := preE x.Log (l.Log.take m)) (fun h => ?_) (fun h => ?_))
 | refine draw_text (by kernel_rfl) (by kernel_rfl) (by kernel_rfl) ?_
 | (refine CallD0 (c_impl_hasPrefix x.Log (l.Log.take m) hx (by rw [List.length_take]; omega)) (congrArg (fun z => [AV.sl (x.Log.map EntryT.cells), AV.sl z]) sl_tk) rfl rfl ?_)
 | refine side_and (side_of (by first | exact Nat.le_of_ble_eq_true rfl | exact rfl | omega | fail)) ?_
 | refine side_and (side_of (by first | (and_intros <;> first | exact Nat.le_of_ble_eq_true rfl | rfl | omega | (simp only [lensB, lensC]; omega) | exact bytes_ok (Nat.le_of_ble_eq_true rfl) (by omega) (by simp only [lensB, lensC]; omega) | exact bytes_okN (Nat.le_of_ble_eq_true rfl) (by simp only [lensB, lensC]; omega)) | fail)) ?_
 | refine side_and (side_of (map_len (fun _ => rfl))) ?_
 | refine LoadK_of rfl rfl ?_
 | fail
  all_goals
    conv => whnf
    refine OutA_plain rfl rfl ?_
    first
    | rfl
    | exact congrArg AV.bool (Eq.symm (by assumption))
theorem cntR_all {g : GroupT} {q : ReplicaT → Bool} (hl : g.Reps.length ≤ 1048576) : IntKind.i64.wrap (2 * (cntR q g.Reps : Int)) = 2 * (cntR q g.Reps : Int) := by
  have := cntR_le (q := q) (l := g.Reps) (k := g.Reps.length)
  rw [List.take_of_length_le (Nat.le_refl _)] at this
  exact i64_wrap (by omega) (by omega)
theorem most_yes {g : GroupT} {q : ReplicaT → Bool} (hl : g.Reps.length ≤ 1048576) (h : IntKind.i64.wrap (2 * (cntR q g.Reps : Int)) > (g.Reps.length : Int)) : most g q = true := decide_eq_true (by rw [← cntR_all hl]; exact h)
theorem most_no {g : GroupT} {q : ReplicaT → Bool} (hl : g.Reps.length ≤ 1048576) (h : ¬ IntKind.i64.wrap (2 * (cntR q g.Reps : Int)) > (g.Reps.length : Int)) : most g q = false := decide_eq_false (by rw [← cntR_all hl]; exact h)
theorem c_impl_Advance (g : GroupT) (hok : g.ok) (hw : GB g) : PC Tryz.prog false 125 [.agg g.cells] (.tup [.agg [.own 0, .int .i64 (advR g).Term, .int .i64 (advR g).Lead], .bool (okAdv g)]) [⟨.deep ReplicaT.shp, 90, 3, (advR g).Reps.map ReplicaT.cells⟩] := by
  have hl := reps_len hw
  refine pc_at Tryz.func125 rfl (by kernel_rfl) 57 [.cell 2 38, .tmp 3] rfl rfl ?_
  repeat' (conv => whnf); first
 | refine ix_as (f := ReplicaT.cells) (n := g.Lead) (m := g.Lead.toNat) (by have h9 := okLead_lt (g := g) (by assumption) (by assumption); omega) (by have h9 := okLead_lt (g := g) (by assumption) (by assumption); omega) (fun l hl2 => ?_)
 | refine ix_as (f := EntryT.cells) (xs := l.Log) (m := m - 1) (dec_eq (Nat.le_trans hT.2 (log_le hw hl2)) (okG_sure (by assumption) hl2) (by assumption)) (by have h9 := okG_sure (g := g) (by assumption) hl2; omega) (fun e he => ?_)
 | exact side_of (lead_side (by assumption) (by assumption))
 | refine ix_ownat (f := ReplicaT.cells) (xs := g.Reps) hl2 ?_
 | (refine nameB_cases (b := okGroup g) (fun h => ?_) (fun h => ?_))
 | (refine nameB_cases (b := most g _) (fun h => ?_) (fun h => ?_))
 | refine nameB_true ?_
 | refine nameB_false ?_
 | (refine nameB_dec (fun h => ?_) (fun h => ?_) <;> try simp only [lensB] at h)
 | refine splitB_true ?_
 | refine splitB_false ?_
 | refine draw_text (by kernel_rfl) (by kernel_rfl) (by kernel_rfl) ?_
 | ((refine Loop_at [1, 2, 4, 5] [0, 16, 12304, 12320, 16480] (Nat) (fun m => adv g l m = adv g l l.Log.length ∧ m ≤ l.Log.length) (fun m => [(6, .ptr 20528 0 0)]) (fun m => [(20528, ⟨true, 3, 1, [[.int .i64 (m : Nat)]]⟩)]) (fun m => m) l.Log.length ⟨by first | rfl | first | rfl | fail, trivial⟩ ⟨by first | rfl | first | rfl | exact congrArg (fun z => some (AObj.mk _ _ _ [[AV.int .i64 z]])) (congrArg (fun n : Nat => (n : Int)) (List.length_map _)) | exact congrArg (fun z => some (AObj.mk _ _ _ [[AV.int .i64 z]])) (dec_eq (Nat.le_trans hT.2 (log_le hw hl2)) (okG_sure (by assumption) hl2) (by assumption)) | fail | fail, trivial⟩ (by (try dsimp only); first | (exact ⟨rfl, Nat.le_refl _⟩) | fail) ?_; (conv => whnf); refine side_and (side_of (by first | exact fun m => rfl | exact fun m => by simp [headOk, closedE, closedO, closedL, AV.closed, hcap.closed, hasId, AObj.box, BK.ofB])) ?_; rintro m hT; try dsimp only at hT))
 | (refine Again_ren 45056 20528 (by decide) rfl ?_; (conv => whnf); refine Again_of (m - 1) ⟨by first | rfl | first | rfl | fail, trivial⟩ ⟨by first | rfl | first | rfl | exact congrArg (fun z => some (AObj.mk _ _ _ [[AV.int .i64 z]])) (congrArg (fun n : Nat => (n : Int)) (List.length_map _)) | exact congrArg (fun z => some (AObj.mk _ _ _ [[AV.int .i64 z]])) (dec_eq (Nat.le_trans hT.2 (log_le hw hl2)) (okG_sure (by assumption) hl2) (by assumption)) | fail | fail, trivial⟩ (by first | (and_intros <;> first | rfl | trivial) | fail) (by first | (and_intros <;> first | rfl | trivial) | fail) rfl rfl rfl (by (try dsimp only); first | (first | exact ⟨(adv_go (okG_sure (by assumption) hl2) (by assumption) (hit_no1 he (by assumption))).trans hT.1, by omega⟩ | exact ⟨(adv_go (okG_sure (by assumption) hl2) (by assumption) (hit_no2 (by assumption))).trans hT.1, by omega⟩) | fail) (show _ < _ by (try dsimp only); (have h9 := okG_sure (by assumption) hl2; omega)))
 | refine Call0 (c_impl_GoodGroup g hok hw) rfl rfl ?_
 | refine CallF (c_impl_copyGroup g hw) rfl rfl rfl (Nat.le_of_ble_eq_true rfl) ?_
 | refine CallD0 (c_impl_Group_isMost g 163 [.rp l.cells, .rp [.int .i64 (m : Nat)]] (fun x => preE x.Log (l.Log.take m)) hw ⟨fun _ => rfl, fun _ => rfl, fun _ => rfl, fun _ => rfl, fun _ => rfl⟩ (fun x hx => c_impl_Advance_1 x l m (hok.1.2 x hx).2.1 hT.2 (log_le hw hl2))) rfl rfl rfl ?_
 | refine side_and (side_of (by first | exact ⟨Nat.le_of_ble_eq_true rfl, rfl⟩ | fail)) ?_
 | refine side_and (side_of (by first | exact Nat.le_of_ble_eq_true rfl | exact rfl | omega | fail)) ?_
 | refine side_and (side_of (by first | (and_intros <;> first | rfl | omega | exact Nat.le_of_ble_eq_true rfl) | fail)) ?_
 | refine side_and ?_ ?_
 | refine LoadK_of rfl rfl ?_
 | refine StoreD_of rfl rfl rfl ?_
 | fail
  all_goals
    conv => whnf
    first
    | (have h0 : okAdv g = false := okAdv_no (by first | exact .inl (by assumption) | exact .inr (by assumption)); rw [h0, advR_no h0]; refine OutA_nilB 16 1 90 3 0 rfl rfl rfl (by decide) ?_; refine OutA_prom [(1, ReplicaT.shp)] ⟨⟨_, _, _, rfl, prom_nil⟩, trivial⟩ ?_; (conv => whnf); exact OutA_deep rfl rfl rfl ⟨⟨rfl, rfl⟩, trivial⟩ rfl)
    | (have h0 : okAdv g = true := okAdv_yes (by assumption) (by assumption); have h9 := adv_hit (okG_sure (by assumption) hl2) (by assumption) (hit_yes he (by assumption) (by assumption)); rw [h0, advR_yes h0]; exact OutA_deep rfl rfl rfl ⟨⟨congrArg (fun e => some (AObj.mk _ _ _ e)) (setRep_cells (f := fun y => { y with Sure := advS g }) hl2 (adv_cells hl2 (hT.1.symm.trans h9))), rfl⟩, trivial⟩ rfl)
    | (have h0 : okAdv g = true := okAdv_yes (by assumption) (by assumption); have h9 := adv_stop (g := g) (l := l) (m := m) (by assumption); rw [h0, advR_yes h0]; exact OutA_deep rfl rfl rfl ⟨⟨congrArg (fun e => some (AObj.mk _ _ _ e)) (adv_same hl2 (hT.1.symm.trans h9)), rfl⟩, trivial⟩ rfl)
theorem c_spec_Advance (g : GroupT) (hok : g.ok) (hw : GB g) : PC Tryz.prog true 93 [.agg g.cells] (.tup [.agg (advR g).cells, .bool (okAdv g)]) [] := by
  have hl := reps_len hw
  refine pc_at Tryz.func93 rfl (by kernel_rfl) 64 [.cell 2 38, .tmp 3] rfl rfl ?_
  repeat' (conv => whnf); first
 | refine ix_as (f := ReplicaT.cells) (n := g.Lead) (m := g.Lead.toNat) (by have h9 := okLead_lt (g := g) (by assumption) (by assumption); omega) (by have h9 := okLead_lt (g := g) (by assumption) (by assumption); omega) (fun l hl2 => ?_)
 | refine ix_as (f := EntryT.cells) (xs := l.Log) (m := m - 1) (dec_eq (Nat.le_trans hT.2 (log_le hw hl2)) (okG_sure (by assumption) hl2) (by assumption)) (by have h9 := okG_sure (g := g) (by assumption) hl2; omega) (fun e he => ?_)
 | exact side_of (lead_side (by assumption) (by assumption))
 | refine ix_ownat (f := ReplicaT.cells) (xs := g.Reps) hl2 ?_
 | (refine nameB_cases (b := okGroup g) (fun h => ?_) (fun h => ?_))
 | refine nameB_true ?_
 | refine nameB_false ?_
 | (refine nameB_dec (fun h => ?_) (fun h => ?_) <;> try simp only [lensB] at h)
 | refine splitB_true ?_
 | refine splitB_false ?_
 | refine draw_text (by kernel_rfl) (by kernel_rfl) (by kernel_rfl) ?_
 | ((refine Loop_at [1, 2, 4, 5] [0, 16, 12304, 12320, 16480] (Nat) (fun m => adv g l m = adv g l l.Log.length ∧ m ≤ l.Log.length) (fun m => [(6, .int .i64 (m : Nat))]) (fun m => []) (fun m => m) l.Log.length ⟨by first | first | rfl | exact congrArg (fun n : Nat => AV.int .i64 (n : Int)) (List.length_map _) | exact congrArg (AV.int .i64) (dec_eq (Nat.le_trans hT.2 (log_le hw hl2)) (okG_sure (by assumption) hl2) (by assumption)) | rfl | fail, trivial⟩ trivial (by (try dsimp only); first | (exact ⟨rfl, Nat.le_refl _⟩) | fail) ?_; (conv => whnf); refine side_and (side_of (by first | exact fun m => rfl | exact fun m => by simp [headOk, closedE, closedO, closedL, AV.closed, hcap.closed, hasId, AObj.box, BK.ofB])) ?_; rintro m hT; try dsimp only at hT))
 | (refine Again_of (m - 1) ⟨by first | rfl | exact i64_next (by omega) | first | rfl | exact congrArg (fun n : Nat => AV.int .i64 (n : Int)) (List.length_map _) | exact congrArg (AV.int .i64) (dec_eq (Nat.le_trans hT.2 (log_le hw hl2)) (okG_sure (by assumption) hl2) (by assumption)) | fail, trivial⟩ trivial (by first | (and_intros <;> first | rfl | trivial) | fail) (by first | (and_intros <;> first | rfl | trivial) | fail) rfl rfl rfl (by (try dsimp only); first | (first | exact ⟨(adv_go (okG_sure (by assumption) hl2) (by assumption) (hit_no1 he (by assumption))).trans hT.1, by omega⟩ | exact ⟨(adv_go (okG_sure (by assumption) hl2) (by assumption) (hit_no2 (most_no hl (by assumption)))).trans hT.1, by omega⟩) | fail) (show _ < _ by (try dsimp only); (have h9 := okG_sure (by assumption) hl2; omega)))
 | refine Call0 (c_spec_GoodGroup g hok hw) rfl rfl ?_
 | refine CallT (c_spec_l9Own g hw) rfl rfl rfl rfl (Nat.le_of_ble_eq_true rfl) ?_
 | refine CallD0 (c_spec_l9Many g l.Log m hok hw (log_le hw hl2) hT.2) rfl rfl rfl ?_
 | refine side_and (side_of (by first | exact ⟨Nat.le_of_ble_eq_true rfl, rfl⟩ | fail)) ?_
 | refine side_and (side_of (by first | exact Nat.le_of_ble_eq_true rfl | exact rfl | omega | fail)) ?_
 | refine side_and (side_of (by first | (and_intros <;> first | rfl | omega | exact Nat.le_of_ble_eq_true rfl) | fail)) ?_
 | refine side_and ?_ ?_
 | refine LoadK_of rfl rfl ?_
 | fail
  all_goals
    conv => whnf
    first
    | (have h0 : okAdv g = false := okAdv_no (by first | exact .inl (by assumption) | exact .inr (by assumption)); rw [h0, advR_no h0]; refine OutA_nilB 16 1 90 3 0 rfl rfl rfl (by decide) ?_; refine OutA_frz [1] ?_; (conv => whnf); exact OutA_plain rfl rfl rfl)
    | (have h0 : okAdv g = true := okAdv_yes (by assumption) (by assumption); have h9 := adv_hit (okG_sure (by assumption) hl2) (by assumption) (hit_yes he (by assumption) (most_yes hl (by assumption))); rw [h0, advR_yes h0]; refine OutA_frz [12304] ?_; (conv => whnf); exact OutA_plain rfl rfl (congrArg (fun e => AV.tup [.agg [.sl e, .int .i64 g.Term, .int .i64 g.Lead], .bool true]) (setRep_cells (f := fun y => { y with Sure := advS g }) hl2 (adv_cells hl2 (hT.1.symm.trans h9)))))
    | (have h0 : okAdv g = true := okAdv_yes (by assumption) (by assumption); have h9 := adv_stop (g := g) (l := l) (m := m) (by assumption); rw [h0, advR_yes h0]; refine OutA_frz [12304] ?_; (conv => whnf); exact OutA_plain rfl rfl (congrArg (fun e => AV.tup [.agg [.sl e, .int .i64 g.Term, .int .i64 g.Lead], .bool true]) (adv_same hl2 (hT.1.symm.trans h9))))
def logOf (g : GroupT) (r : Int) : List EntryT := match g.Reps[r.toNat]? with | some y => y.Log | none => []
def sureOf (g : GroupT) (r : Int) : Int := match g.Reps[r.toNat]? with | some y => y.Sure | none => 0
theorem logOf_of {g : GroupT} {r : Int} {y : ReplicaT} (h : g.Reps[r.toNat]? = some y) : logOf g r = y.Log := by unfold logOf; rw [h]
theorem sureOf_of {g : GroupT} {r : Int} {y : ReplicaT} (h : g.Reps[r.toNat]? = some y) : sureOf g r = y.Sure := by unfold sureOf; rw [h]
def mx (a b : Int) : Int := if b > a then b else a
def mn (a b : Int) : Int := if b < a then b else a
def copyF (g : GroupT) (y : ReplicaT) : ReplicaT := ⟨true, logOf g g.Lead, mn (mx (sureOf g g.Lead) y.Sure) ((logOf g g.Lead).length : Int)⟩
def okCopy (g : GroupT) (r : Int) : Bool := okUp g r true && (!decide (g.Lead < 0) && !decide (r = g.Lead))
def copyN (g : GroupT) (r : Int) : GroupT := ⟨setRep g r (copyF g), g.Term, g.Lead⟩
def copyR (g : GroupT) (r : Int) : GroupT := resG (okCopy g r) (copyN g r)
theorem copyR_yes {g : GroupT} {r : Int} (h : okCopy g r = true) : copyR g r = ⟨setRep g r (copyF g), g.Term, g.Lead⟩ := by rw [copyR, resG_yes h]; rfl
theorem copyR_no {g : GroupT} {r : Int} (h : okCopy g r = false) : copyR g r = ⟨[], 0, 0⟩ := by rw [copyR, resG_no h]; rfl
theorem copy_yes {g : GroupT} {r : Int} (h1 : okUp g r true = true) (h2 : ¬ g.Lead < 0) (h3 : ¬ r = g.Lead) : okCopy g r = true := by unfold okCopy; rw [h1, decide_eq_false h2, decide_eq_false h3]; rfl
theorem copy_no {g : GroupT} {r : Int} (h : okUp g r true = false ∨ g.Lead < 0 ∨ r = g.Lead) : okCopy g r = false := by
  unfold okCopy
  rcases h with h | h | h
  · rw [h]; rfl
  · rw [decide_eq_true h]; simp
  · rw [decide_eq_true h]; simp
theorem copy_cells {g : GroupT} {y l : ReplicaT} {n : Int} (hl : g.Reps[g.Lead.toNat]? = some l) (hn : n = mn (mx l.Sure y.Sure) ((l.Log.map EntryT.cells).length : Int)) : [.bool true, .sl (l.Log.map EntryT.cells), .int .i64 n] = (copyF g y).cells := by
  rw [List.length_map] at hn
  unfold copyF
  rw [logOf_of hl, sureOf_of hl, hn]
  rfl
theorem copy_log {g : GroupT} {x : ReplicaT} (hw : GB g) (h : g.Reps[g.Lead.toNat]? = some x) : wL EntryT.w x.Log ≤ 1048576 := rep_w hw (List.mem_of_getElem? h)
theorem okUp_g' {g : GroupT} {r : Int} {b : Bool} (h : okUp g r b = true) : okGroup g = true := by
  unfold okUp at h
  simp only [Bool.and_eq_true] at h
  exact h.1
theorem c_impl_CopyTo (g : GroupT) (r : Int) (hok : g.ok) (hw : GB g) : PC Tryz.prog false 124 [.agg g.cells, .int .i64 r] (.tup [.agg [.own 0, .int .i64 (copyR g r).Term, .int .i64 (copyR g r).Lead], .bool (okCopy g r)]) [⟨.deep ReplicaT.shp, 90, 3, (copyR g r).Reps.map ReplicaT.cells⟩] := by
  have hl := reps_len hw
  refine pc_at Tryz.func124 rfl (by kernel_rfl) 68 [.cell 4 38, .tmp 5] rfl rfl ?_
  repeat' (conv => whnf); first
 | (show Go.Ab.drawA _ _ _ _ _; refine draw_tail 20 (by kernel_rfl) (by kernel_rfl) (by kernel_rfl) ?_)
 | refine ix_re (f := ReplicaT.cells) (xs := g.Reps) (n := r) (isRep_lt (g := g) (n := r) (by assumption)).1 (by assumption) ?_
 | refine ix_as (f := ReplicaT.cells) (n := r) (m := r.toNat) (by have h9 := isRep_lt (g := g) (n := r) (by assumption); omega) (by have h9 := isRep_lt (g := g) (n := r) (by assumption); omega) (fun y hy => ?_)
 | refine ix_as (f := ReplicaT.cells) (n := g.Lead) (m := g.Lead.toNat) (by have h9 := okLead_lt (g := g) (by assumption) (by assumption); omega) (by have h9 := okLead_lt (g := g) (by assumption) (by assumption); omega) (fun l hl2 => ?_)
 | refine nameB_self (b := y.Up) ?_
 | exact side_of (isRep_side (by assumption))
 | refine ix_ownat (f := ReplicaT.cells) (xs := g.Reps) hy ?_
 | (refine nameB_cases (b := okGroup g) (fun h => ?_) (fun h => ?_))
 | (refine nameB_cases (b := isRep g r) (fun h => ?_) (fun h => ?_))
 | refine nameB_true ?_
 | refine nameB_false ?_
 | (refine nameB_dec (fun h => ?_) (fun h => ?_) <;> try simp only [lensB] at h)
 | (refine nameB_cases (fun h => ?_) (fun h => ?_) <;> try simp only [nmL, lensB] at h)
 | refine splitB_true ?_
 | refine splitB_false ?_
 | refine Call0 (c_impl_GoodGroup g hok hw) rfl rfl ?_
 | refine Call0 (c_impl_Group_isRep g r hw) rfl rfl ?_
 | refine CallF (c_impl_copyGroup g hw) rfl rfl rfl (Nat.le_of_ble_eq_true rfl) ?_
 | refine CallDF (c_impl_copyEntries l.Log (copy_log hw hl2)) rfl rfl ⟨rfl, rfl⟩ ?_
 | refine side_and (side_of (by first | exact ⟨Nat.le_of_ble_eq_true rfl, rfl⟩ | fail)) ?_
 | refine side_and (side_of (by first | exact Nat.le_of_ble_eq_true rfl | exact rfl | omega | fail)) ?_
 | refine side_and (side_of (by first | (and_intros <;> first | rfl | omega | exact Nat.le_of_ble_eq_true rfl) | fail)) ?_
 | refine side_and ?_ ?_
 | refine LoadK_of rfl rfl ?_
 | refine StoreD_of rfl rfl rfl ?_
 | fail
  all_goals
    (try have hyu := upAt_of hy)
    conv => whnf
    first
    | (have h0 : okCopy g r = true := copy_yes (upI (by assumption) (by assumption) (hyu.trans (by assumption))) (by assumption) (by assumption); rw [h0, copyR_yes h0]; exact OutA_deep rfl rfl rfl ⟨⟨congrArg (fun e => some (AObj.mk _ _ _ e)) (setRep_cells (f := copyF g) hy (copy_cells hl2 rfl)), rfl⟩, trivial⟩ rfl)
    | (have h0 : okCopy g r = false := copy_no (by first | exact .inl (upI_no (.inl (by assumption))) | exact .inl (upI_no (.inr (.inl (by assumption)))) | exact .inl (upI_no (.inr (.inr (hyu.trans (by assumption))))) | exact .inr (.inl (by assumption)) | exact .inr (.inr (by assumption))); rw [h0, copyR_no h0]; refine OutA_nilB 16 1 90 3 0 rfl rfl rfl (by decide) ?_; refine OutA_prom [(1, ReplicaT.shp)] ⟨⟨_, _, _, rfl, prom_nil⟩, trivial⟩ ?_; (conv => whnf); exact OutA_deep rfl rfl rfl ⟨⟨rfl, rfl⟩, trivial⟩ rfl)
theorem c_spec_l1LeastG (a b : Int) : PC Tryz.prog false 139 [.int .i64 a, .int .i64 b] (.int .i64 (if a < b then a else b)) [] := by
  refine pc_at Tryz.func139 rfl (by kernel_rfl) 10 [.tmp 4] rfl rfl ?_
  repeat' (conv => whnf); first
 | (refine nameB_dec (fun h => ?_) (fun h => ?_) <;> try simp only [lensB] at h)
 | refine splitB_true ?_
 | refine splitB_false ?_
 | fail
  all_goals
    conv => whnf
    refine OutA_plain rfl rfl ?_
    first
    | exact congrArg (AV.int .i64) (if_pos (by assumption)).symm
    | exact congrArg (AV.int .i64) (if_neg (by assumption)).symm
theorem c_spec_l1MostG (a b : Int) : PC Tryz.prog false 140 [.int .i64 a, .int .i64 b] (.int .i64 (if a > b then a else b)) [] := by
  refine pc_at Tryz.func140 rfl (by kernel_rfl) 10 [.tmp 4] rfl rfl ?_
  repeat' (conv => whnf); first
 | (refine nameB_dec (fun h => ?_) (fun h => ?_) <;> try simp only [lensB] at h)
 | refine splitB_true ?_
 | refine splitB_false ?_
 | fail
  all_goals
    conv => whnf
    refine OutA_plain rfl rfl ?_
    first
    | exact congrArg (AV.int .i64) (if_pos (by assumption)).symm
    | exact congrArg (AV.int .i64) (if_neg (by assumption)).symm
theorem least_most {a b n : Int} : (if n < (if a > b then a else b) then n else (if a > b then a else b)) = mn (mx b a) n := by
  unfold mn mx
  by_cases h1 : a > b
  · rw [if_pos h1]
  · rw [if_neg h1]
theorem copy_cellsS {g : GroupT} {y l : ReplicaT} {n : Int} (hl : g.Reps[g.Lead.toNat]? = some l) (hn : n = (if ((l.Log.map EntryT.cells).length : Int) < (if y.Sure > l.Sure then y.Sure else l.Sure) then ((l.Log.map EntryT.cells).length : Int) else (if y.Sure > l.Sure then y.Sure else l.Sure))) : [.bool true, .sl (l.Log.map EntryT.cells), .int .i64 n] = (copyF g y).cells :=
  copy_cells hl (hn.trans least_most)
theorem c_spec_CopyTo (g : GroupT) (r : Int) (hok : g.ok) (hw : GB g) : PC Tryz.prog true 92 [.agg g.cells, .int .i64 r] (.tup [.agg (copyR g r).cells, .bool (okCopy g r)]) [] := by
  have hl := reps_len hw
  refine pc_at Tryz.func92 rfl (by kernel_rfl) 58 [.cell 4 38, .tmp 5] rfl rfl ?_
  repeat' (conv => whnf); first
 | (show Go.Ab.drawA _ _ _ _ _; refine draw_tail 22 (by kernel_rfl) (by kernel_rfl) (by kernel_rfl) ?_)
 | refine ix_re (f := ReplicaT.cells) (xs := g.Reps) (n := g.Lead) (okLead_lt (g := g) (okUp_g' (r := r) (b := true) (by assumption)) (by assumption)).1 (by assumption) ?_
 | refine ix_as (f := ReplicaT.cells) (n := g.Lead) (m := g.Lead.toNat) (by have h9 := okLead_lt (g := g) (okUp_g' (r := r) (b := true) (by assumption)) (by assumption); omega) (by have h9 := okLead_lt (g := g) (okUp_g' (r := r) (b := true) (by assumption)) (by assumption); omega) (fun l hl2 => ?_)
 | refine ix_as (f := ReplicaT.cells) (n := r) (m := r.toNat) (by have h9 := okUp_lt (g := g) (r := r) (b := true) (by assumption); omega) (by have h9 := okUp_lt (g := g) (r := r) (b := true) (by assumption); omega) (fun y hy => ?_)
 | exact side_of (okUp_side (b := true) (by assumption))
 | refine ix_ownat (f := ReplicaT.cells) (xs := g.Reps) hy ?_
 | (refine nameB_cases (b := okUp g r true) (fun h => ?_) (fun h => ?_))
 | refine nameB_true ?_
 | refine nameB_false ?_
 | (refine nameB_dec (fun h => ?_) (fun h => ?_) <;> try simp only [lensB] at h)
 | refine splitB_true ?_
 | refine splitB_false ?_
 | refine Call0 (c_spec_l9Up g r true hok hw) rfl rfl ?_
 | refine CallT (c_spec_l9Own g hw) rfl rfl rfl rfl (Nat.le_of_ble_eq_true rfl) ?_
 | refine CallT (c_spec_l9OwnLog l.Log (copy_log hw hl2)) rfl rfl rfl rfl (Nat.le_of_ble_eq_true rfl) ?_
 | refine CallD0 (c_spec_l1LeastG ..) rfl rfl rfl ?_
 | refine CallD0 (c_spec_l1MostG ..) rfl rfl rfl ?_
 | refine side_and (side_of (by first | exact ⟨Nat.le_of_ble_eq_true rfl, rfl⟩ | fail)) ?_
 | refine side_and (side_of (by first | exact Nat.le_of_ble_eq_true rfl | exact rfl | omega | fail)) ?_
 | refine side_and (side_of (by first | (and_intros <;> first | rfl | omega | exact Nat.le_of_ble_eq_true rfl) | fail)) ?_
 | refine side_and ?_ ?_
 | refine LoadK_of rfl rfl ?_
 | fail
  all_goals
    conv => whnf
    first
    | (have h0 : okCopy g r = true := copy_yes (by assumption) (by assumption) (fun e => absurd e.symm (by assumption)); rw [h0, copyR_yes h0]; refine OutA_frz [12304] ?_; (conv => whnf); exact OutA_plain rfl rfl (congrArg (fun e => AV.tup [.agg [.sl e, .int .i64 g.Term, .int .i64 g.Lead], .bool true]) (setRep_cells (f := copyF g) hy (copy_cellsS hl2 rfl))))
    | (have h0 : okCopy g r = false := copy_no (by first | exact .inl (by assumption) | exact .inr (.inl (by assumption)) | exact .inr (.inr (Eq.symm (by assumption)))); rw [h0, copyR_no h0]; refine OutA_nilB 16 1 90 3 0 rfl rfl rfl (by decide) ?_; refine OutA_frz [1] ?_; (conv => whnf); exact OutA_plain rfl rfl rfl)
theorem sum_le_mul {α : Type} {w : α → Nat} {B : Nat} : ∀ {xs : List α}, (∀ x ∈ xs, w x ≤ B) → (xs.map w).sum ≤ xs.length * B
  | [], _ => by simp
  | x :: xs, h => by
    have h1 := sum_le_mul (xs := xs) (fun y hy => h y (List.mem_cons_of_mem _ hy))
    have h2 := h x (List.mem_cons_self ..)
    simp only [List.map_cons, List.sum_cons, List.length_cons, Nat.succ_mul]
    omega
theorem wL_bound {α : Type} {w : α → Nat} {B : Nat} {xs : List α} (hB : ∀ x ∈ xs, w x ≤ B) (hl : xs.length ≤ 5) : wL w xs ≤ 5 + 5 * B := by
  have h1 := sum_le_mul hB
  have h2 : xs.length * B ≤ 5 * B := Nat.mul_le_mul_right B hl
  unfold wL
  omega
theorem okG_len {g : GroupT} (h : okGroup g = true) : g.Reps.length ≤ 5 := by
  simp only [okGroup, okMany, Bool.and_eq_true, Bool.or_eq_true, decide_eq_true_eq] at h
  omega
def logAt (g : GroupT) (r : Int) : List EntryT := match g.Reps[r.toNat]? with | some y => y.Log | none => []
theorem logAt_of {g : GroupT} {r : Int} {y : ReplicaT} (h : g.Reps[r.toNat]? = some y) : logAt g r = y.Log := by unfold logAt; rw [h]
def votes (g : GroupT) (r : Int) (x : ReplicaT) : Bool := x.Up && !newer x.Log (logAt g r)
theorem votes_yes {g : GroupT} {r : Int} {x : ReplicaT} (h1 : x.Up = true) (h2 : newer x.Log (logAt g r) = false) : votes g r x = true := by unfold votes; rw [h1, h2]; rfl
theorem votes_no1 {g : GroupT} {r : Int} {x : ReplicaT} (h1 : x.Up = false) : votes g r x = false := by unfold votes; rw [h1]; rfl
theorem votes_no2 {g : GroupT} {r : Int} {x : ReplicaT} (h2 : newer x.Log (logAt g r) = true) : votes g r x = false := by unfold votes; rw [h2]; simp
theorem rep_len {g : GroupT} {x : ReplicaT} (hw : GB g) (h : x ∈ g.Reps) : x.Log.length ≤ 1048576 := Nat.le_trans (wL_len (w := EntryT.w)) (rep_w hw h)
theorem c_impl_ElectRep_1 (g : GroupT) (r : Int) (x y : ReplicaT) (hr : 0 ≤ r) (hy : g.Reps[r.toNat]? = some y) (hx : x.Log.length ≤ 1048576) (hw : GB g) : PC Tryz.prog false 161 [.agg x.cells, .rp g.cells, .rp [.int .i64 r]] (.bool (votes g r x)) [] := by
  have hz := rep_len hw (List.mem_of_getElem? hy)
  have he := logAt_of hy
  refine pc_at Tryz.func161 rfl (by kernel_rfl) 19 [.tmp 4] rfl rfl ?_
  repeat' (conv => whnf); first
 | refine ix_re (f := ReplicaT.cells) hr hy ?_
 | (refine nameB_cases (b := x.Up) (fun h => ?_) (fun h => ?_))
 | (refine nameB_cases (b := newer x.Log y.Log) (fun h => ?_) (fun h => ?_))
 | refine nameB_true ?_
 | refine nameB_false ?_
 | refine splitB_true ?_
 | refine splitB_false ?_
 | refine draw_text (by kernel_rfl) (by kernel_rfl) (by kernel_rfl) ?_
 | refine CallD0 (c_impl_isNewer x.Log y.Log hx hz) rfl rfl rfl ?_
 | refine side_and (side_of (by first | exact Nat.le_of_ble_eq_true rfl | exact rfl | omega | fail)) ?_
 | refine LoadK_of rfl rfl ?_
 | fail
  all_goals
    conv => whnf
    refine OutA_plain rfl rfl ?_
    first
    | (simp_all [votes, named, AV.sub, AV.sub.subL]; done)
def okElect (g : GroupT) (r : Int) : Bool := okUp g r true && (!decide (g.Term = 200) && most g (votes g r))
def electN (g : GroupT) (r : Int) : GroupT := ⟨g.Reps, IntKind.i64.wrap (g.Term + 1), r⟩
def electR (g : GroupT) (r : Int) : GroupT := resG (okElect g r) (electN g r)
theorem electR_yes {g : GroupT} {r : Int} (h : okElect g r = true) : electR g r = ⟨g.Reps, IntKind.i64.wrap (g.Term + 1), r⟩ := by rw [electR, resG_yes h]; rfl
theorem electR_no {g : GroupT} {r : Int} (h : okElect g r = false) : electR g r = ⟨[], 0, 0⟩ := by rw [electR, resG_no h]; rfl
theorem elect_yes {g : GroupT} {r : Int} (h1 : okUp g r true = true) (h2 : ¬ g.Term = 200) (h3 : most g (votes g r) = true) : okElect g r = true := by unfold okElect; rw [h1, h3, decide_eq_false h2]; rfl
theorem elect_no {g : GroupT} {r : Int} (h : okUp g r true = false ∨ g.Term = 200 ∨ most g (votes g r) = false) : okElect g r = false := by
  unfold okElect
  rcases h with h | h | h
  · rw [h]; rfl
  · rw [decide_eq_true h]; simp
  · rw [h]; simp
theorem c_impl_ElectRep (g : GroupT) (r : Int) (hok : g.ok) (hw : GB g) : PC Tryz.prog false 123 [.agg g.cells, .int .i64 r] (.tup [.agg [.own 0, .int .i64 (electR g r).Term, .int .i64 (electR g r).Lead], .bool (okElect g r)]) [⟨.deep ReplicaT.shp, 90, 3, (electR g r).Reps.map ReplicaT.cells⟩] := by
  have hl := reps_len hw
  refine pc_at Tryz.func123 rfl (by kernel_rfl) 45 [.cell 4 38, .tmp 5] rfl rfl ?_
  repeat' (conv => whnf); first
 | refine ix_as (f := ReplicaT.cells) (m := r.toNat) (by have h9 := isRep_lt (g := g) (n := r) (by assumption); omega) (by have h9 := isRep_lt (g := g) (n := r) (by assumption); omega) (fun y hy => ?_)
 | refine nameB_self (b := y.Up) ?_
 | (refine nameB_cases (b := okGroup g) (fun h => ?_) (fun h => ?_))
 | (refine nameB_cases (b := isRep g r) (fun h => ?_) (fun h => ?_))
 | (refine nameB_cases (b := most g (votes g r)) (fun h => ?_) (fun h => ?_))
 | refine nameB_true ?_
 | refine nameB_false ?_
 | (refine nameB_dec (fun h => ?_) (fun h => ?_) <;> try simp only [lensB] at h)
 | (refine nameB_cases (fun h => ?_) (fun h => ?_) <;> try simp only [nmL, lensB] at h)
 | refine splitB_true ?_
 | refine splitB_false ?_
 | refine Call0 (c_impl_GoodGroup g hok hw) rfl rfl ?_
 | refine Call0 (c_impl_Group_isRep g r hw) rfl rfl ?_
 | refine CallF (c_impl_copyGroup g hw) rfl rfl rfl (Nat.le_of_ble_eq_true rfl) ?_
 | refine Call0 (c_impl_Group_isMost g 161 [.rp g.cells, .rp [.int .i64 r]] (votes g r) hw ⟨fun _ => rfl, fun _ => rfl, fun _ => rfl, fun _ => rfl, fun _ => rfl⟩ (fun x hx => c_impl_ElectRep_1 g r x y (isRep_lt (by assumption)).1 hy (rep_len hw hx) hw)) rfl rfl ?_
 | refine side_and (side_of (by first | exact ⟨Nat.le_of_ble_eq_true rfl, rfl⟩ | fail)) ?_
 | refine side_and (side_of (by first | exact Nat.le_of_ble_eq_true rfl | exact rfl | omega | fail)) ?_
 | refine side_and (side_of (by first | (and_intros <;> first | rfl | omega | exact Nat.le_of_ble_eq_true rfl) | fail)) ?_
 | fail
  all_goals
    (try have hyu := upAt_of hy)
    conv => whnf
    first
    | (have h0 : okElect g r = true := elect_yes (upI (by assumption) (by assumption) (hyu.trans (by assumption))) (by assumption) (by assumption); rw [h0, electR_yes h0]; exact OutA_deep rfl rfl rfl ⟨⟨rfl, rfl⟩, trivial⟩ rfl)
    | (have h0 : okElect g r = false := elect_no (by first | exact .inl (upI_no (.inl (by assumption))) | exact .inl (upI_no (.inr (.inl (by assumption)))) | exact .inl (upI_no (.inr (.inr (hyu.trans (by assumption))))) | exact .inr (.inl (by assumption)) | exact .inr (.inr (by assumption))); rw [h0, electR_no h0]; refine OutA_nilB 32 1 90 3 0 rfl rfl rfl (by decide) ?_; refine OutA_prom [(1, ReplicaT.shp)] ⟨⟨_, _, _, rfl, prom_nil⟩, trivial⟩ ?_; (conv => whnf); exact OutA_deep rfl rfl rfl ⟨⟨rfl, rfl⟩, trivial⟩ rfl)
theorem c_spec_ElectRep_no (g : GroupT) (r : Int) (hok : g.ok) (hw : GB g) (h0 : okUp g r true = false) : PC Tryz.prog true 91 [.agg g.cells, .int .i64 r] (.tup [.agg (electR g r).cells, .bool (okElect g r)]) [] := by
  have hu := c_spec_l9Up g r true hok hw
  rw [h0] at hu
  refine pc_at Tryz.func91 rfl (by kernel_rfl) 66 [.cell 4 38, .tmp 5] rfl rfl ?_
  repeat' (conv => whnf); first
 | refine nameB_true ?_
 | refine nameB_false ?_
 | refine splitB_true ?_
 | refine Call0 (hu) rfl rfl ?_
 | refine side_and (side_of (by first | exact ⟨Nat.le_of_ble_eq_true rfl, rfl⟩ | fail)) ?_
 | refine side_and (side_of (by first | exact Nat.le_of_ble_eq_true rfl | exact rfl | omega | fail)) ?_
 | refine side_and (side_of (by first | (and_intros <;> first | rfl | omega | exact Nat.le_of_ble_eq_true rfl) | fail)) ?_
 | fail
  all_goals
    conv => whnf
    (have h0 : okElect g r = false := elect_no (.inl h0); rw [h0, electR_no h0]; refine OutA_nilB 16 1 90 3 0 rfl rfl rfl (by decide) ?_; refine OutA_frz [1] ?_; (conv => whnf); exact OutA_plain rfl rfl rfl)
theorem c_spec_ElectRep_up (g : GroupT) (r : Int) (y : ReplicaT) (hok : g.ok) (hw : GB g) (h0 : okUp g r true = true) (hr : 0 ≤ r) (hy : g.Reps[r.toNat]? = some y) : PC Tryz.prog true 91 [.agg g.cells, .int .i64 r] (.tup [.agg (electR g r).cells, .bool (okElect g r)]) [] := by
  have hl := reps_len hw
  have hz := rep_len hw (List.mem_of_getElem? hy)
  have he := logAt_of hy
  have hu := c_spec_l9Up g r true hok hw
  rw [h0] at hu
  refine pc_at Tryz.func91 rfl (by kernel_rfl) 66 [.cell 4 38, .tmp 5] rfl rfl ?_
  repeat' (conv => whnf); first
 | refine ix_re (f := ReplicaT.cells) hr hy ?_
 | (refine nameB_cases (b := x.Up) (fun h => ?_) (fun h => ?_))
 | (refine nameB_cases (b := newer x.Log y.Log) (fun h => ?_) (fun h => ?_))
 | refine nameB_true ?_
 | refine nameB_false ?_
 | (refine nameB_dec (fun h => ?_) (fun h => ?_) <;> try simp only [lensB] at h)
 | refine splitB_true ?_
 | refine splitB_false ?_
 | refine draw_text (by kernel_rfl) (by kernel_rfl) (by kernel_rfl) ?_
 | ((refine Loop_at [1, 2, 4] [0, 16] (Nat) (fun k => k ≤ g.Reps.length) (fun k => [(6, .int .i64 (cntR (votes g r) (g.Reps.take k) : Nat)), (7, .int .i64 (k : Nat))]) (fun k => []) (fun k => g.Reps.length - k) 0 ⟨by first | first | rfl | exact congrArg (AV.int .i64) (cntR_inc hl hx (votes_yes (by assumption) (he ▸ (by assumption)))) | exact congrArg (fun n : Nat => AV.int .i64 (n : Int)) (cntR_no hx (votes_no1 (by assumption))).symm | exact congrArg (fun n : Nat => AV.int .i64 (n : Int)) (cntR_no hx (votes_no2 (he ▸ (by assumption)))).symm | rfl | fail, by first | first | rfl | exact congrArg (AV.int .i64) (cntR_inc hl hx (votes_yes (by assumption) (he ▸ (by assumption)))) | exact congrArg (fun n : Nat => AV.int .i64 (n : Int)) (cntR_no hx (votes_no1 (by assumption))).symm | exact congrArg (fun n : Nat => AV.int .i64 (n : Int)) (cntR_no hx (votes_no2 (he ▸ (by assumption)))).symm | rfl | fail, trivial⟩ trivial (by (try dsimp only); first | (exact Nat.zero_le _) | fail) ?_; (conv => whnf); refine side_and (side_of (by first | exact fun k => rfl | exact fun k => by simp [headOk, closedE, closedO, closedL, AV.closed, hcap.closed, hasId, AObj.box, BK.ofB])) ?_; rintro k hT; try dsimp only at hT))
 | (refine Again_of (k + 1) ⟨by first | first | rfl | exact congrArg (AV.int .i64) (cntR_inc hl hx (votes_yes (by assumption) (he ▸ (by assumption)))) | exact congrArg (fun n : Nat => AV.int .i64 (n : Int)) (cntR_no hx (votes_no1 (by assumption))).symm | exact congrArg (fun n : Nat => AV.int .i64 (n : Int)) (cntR_no hx (votes_no2 (he ▸ (by assumption)))).symm | rfl | fail, by first | rfl | exact i64_next (by omega) | first | rfl | exact congrArg (AV.int .i64) (cntR_inc hl hx (votes_yes (by assumption) (he ▸ (by assumption)))) | exact congrArg (fun n : Nat => AV.int .i64 (n : Int)) (cntR_no hx (votes_no1 (by assumption))).symm | exact congrArg (fun n : Nat => AV.int .i64 (n : Int)) (cntR_no hx (votes_no2 (he ▸ (by assumption)))).symm | fail, trivial⟩ trivial (by first | (and_intros <;> first | rfl | trivial) | fail) (by first | (and_intros <;> first | rfl | trivial) | fail) rfl rfl rfl (by (try dsimp only); first | ((show k + 1 ≤ _; omega)) | fail) (show _ < _ by (try dsimp only); omega))
 | refine Call0 (hu) rfl rfl ?_
 | refine CallT (c_spec_l9Own g hw) rfl rfl rfl rfl (Nat.le_of_ble_eq_true rfl) ?_
 | refine CallD0 (c_spec_l9Later x.Log y.Log (rep_len hw (List.mem_of_getElem? hx)) hz) rfl rfl rfl ?_
 | refine ix_map_at hx ?_
 | (refine ix_map (by omega) (by (try simp only [List.length_take]); omega) (fun x hx => ?_); try simp only [Int.toNat_natCast] at hx)
 | refine side_and (side_of (by first | exact ⟨Nat.le_of_ble_eq_true rfl, rfl⟩ | fail)) ?_
 | refine side_and (side_of (by first | exact Nat.le_of_ble_eq_true rfl | exact rfl | omega | fail)) ?_
 | refine side_and (side_of (by first | (and_intros <;> first | rfl | omega | exact Nat.le_of_ble_eq_true rfl) | fail)) ?_
 | refine LoadK_of rfl rfl ?_
 | fail
  all_goals
    conv => whnf
    first
    | (have h0 : okElect g r = false := elect_no (.inr (.inl (by assumption))); rw [h0, electR_no h0]; refine OutA_nilB 16 1 90 3 0 rfl rfl rfl (by decide) ?_; refine OutA_frz [1] ?_; (conv => whnf); exact OutA_plain rfl rfl rfl)
    | (have hm := most_of (q := votes g r) hl (by assumption); have h1 : most g (votes g r) = false := decide_eq_false (by rw [← hm]; exact Int.not_lt.2 (by assumption)); have h0 : okElect g r = false := elect_no (.inr (.inr h1)); rw [h0, electR_no h0]; refine OutA_nilB 16 1 90 3 0 rfl rfl rfl (by decide) ?_; refine OutA_frz [1] ?_; (conv => whnf); exact OutA_plain rfl rfl rfl)
    | (have hm := most_of (q := votes g r) hl (by assumption); have h1 : most g (votes g r) = true := decide_eq_true (by rw [← hm]; exact Int.not_le.1 (by assumption)); have h0 : okElect g r = true := elect_yes h0 (by assumption) h1; rw [h0, electR_yes h0]; refine OutA_frz [45072] ?_; (conv => whnf); exact OutA_plain rfl rfl rfl)
theorem c_spec_ElectRep (g : GroupT) (r : Int) (hok : g.ok) (hw : GB g) : PC Tryz.prog true 91 [.agg g.cells, .int .i64 r] (.tup [.agg (electR g r).cells, .bool (okElect g r)]) [] := by
  cases h : okUp g r true with
  | false => exact c_spec_ElectRep_no g r hok hw h
  | true =>
    obtain ⟨h1, h2⟩ := okUp_lt h
    exact c_spec_ElectRep_up g r g.Reps[r.toNat] hok hw h h1 (by simp [h2])
structure GroupActT where
  Kind : Int
  Rep : Int
  Rec : RecT
deriving DecidableEq
def GroupActT.cells (x : GroupActT) : List AV := [.int .i64 x.Kind, .int .i64 x.Rep, .int .i64 x.Rec.Kind, .int .i64 x.Rec.Txn, .int .i64 x.Rec.Time, .int .i64 x.Rec.Lead, .sl (x.Rec.Reads.map strC), .sl (x.Rec.Writes.map WriteT.cells), .bool x.Rec.Yes]
def GroupActT.ok (x : GroupActT) : Prop := okT x.Kind ∧ okT x.Rep ∧ RecT.ok x.Rec
def GroupActT.w (x : GroupActT) : Nat := RecT.w x.Rec
theorem GroupActT.same {x y : GroupActT} (hKind : x.Kind = y.Kind) (hRep : x.Rep = y.Rep) (hRec : x.Rec = y.Rec) : x = y := by cases x; cases y; simp_all
theorem open_GroupAct : ∀ n cs, Sh Tryz.prog n 33 cs → ∃ x : GroupActT, cs = GroupActT.cells x ∧ GroupActT.ok x := by
  intro n cs h
  cases n with
  | zero => unfold Sh at h; exact h.elim
  | succ n =>
    unfold Sh at h
    rw [Tryz.underlying33] at h
    simp only [ShL] at h
    obtain ⟨y0, z0, rfl, g0, y1, z1, rfl, g1, y2, z2, rfl, g2, rfl⟩ := h
    obtain ⟨x0, rfl, o0⟩ := open_int Tryz.underlying3 _ _ g0
    obtain ⟨x1, rfl, o1⟩ := open_int Tryz.underlying3 _ _ g1
    obtain ⟨x2, rfl, o2⟩ := open_Rec _ _ g2
    exact ⟨⟨x0, x1, x2⟩, rfl, o0, o1, o2⟩
def GroupActT.shp : List Shp := [.leaf, .leaf, .leaf, .leaf, .leaf, .leaf, .sl 9 1 [.leaf], .sl 154 3 WriteT.shp, .leaf]
def GroupActT.mkM (x : GroupActT) (k : Int) : GroupActT := ⟨k, k + 1, ⟨k + 1 + 1, k + 1 + 1 + 1, k + 1 + 1 + 1 + 1, k + 1 + 1 + 1 + 1 + 1, mkL mkStr cnt1 x.Rec.Reads (k + 1 + 1 + 1 + 1 + 1 + 1), mkL WriteT.mkM WriteT.cnt x.Rec.Writes (k + 1 + 1 + 1 + 1 + 1 + 1 + (cntL cnt1 x.Rec.Reads : Int)), ((k + 1 + 1 + 1 + 1 + 1 + 1 + (cntL cnt1 x.Rec.Reads : Int) + (cntL WriteT.cnt x.Rec.Writes : Int)).tmod 3 == 0)⟩⟩
def GroupActT.cnt (x : GroupActT) : Nat := 1 + 1 + 1 + 1 + 1 + 1 + cntL cnt1 x.Rec.Reads + cntL WriteT.cnt x.Rec.Writes + 1
def GroupActT.mkS (x : GroupActT) (k : Int) : GroupActT := ⟨x.Kind, x.Rep, ⟨x.Rec.Kind, x.Rec.Txn, x.Rec.Time, x.Rec.Lead, mkL mkStr cnt1 x.Rec.Reads k, mkL WriteT.mkM WriteT.cnt x.Rec.Writes (k + (cntL cnt1 x.Rec.Reads : Int)), x.Rec.Yes⟩⟩
def GroupActT.cntS (x : GroupActT) (k : Int) : Int := k + (cntL cnt1 x.Rec.Reads : Int) + (cntL WriteT.cnt x.Rec.Writes : Int)
theorem GroupActT.cnt_w (x : GroupActT) : GroupActT.cnt x ≤ 100 * (1 + GroupActT.w x) := by
  have h0 := cntL_w100 (cnt := cnt1) (w := List.length) (fun _ => one_w100) x.Rec.Reads
  have h1 := cntL_w100 (cnt := WriteT.cnt) (w := WriteT.w) (fun y => WriteT.cnt_w y) x.Rec.Writes
  simp only [GroupActT.cnt, RecT.cnt, GroupActT.w, RecT.w] at *
  omega
theorem GroupActT.cntS_w (x : GroupActT) (k : Int) : GroupActT.cntS x k ≤ k + 100 * (1 + (GroupActT.w x : Int)) := by
  have h0 := cntL_w100 (cnt := cnt1) (w := List.length) (fun _ => one_w100) x.Rec.Reads
  have h1 := cntL_w100 (cnt := WriteT.cnt) (w := WriteT.w) (fun y => WriteT.cnt_w y) x.Rec.Writes
  simp only [GroupActT.cntS, GroupActT.cnt, RecT.cnt, GroupActT.w, RecT.w] at *
  omega
theorem c_laws_szGroupAct (x : GroupActT) (n : Int) (h0 : 0 ≤ n) (h1 : n ≤ 1048576) (hok : x.ok) : PC Tryz.prog false 9 [.agg x.cells, .int .i64 n] (.int .i64 (szN n x.w)) [] := by
  have oRec : RecT.ok x.Rec := hok.2.2
  have hw : x.w = RecT.w x.Rec := rfl
  refine pc_at Tryz.func9 rfl (by kernel_rfl) 12 [.tmp 4] rfl rfl ?_
  repeat' (conv => whnf); first
 | refine nameB_true ?_
 | refine nameB_dno (by assumption) ?_
 | refine splitB_true ?_
 | refine splitB_false ?_
 | ((by_cases hn0 : n - ((RecT.w x.Rec : Nat) : Int) < 0 <;> first | refine Call0 (pc_szneg (c_laws_szRec x.Rec n (by (try simp only [i64_wrap_eq] at *); omega) (by (try simp only [i64_wrap_eq] at *); omega) oRec) hn0) rfl rfl ?_ | refine Call0 (pc_szpos (c_laws_szRec x.Rec n (by (try simp only [i64_wrap_eq] at *); omega) (by (try simp only [i64_wrap_eq] at *); omega) oRec) hn0) rfl rfl ?_))
 | refine side_and (side_of (by first | exact Nat.le_of_ble_eq_true rfl | exact rfl | omega | fail)) ?_
 | fail
  all_goals
    conv => whnf
    refine OutA_plain rfl rfl ?_
    refine congrArg (AV.int .i64) ?_
    (try simp only [i64_wrap_eq] at *)
    first | exact szN_neg (by omega) | exact szN_pos (by omega) (by omega)
theorem c_laws_toGroupAct (x : GroupActT) (hw : GroupActT.w x ≤ 1048576) : PC Tryz.prog false 12 [.agg x.cells] (.agg [.int .i64 x.Kind, .int .i64 x.Rep, .int .i64 x.Rec.Kind, .int .i64 x.Rec.Txn, .int .i64 x.Rec.Time, .int .i64 x.Rec.Lead, .own 0, .own 1, .bool x.Rec.Yes]) [⟨.deep [.leaf], 9, 1, (x.Rec.Reads.map strC)⟩, ⟨.deep WriteT.shp, 154, 3, (x.Rec.Writes.map WriteT.cells)⟩] := by
  have hw2 : x.w = RecT.w x.Rec := rfl
  refine pc_at Tryz.func12 rfl (by kernel_rfl) 15 [.cell 2 49] rfl rfl ?_
  repeat' (conv => whnf); first
 | refine CallF (c_laws_toRec x.Rec (by omega)) rfl rfl rfl (Nat.le_of_ble_eq_true rfl) ?_
 | refine side_and (side_of (by first | exact ⟨Nat.le_of_ble_eq_true rfl, rfl⟩ | fail)) ?_
 | refine side_and (side_of (by first | exact Nat.le_of_ble_eq_true rfl | exact rfl | omega | fail)) ?_
 | refine side_and (side_of (by first | (and_intros <;> first | rfl | omega | exact Nat.le_of_ble_eq_true rfl) | fail)) ?_
 | fail
  all_goals
    conv => whnf
    exact OutA_deep rfl rfl rfl ⟨⟨rfl, rfl⟩, ⟨⟨rfl, rfl⟩, trivial⟩⟩ rfl
theorem c_laws_toGroupAct_ro (x : GroupActT) (hw : GroupActT.w x ≤ 1048576) : PC Tryz.prog true 12 [.agg x.cells] (.agg x.cells) [] := by
  have hw2 : x.w = RecT.w x.Rec := rfl
  refine pc_at Tryz.func12 rfl (by kernel_rfl) 15 [.cell 2 49] rfl rfl ?_
  repeat' (conv => whnf); first
 | refine CallF (c_laws_toRec x.Rec (by omega)) rfl rfl rfl (Nat.le_of_ble_eq_true rfl) ?_
 | refine side_and (side_of (by first | exact ⟨Nat.le_of_ble_eq_true rfl, rfl⟩ | fail)) ?_
 | refine side_and (side_of (by first | exact Nat.le_of_ble_eq_true rfl | exact rfl | omega | fail)) ?_
 | refine side_and (side_of (by first | (and_intros <;> first | rfl | omega | exact Nat.le_of_ble_eq_true rfl) | fail)) ?_
 | fail
  all_goals
    conv => whnf
    refine OutA_frz [16416, 16417] ?_
    conv => whnf
    exact OutA_plain rfl rfl rfl
theorem c_laws_eqGroupAct (x y : GroupActT) (hok : x.ok) : PC Tryz.prog false 15 [.agg x.cells, .agg y.cells] (.bool (decide (x = y))) [] := by
  refine pc_at Tryz.func15 rfl (by kernel_rfl) 21 [.tmp 4] rfl rfl ?_
  repeat' (conv => whnf); first
 | refine nameB_true ?_
 | refine nameB_false ?_
 | (refine nameB_dec (fun h => ?_) (fun h => ?_) <;> try simp only [lensB] at h)
 | (refine nameB_cases (fun h => ?_) (fun h => ?_) <;> try simp only [nmL, lensB] at h)
 | refine splitB_true ?_
 | refine splitB_false ?_
 | refine Call0 (c_laws_eqRec x.Rec y.Rec (hok.2.2)) rfl rfl ?_
 | refine side_and (side_of (by first | exact Nat.le_of_ble_eq_true rfl | exact rfl | omega | fail)) ?_
 | fail
  all_goals
    conv => whnf
    refine OutA_plain rfl rfl ?_
    first
    | exact bool_no (fun e => absurd (congrArg GroupActT.Kind e) (by assumption))
    | exact bool_no (fun e => absurd (congrArg GroupActT.Rep e) (by assumption))
    | exact bool_no (fun e => absurd (congrArg GroupActT.Rec e) (by assumption))
    | exact bool_yes (GroupActT.same (by assumption) (by assumption) (by assumption))
theorem m_laws_markGroupAct (x : GroupActT) (k : Int) (h0 : 0 ≤ k) (h1 : GroupActT.cntS x k ≤ 1152921504606846976) : MC Tryz.prog 17 true x.cells GroupActT.shp k (GroupActT.mkS x k).cells (GroupActT.cntS x k) := by
  have hcx : GroupActT.cntS x k = k + (cntL cnt1 x.Rec.Reads : Int) + (cntL WriteT.cnt x.Rec.Writes : Int) := rfl
  refine mc_of Tryz.func17 rfl (by kernel_rfl) 10 [.tmp 4] [.int .i64 x.Kind, .int .i64 x.Rep, .int .i64 x.Rec.Kind, .int .i64 x.Rec.Txn, .int .i64 x.Rec.Time, .int .i64 x.Rec.Lead, .own 0, .own 1, .bool x.Rec.Yes] rfl rfl (fun e => by first | rfl | cases e) rfl rfl ?_
  repeat' (conv => whnf); first
 | (refine CallMs (m_laws_markRec x.Rec k (by omega) (by have hss : RecT.cntS x.Rec k = k + (cntL cnt1 x.Rec.Reads : Int) + (cntL WriteT.cnt x.Rec.Writes : Int) := rfl; omega)) [] trivial rfl rfl ?_)
 | refine side_and (side_of (by first | exact Nat.le_of_ble_eq_true rfl | exact rfl | omega | fail)) ?_
 | fail
  all_goals
    conv => whnf
    exact OutM_of (by rfl) (by rfl) (by rfl) (by rfl) (by rfl)
def actG (g : GroupT) (a : GroupActT) : GroupT :=
  if a.Kind = 1 then crashR g a.Rep else if a.Kind = 2 then startR g a.Rep else if a.Kind = 3 then electR g a.Rep else if a.Kind = 4 then putR g a.Rec else if a.Kind = 5 then copyR g a.Rep else if a.Kind = 6 then advR g else zeroG
def okAct (g : GroupT) (a : GroupActT) : Bool :=
  if a.Kind = 1 then okUp g a.Rep true else if a.Kind = 2 then okUp g a.Rep false else if a.Kind = 3 then okElect g a.Rep else if a.Kind = 4 then okPut g a.Rec else if a.Kind = 5 then okCopy g a.Rep else if a.Kind = 6 then okAdv g else false
theorem act1 {g : GroupT} {a : GroupActT} (h : a.Kind = 1) : actG g a = crashR g a.Rep ∧ okAct g a = okUp g a.Rep true := by simp [actG, okAct, h]
theorem act2 {g : GroupT} {a : GroupActT} (h : a.Kind = 2) : actG g a = startR g a.Rep ∧ okAct g a = okUp g a.Rep false := by simp [actG, okAct, h]
theorem act3 {g : GroupT} {a : GroupActT} (h : a.Kind = 3) : actG g a = electR g a.Rep ∧ okAct g a = okElect g a.Rep := by simp [actG, okAct, h]
theorem act4 {g : GroupT} {a : GroupActT} (h : a.Kind = 4) : actG g a = putR g a.Rec ∧ okAct g a = okPut g a.Rec := by simp [actG, okAct, h]
theorem act5 {g : GroupT} {a : GroupActT} (h : a.Kind = 5) : actG g a = copyR g a.Rep ∧ okAct g a = okCopy g a.Rep := by simp [actG, okAct, h]
theorem act6 {g : GroupT} {a : GroupActT} (h : a.Kind = 6) : actG g a = advR g ∧ okAct g a = okAdv g := by simp [actG, okAct, h]
theorem act0 {g : GroupT} {a : GroupActT} (h1 : ¬ a.Kind = 1) (h2 : ¬ a.Kind = 2) (h3 : ¬ a.Kind = 3) (h4 : ¬ a.Kind = 4) (h5 : ¬ a.Kind = 5) (h6 : ¬ a.Kind = 6) : actG g a = zeroG ∧ okAct g a = false := by simp [actG, okAct, h1, h2, h3, h4, h5, h6]
theorem rec_len {r : RecT} (h : r.w ≤ 1048576) : r.Reads.length ≤ 1048576 ∧ r.Writes.length ≤ 1048576 := ⟨(ent_len (e := ⟨0, r⟩) h).2, (ent_len (e := ⟨0, r⟩) h).1⟩
theorem c_spec_l9Do (g : GroupT) (a : GroupActT) (hok : g.ok) (hw : GB g) (aok : a.ok) (haw : a.w ≤ 1048576) : PC Tryz.prog true 46 [.agg g.cells, .agg a.cells] (.tup [.agg (actG g a).cells, .bool (okAct g a)]) [] := by
  have hr : a.Rec.w ≤ 1048576 := haw
  refine pc_at Tryz.func46 rfl (by kernel_rfl) 55 [.cell 4 38, .tmp 5] rfl rfl ?_
  repeat' (conv => whnf); first
 | refine nameB_self (b := okUp g a.Rep true) ?_
 | refine nameB_self (b := okUp g a.Rep false) ?_
 | refine nameB_self (b := okElect g a.Rep) ?_
 | refine nameB_self (b := okPut g a.Rec) ?_
 | refine nameB_self (b := okCopy g a.Rep) ?_
 | refine nameB_self (b := okAdv g) ?_
 | (refine nameB_dec (fun h => ?_) (fun h => ?_) <;> try simp only [lensB] at h)
 | refine splitB_true ?_
 | refine splitB_false ?_
 | refine CallT (c_spec_CrashRep g a.Rep hok hw) rfl rfl rfl rfl (Nat.le_of_ble_eq_true rfl) ?_
 | refine CallT (c_spec_StartRep g a.Rep hok hw) rfl rfl rfl rfl (Nat.le_of_ble_eq_true rfl) ?_
 | refine CallT (c_spec_ElectRep g a.Rep hok hw) rfl rfl rfl rfl (Nat.le_of_ble_eq_true rfl) ?_
 | refine CallF (c_spec_PutEntryD g a.Rec hok hw aok.2.2 (rec_len hr).1 (rec_len hr).2) rfl rfl rfl (Nat.le_of_ble_eq_true rfl) ?_
 | refine CallT (c_spec_CopyTo g a.Rep hok hw) rfl rfl rfl rfl (Nat.le_of_ble_eq_true rfl) ?_
 | refine CallT (c_spec_Advance g hok hw) rfl rfl rfl rfl (Nat.le_of_ble_eq_true rfl) ?_
 | refine side_and (side_of (by first | exact ⟨Nat.le_of_ble_eq_true rfl, rfl⟩ | fail)) ?_
 | refine side_and (side_of (by first | exact Nat.le_of_ble_eq_true rfl | exact rfl | omega | fail)) ?_
 | refine side_and (side_of (by first | (and_intros <;> first | rfl | omega | exact Nat.le_of_ble_eq_true rfl) | fail)) ?_
 | fail
  all_goals
    conv => whnf
    first
    | (obtain ⟨e1, e2⟩ := act1 (g := g) (a := a) (by assumption); rw [e1, e2]; exact OutA_plain rfl rfl rfl)
    | (obtain ⟨e1, e2⟩ := act2 (g := g) (a := a) (by assumption); rw [e1, e2]; exact OutA_plain rfl rfl rfl)
    | (obtain ⟨e1, e2⟩ := act3 (g := g) (a := a) (by assumption); rw [e1, e2]; exact OutA_plain rfl rfl rfl)
    | (obtain ⟨e1, e2⟩ := act5 (g := g) (a := a) (by assumption); rw [e1, e2]; exact OutA_plain rfl rfl rfl)
    | (obtain ⟨e1, e2⟩ := act6 (g := g) (a := a) (by assumption); rw [e1, e2]; exact OutA_plain rfl rfl rfl)
    | (obtain ⟨e1, e2⟩ := act4 (g := g) (a := a) (by assumption); rw [e1, e2]; refine OutA_frz [36912] ?_; (conv => whnf); exact OutA_plain rfl rfl rfl)
    | (obtain ⟨e1, e2⟩ := act0 (g := g) (a := a) (by assumption) (by assumption) (by assumption) (by assumption) (by assumption) (by assumption); rw [e1, e2]; refine OutA_nilB 32 1 90 3 0 rfl rfl rfl (by decide) ?_; refine OutA_frz [1] ?_; (conv => whnf); exact OutA_plain rfl rfl rfl)
theorem c_impl_doGroup (g : GroupT) (a : GroupActT) (hok : g.ok) (hw : GB g) (aok : a.ok) (haw : a.w ≤ 1048576) : PC Tryz.prog false 71 [.agg g.cells, .agg a.cells] (.tup [.agg [.own 0, .int .i64 (actG g a).Term, .int .i64 (actG g a).Lead], .bool (okAct g a)]) [⟨.deep ReplicaT.shp, 90, 3, (actG g a).Reps.map ReplicaT.cells⟩] := by
  have hr : a.Rec.w ≤ 1048576 := haw
  refine pc_at Tryz.func71 rfl (by kernel_rfl) 55 [.cell 4 38, .tmp 5] rfl rfl ?_
  repeat' (conv => whnf); first
 | refine nameB_self (b := okUp g a.Rep true) ?_
 | refine nameB_self (b := okUp g a.Rep false) ?_
 | refine nameB_self (b := okElect g a.Rep) ?_
 | refine nameB_self (b := okPut g a.Rec) ?_
 | refine nameB_self (b := okCopy g a.Rep) ?_
 | refine nameB_self (b := okAdv g) ?_
 | (refine nameB_dec (fun h => ?_) (fun h => ?_) <;> try simp only [lensB] at h)
 | refine splitB_true ?_
 | refine splitB_false ?_
 | refine CallF (c_impl_CrashRep g a.Rep hok hw) rfl rfl rfl (Nat.le_of_ble_eq_true rfl) ?_
 | refine CallF (c_impl_StartRep g a.Rep hok hw) rfl rfl rfl (Nat.le_of_ble_eq_true rfl) ?_
 | refine CallF (c_impl_ElectRep g a.Rep hok hw) rfl rfl rfl (Nat.le_of_ble_eq_true rfl) ?_
 | refine CallF (c_impl_PutEntry g a.Rec hok hw aok.2.2 (rec_len hr).1 (rec_len hr).2) rfl rfl rfl (Nat.le_of_ble_eq_true rfl) ?_
 | refine CallF (c_impl_CopyTo g a.Rep hok hw) rfl rfl rfl (Nat.le_of_ble_eq_true rfl) ?_
 | refine CallF (c_impl_Advance g hok hw) rfl rfl rfl (Nat.le_of_ble_eq_true rfl) ?_
 | refine side_and (side_of (by first | exact ⟨Nat.le_of_ble_eq_true rfl, rfl⟩ | fail)) ?_
 | refine side_and (side_of (by first | exact Nat.le_of_ble_eq_true rfl | exact rfl | omega | fail)) ?_
 | refine side_and (side_of (by first | (and_intros <;> first | rfl | omega | exact Nat.le_of_ble_eq_true rfl) | fail)) ?_
 | fail
  all_goals
    conv => whnf
    first
    | (obtain ⟨e1, e2⟩ := act1 (g := g) (a := a) (by assumption); rw [e1, e2]; exact OutA_deep rfl rfl rfl ⟨⟨rfl, rfl⟩, trivial⟩ rfl)
    | (obtain ⟨e1, e2⟩ := act2 (g := g) (a := a) (by assumption); rw [e1, e2]; exact OutA_deep rfl rfl rfl ⟨⟨rfl, rfl⟩, trivial⟩ rfl)
    | (obtain ⟨e1, e2⟩ := act3 (g := g) (a := a) (by assumption); rw [e1, e2]; exact OutA_deep rfl rfl rfl ⟨⟨rfl, rfl⟩, trivial⟩ rfl)
    | (obtain ⟨e1, e2⟩ := act4 (g := g) (a := a) (by assumption); rw [e1, e2]; exact OutA_deep rfl rfl rfl ⟨⟨rfl, rfl⟩, trivial⟩ rfl)
    | (obtain ⟨e1, e2⟩ := act5 (g := g) (a := a) (by assumption); rw [e1, e2]; exact OutA_deep rfl rfl rfl ⟨⟨rfl, rfl⟩, trivial⟩ rfl)
    | (obtain ⟨e1, e2⟩ := act6 (g := g) (a := a) (by assumption); rw [e1, e2]; exact OutA_deep rfl rfl rfl ⟨⟨rfl, rfl⟩, trivial⟩ rfl)
    | (obtain ⟨e1, e2⟩ := act0 (g := g) (a := a) (by assumption) (by assumption) (by assumption) (by assumption) (by assumption) (by assumption); rw [e1, e2]; refine OutA_nilB 32 1 90 3 0 rfl rfl rfl (by decide) ?_; refine OutA_prom [(1, ReplicaT.shp)] ⟨⟨_, _, _, rfl, prom_nil⟩, trivial⟩ ?_; (conv => whnf); exact OutA_deep rfl rfl rfl ⟨⟨rfl, rfl⟩, trivial⟩ rfl)
def stepG (g : GroupT) (a : GroupActT) : GroupT := match okAct g a with | true => actG g a | false => g
theorem stepG_yes {g : GroupT} {a : GroupActT} (h : okAct g a = true) : stepG g a = actG g a := by unfold stepG; rw [h]
theorem stepG_no {g : GroupT} {a : GroupActT} (h : okAct g a = false) : stepG g a = g := by unfold stepG; rw [h]
structure PG (M : Nat) (g : GroupT) : Prop where
  ok : g.ok
  len : g.Reps.length ≤ 5
  w : ∀ x ∈ g.Reps, x.w ≤ M
theorem PG.gb {M : Nat} {g : GroupT} (h : PG M g) (hM : M ≤ 1048576) : GB g := ⟨Nat.le_trans h.len (by decide), fun x hx => Nat.le_trans (h.w x hx) hM⟩
theorem PG.le {M N : Nat} {g : GroupT} (h : PG M g) (hM : M ≤ N) : PG N g := ⟨h.ok, h.len, fun x hx => Nat.le_trans (h.w x hx) hM⟩
theorem PG.of {g : GroupT} {M : Nat} (hok : g.ok) (hg : okGroup g = true) (hw : g.w ≤ M) : PG M g := ⟨hok, okG_len hg, fun x hx => Nat.le_trans (wL_mem hx).2 hw⟩
theorem PG.set {M N : Nat} {g : GroupT} {r T L : Int} {f : ReplicaT → ReplicaT} (h : PG M g) (hM : M ≤ N) (hf : ∀ x, g.Reps[r.toNat]? = some x → (f x).ok ∧ (f x).w ≤ N) : PG N ⟨setRep g r f, T, L⟩ := by
  unfold setRep
  split
  · rename_i y hy
    obtain ⟨h1, h2⟩ := hf y hy
    refine ⟨⟨⟨by rw [List.length_set]; exact h.ok.1.1, fun x hx => ?_⟩, trivial, trivial⟩, by rw [List.length_set]; exact h.len, fun x hx => ?_⟩
    · rcases List.mem_or_eq_of_mem_set hx with q | rfl
      · exact h.ok.1.2 x q
      · exact h1
    · rcases List.mem_or_eq_of_mem_set hx with q | rfl
      · exact Nat.le_trans (h.w x q) hM
      · exact h2
  · exact ⟨⟨h.ok.1, trivial, trivial⟩, h.len, fun x hx => Nat.le_trans (h.w x hx) hM⟩
theorem PG.rep {M : Nat} {g : GroupT} {n : Nat} {x : ReplicaT} (h : PG M g) (hx : g.Reps[n]? = some x) : x.ok ∧ x.w ≤ M := ⟨h.ok.1.2 x (List.mem_of_getElem? hx), h.w x (List.mem_of_getElem? hx)⟩
theorem PG.log {M : Nat} {g : GroupT} (h : PG M g) : okL EntryT.ok (logOf g g.Lead) ∧ wL EntryT.w (logOf g g.Lead) ≤ M := by
  unfold logOf
  split
  · rename_i y hy
    exact ⟨(h.rep hy).1.2.1, (h.rep hy).2⟩
  · exact ⟨⟨Nat.zero_le _, fun _ h => by cases h⟩, Nat.zero_le _⟩
theorem wL_snoc {α : Type} {w : α → Nat} {xs : List α} {x : α} : wL w (xs ++ [x]) = wL w xs + w x + 1 := by
  unfold wL
  simp only [List.length_append, List.map_append, List.map_cons, List.map_nil, List.sum_append, List.sum_cons, List.sum_nil, List.length_cons, List.length_nil]
  omega
theorem PG.step {M : Nat} {g : GroupT} {a : GroupActT} (h : PG M g) (ha : a.ok) (hM : M ≤ 1048576) : PG (M + a.w + 1) (stepG g a) := by
  cases hk : okAct g a with
  | false => rw [stepG_no hk]; exact h.le (by omega)
  | true =>
    rw [stepG_yes hk]
    by_cases h1 : a.Kind = 1
    · rw [(act1 h1).2] at hk
      rw [(act1 h1).1, crashR, resG_yes hk]
      exact h.set (by omega) fun x hx => ⟨⟨trivial, (h.rep hx).1.2.1, trivial⟩, Nat.le_trans (h.rep hx).2 (by omega)⟩
    by_cases h2 : a.Kind = 2
    · rw [(act2 h2).2] at hk
      rw [(act2 h2).1, startR_yes hk]
      exact h.set (by omega) fun x hx => ⟨⟨trivial, (h.rep hx).1.2.1, trivial⟩, Nat.le_trans (h.rep hx).2 (by omega)⟩
    by_cases h3 : a.Kind = 3
    · rw [(act3 h3).2] at hk
      rw [(act3 h3).1, electR_yes hk]
      exact ⟨⟨h.ok.1, trivial, trivial⟩, h.len, fun x hx => Nat.le_trans (h.w x hx) (by omega)⟩
    by_cases h4 : a.Kind = 4
    · rw [(act4 h4).2] at hk
      rw [(act4 h4).1, putR_yes hk]
      refine h.set (by omega) fun x hx => ⟨⟨trivial, ?_, trivial⟩, ?_⟩
      · have q := (h.rep hx).1.2.1
        have hl : x.Log.length ≤ wL EntryT.w x.Log := wL_len
        have hw2 : wL EntryT.w x.Log ≤ M := (h.rep hx).2
        refine ⟨?_, fun z hz => ?_⟩
        · show (x.Log ++ [_]).length ≤ _
          rw [List.length_append, List.length_singleton]
          omega
        · rcases List.mem_append.1 hz with p | p
          · exact q.2 z p
          · rw [List.mem_singleton] at p
            subst p
            exact ⟨trivial, ha.2.2⟩
      · show wL EntryT.w (x.Log ++ [_]) ≤ _
        rw [wL_snoc]
        have hw2 : wL EntryT.w x.Log ≤ M := (h.rep hx).2
        have e : a.w = EntryT.w ⟨g.Term, a.Rec⟩ := rfl
        omega
    by_cases h5 : a.Kind = 5
    · rw [(act5 h5).2] at hk
      rw [(act5 h5).1, copyR_yes hk]
      refine h.set (by omega) fun x hx => ⟨⟨trivial, h.log.1, trivial⟩, ?_⟩
      exact Nat.le_trans h.log.2 (by omega)
    by_cases h6 : a.Kind = 6
    · rw [(act6 h6).2] at hk
      rw [(act6 h6).1, advR_yes hk]
      exact h.set (by omega) fun x hx => ⟨⟨trivial, (h.rep hx).1.2.1, trivial⟩, Nat.le_trans (h.rep hx).2 (by omega)⟩
    rw [(act0 h1 h2 h3 h4 h5 h6).2] at hk
    cases hk
def dskOf (ds : List DiskT) (r : Int) : DiskT := match ds[r.toNat]? with | some d => d | none => ⟨[], []⟩
theorem dskOf_of {ds : List DiskT} {r : Int} {d : DiskT} (h : ds[r.toNat]? = some d) : dskOf ds r = d := by unfold dskOf; rw [h]
def onK (d : DiskT) : List EntryT := (frames d.Kept 0).1.map outE
def backG (g : GroupT) (r : Int) (d : DiskT) : GroupT := ⟨setRep g r (fun _ => ⟨true, onK d, 0⟩), g.Term, g.Lead⟩
def putH (h : HouseT) (g : GroupT) : HouseT := ⟨g, h.Disks.set g.Lead.toNat ⟨keptB (logOf g g.Lead), []⟩⟩
def copyH (h : HouseT) (g : GroupT) (r : Int) : HouseT := ⟨g, h.Disks.set r.toNat ⟨keptB (logOf g r), []⟩⟩
def backH (h : HouseT) (g : GroupT) (r : Int) : HouseT := ⟨backG g r (dskOf h.Disks r), h.Disks.set r.toNat (mended (dskOf h.Disks r))⟩
def actH (h : HouseT) (a : GroupActT) : HouseT :=
  if a.Kind = 4 then putH h (actG h.Group a) else if a.Kind = 5 then copyH h (actG h.Group a) a.Rep else if a.Kind = 2 then backH h (actG h.Group a) a.Rep else ⟨actG h.Group a, h.Disks⟩
def okBack (h : HouseT) (a : GroupActT) : Bool := !decide (a.Kind = 2) || okLog (onK (dskOf h.Disks a.Rep)) (actG h.Group a).Term
def zeroH : HouseT := ⟨zeroG, []⟩
def resH (b : Bool) (h : HouseT) : HouseT := match b with | true => h | false => zeroH
theorem resH_yes {b : Bool} {h : HouseT} (e : b = true) : resH b h = h := by rw [e]; rfl
theorem resH_no {b : Bool} {h : HouseT} (e : b = false) : resH b h = zeroH := by rw [e]; rfl
def okActI (h : HouseT) (a : GroupActT) : Bool := okAct h.Group a && okBack h a
def actI (h : HouseT) (a : GroupActT) : HouseT := resH (okActI h a) (actH h a)
theorem actI_no {h : HouseT} {a : GroupActT} (e : okAct h.Group a = false) : okActI h a = false ∧ actI h a = zeroH := by
  have q : okActI h a = false := by unfold okActI; rw [e]; rfl
  exact ⟨q, by rw [actI, resH_no q]⟩
theorem actI_4 {h : HouseT} {a : GroupActT} (e : okAct h.Group a = true) (hk : a.Kind = 4) : okActI h a = true ∧ actI h a = putH h (actG h.Group a) := by
  have q : okActI h a = true := by unfold okActI okBack; rw [e, decide_eq_false (show ¬ a.Kind = 2 by omega)]; rfl
  exact ⟨q, by rw [actI, resH_yes q, actH, if_pos hk]⟩
theorem actI_5 {h : HouseT} {a : GroupActT} (e : okAct h.Group a = true) (hk : a.Kind = 5) : okActI h a = true ∧ actI h a = copyH h (actG h.Group a) a.Rep := by
  have q : okActI h a = true := by unfold okActI okBack; rw [e, decide_eq_false (show ¬ a.Kind = 2 by omega)]; rfl
  exact ⟨q, by rw [actI, resH_yes q, actH, if_neg (by omega), if_pos hk]⟩
theorem actI_2 {h : HouseT} {a : GroupActT} (e : okAct h.Group a = true) (hk : a.Kind = 2) (hl : okLog (onK (dskOf h.Disks a.Rep)) (actG h.Group a).Term = true) : okActI h a = true ∧ actI h a = backH h (actG h.Group a) a.Rep := by
  have q : okActI h a = true := by unfold okActI okBack; rw [e, hl]; simp
  exact ⟨q, by rw [actI, resH_yes q, actH, if_neg (by omega), if_neg (by omega), if_pos hk]⟩
theorem actI_2n {h : HouseT} {a : GroupActT} (hk : a.Kind = 2) (hl : okLog (onK (dskOf h.Disks a.Rep)) (actG h.Group a).Term = false) : okActI h a = false ∧ actI h a = zeroH := by
  have q : okActI h a = false := by unfold okActI okBack; rw [hl, decide_eq_true hk]; simp
  exact ⟨q, by rw [actI, resH_no q]⟩
theorem actI_n {h : HouseT} {a : GroupActT} (e : okAct h.Group a = true) (h4 : ¬ a.Kind = 4) (h5 : ¬ a.Kind = 5) (h2 : ¬ a.Kind = 2) : okActI h a = true ∧ actI h a = ⟨actG h.Group a, h.Disks⟩ := by
  have q : okActI h a = true := by unfold okActI okBack; rw [e, decide_eq_false h2]; rfl
  exact ⟨q, by rw [actI, resH_yes q, actH, if_neg h4, if_neg h5, if_neg h2]⟩
theorem allPre_mem {α : Type} {p : List α → α → Bool} : ∀ {l pre : List α}, allPre p pre l = true → ∀ e ∈ l, ∃ q, p q e = true
  | [], _, _, e, he => by cases he
  | x :: xs, pre, h, e, he => by
    simp only [allPre, Bool.and_eq_true] at h
    rcases List.mem_cons.1 he with rfl | he
    · exact ⟨pre, h.1⟩
    · exact allPre_mem h.2 e he
theorem okLog_mem {l : List EntryT} {t : Int} (h : okLog l t = true) : l.length ≤ 60 ∧ ∀ e ∈ l, okRec e.Rec = true ∧ (1 ≤ e.Term ∧ e.Term ≤ t) := by
  unfold okLog at h
  simp only [Bool.and_eq_true, decide_eq_true_eq] at h
  refine ⟨by omega, fun e he => ?_⟩
  obtain ⟨q, hq⟩ := allPre_mem h.1 e he
  unfold entAt at hq
  simp only [Bool.and_eq_true, inB, decide_eq_true_eq] at hq
  exact ⟨hq.1.2, hq.1.1⟩
structure OkG (g : GroupT) : Prop where
  many : okMany (g.Reps.length : Int) = true
  term : 0 ≤ g.Term ∧ g.Term ≤ 200
  lead : okLead g = true
  rep : ∀ x ∈ g.Reps, okRep g.Term x = true
theorem okG_of {g : GroupT} (h : okGroup g = true) : OkG g := by
  unfold okGroup at h
  simp only [Bool.and_eq_true, List.all_eq_true, inB, decide_eq_true_eq] at h
  exact ⟨h.1.1.1, h.1.1.2, h.1.2, h.2⟩
theorem okG_ents {g : GroupT} (h : okGroup g = true) (hb : GB g) {x : ReplicaT} (hx : x ∈ g.Reps) : x.Log.length ≤ 60 ∧ ∀ e ∈ x.Log, entIn e := by
  have o := okG_of h
  have h2 := o.rep x hx
  unfold okRep at h2
  simp only [Bool.and_eq_true] at h2
  obtain ⟨h3, h4⟩ := okLog_mem h2.1
  refine ⟨h3, fun e he => ⟨(h4 e he).1, by have := (h4 e he).2; have := o.term; omega, ?_⟩⟩
  exact Nat.le_trans (wL_mem (w := EntryT.w) he).2 (hb.2 x hx)
structure OkH (h : HouseT) : Prop where
  g : okGroup h.Group = true
  len : h.Disks.length = h.Group.Reps.length
  pair : ∀ (n : Nat) (x : ReplicaT) (d : DiskT), h.Group.Reps[n]? = some x → h.Disks[n]? = some d → fitsD h.Group.Term x d = true
theorem okH_of {h : HouseT} (e : okHouse h = true) : OkH h := by
  unfold okHouse at e
  simp only [Bool.and_eq_true, decide_eq_true_eq] at e
  obtain ⟨⟨e1, e2⟩, e3⟩ := e
  refine ⟨e1, by omega, fun n x d hx hd => ?_⟩
  rw [List.all_eq_true] at e3
  exact e3 (x, d) (List.mem_of_getElem? (zip_at hx hd))
theorem fitsD_mend {t : Int} {x : ReplicaT} {d : DiskT} (h : fitsD t x d = true) : mendB d = true ∧ (frames d.Kept 0).1.all okE = true := by
  unfold fitsD at h
  simp only [Bool.and_eq_true] at h
  exact h.1
theorem OkH.disk {h : HouseT} (o : OkH h) {n : Nat} {d : DiskT} (hd : h.Disks[n]? = some d) : mendB d = true ∧ (frames d.Kept 0).1.all okE = true := by
  have hn := (List.getElem?_eq_some_iff.1 hd).1
  exact fitsD_mend (o.pair n _ d (List.getElem?_eq_getElem (show n < h.Group.Reps.length by rw [← o.len]; exact hn)) hd)
theorem setRep_at {g : GroupT} {r : Int} {f : ReplicaT → ReplicaT} {y : ReplicaT} {T L : Int} (hy : g.Reps[r.toNat]? = some y) : (⟨setRep g r f, T, L⟩ : GroupT).Reps[r.toNat]? = some (f y) := by
  show (setRep g r f)[r.toNat]? = some (f y)
  rw [setRep_of hy]
  have := (List.getElem?_eq_some_iff.1 hy).1
  simp [this]
theorem setRep_len2 {g : GroupT} {r : Int} {f : ReplicaT → ReplicaT} : (setRep g r f).length = g.Reps.length := by
  unfold setRep
  split
  · rw [List.length_set]
  · rfl
theorem act_put {h : HouseT} {a : GroupActT} (hb : GB h.Group) (o : OkH h) (haw : a.w ≤ 1048576) (hk : a.Kind = 4) (ho : okAct h.Group a = true) :
    ∃ y, (actG h.Group a).Reps[(actG h.Group a).Lead.toNat]? = some y ∧ 0 ≤ (actG h.Group a).Lead ∧ (actG h.Group a).Lead.toNat < h.Disks.length ∧ y.Log.length ≤ 61 ∧ ∀ e ∈ y.Log, entIn e := by
  rw [(act4 hk).2] at ho
  rw [(act4 hk).1, putR_yes ho]
  have h2 : okGroup h.Group = true ∧ (0 ≤ h.Group.Lead ∧ (lenLead h.Group < 60 ∧ okRec a.Rec = true)) := by
    unfold okPut at ho
    simpa only [Bool.and_eq_true, decide_eq_true_eq] using ho
  have hlt := (okLead_lt h2.1 (by omega)).2
  have hy : h.Group.Reps[h.Group.Lead.toNat]? = some h.Group.Reps[h.Group.Lead.toNat] := List.getElem?_eq_getElem hlt
  refine ⟨_, setRep_at hy, h2.2.1, by rw [o.len]; exact hlt, ?_, fun e he => ?_⟩
  · have := (okG_ents h2.1 hb (List.mem_of_getElem? hy)).1
    show (_ ++ [_]).length ≤ 61
    rw [List.length_append, List.length_singleton]
    omega
  · rcases List.mem_append.1 he with p | p
    · exact (okG_ents h2.1 hb (List.mem_of_getElem? hy)).2 e p
    · rw [List.mem_singleton] at p
      subst p
      exact ⟨h2.2.2.2, (okG_of h2.1).term, haw⟩
theorem act_copy {h : HouseT} {a : GroupActT} (hb : GB h.Group) (o : OkH h) (hk : a.Kind = 5) (ho : okAct h.Group a = true) :
    ∃ y, (actG h.Group a).Reps[a.Rep.toNat]? = some y ∧ 0 ≤ a.Rep ∧ a.Rep.toNat < h.Disks.length ∧ y.Log.length ≤ 61 ∧ ∀ e ∈ y.Log, entIn e := by
  rw [(act5 hk).2] at ho
  rw [(act5 hk).1, copyR_yes ho]
  have h1 : okUp h.Group a.Rep true = true := by unfold okCopy at ho; simp only [Bool.and_eq_true] at ho; exact ho.1
  obtain ⟨l1, l2⟩ := okUp_lt h1
  have hg := okUp_g' h1
  have hy : h.Group.Reps[a.Rep.toNat]? = some h.Group.Reps[a.Rep.toNat] := List.getElem?_eq_getElem l2
  have hlog : (logOf h.Group h.Group.Lead).length ≤ 60 ∧ ∀ e ∈ logOf h.Group h.Group.Lead, entIn e := by
    unfold logOf
    split
    · rename_i z hz
      exact okG_ents hg hb (List.mem_of_getElem? hz)
    · exact ⟨Nat.zero_le _, fun _ q => by cases q⟩
  exact ⟨_, setRep_at hy, l1, by rw [o.len]; exact l2, Nat.le_trans hlog.1 (by omega), hlog.2⟩
theorem act_start {h : HouseT} {a : GroupActT} (o : OkH h) (hk : a.Kind = 2) (ho : okAct h.Group a = true) :
    ∃ d y, h.Disks[a.Rep.toNat]? = some d ∧ (actG h.Group a).Reps[a.Rep.toNat]? = some y ∧ 0 ≤ a.Rep ∧ a.Rep.toNat < h.Disks.length ∧ (actG h.Group a).Reps.length = h.Disks.length ∧ mendB d = true ∧ (frames d.Kept 0).1.all okE = true := by
  rw [(act2 hk).2] at ho
  rw [(act2 hk).1, startR_yes ho]
  obtain ⟨l1, l2⟩ := okUp_lt ho
  have hy : h.Group.Reps[a.Rep.toNat]? = some h.Group.Reps[a.Rep.toNat] := List.getElem?_eq_getElem l2
  have hd : h.Disks[a.Rep.toNat]? = some (h.Disks[a.Rep.toNat]'(by rw [o.len]; exact l2)) := List.getElem?_eq_getElem _
  exact ⟨_, _, hd, setRep_at hy, l1, by rw [o.len]; exact l2, by rw [o.len]; exact setRep_len2, o.disk hd⟩
end Go.Proofs.YtfpkfnfgloonhaaGreat
