/- Part 6 of one proof: lemmas and contracts, laid one behind the other. No condition. -/
import Derived.Test.YtfpkfnfgloonhaaGreatF5
namespace Go.Proofs.YtfpkfnfgloonhaaGreat
open Go.Ab
set_option linter.unusedSimpArgs false
set_option maxRecDepth 20000
set_option maxHeartbeats 4000000
set_option linter.unusedVariables false

theorem c_impl_isLogE (l : List EntryT) (term : Int) (hok : okL EntryT.ok l) (hw : ∀ x ∈ l, x.w ≤ 1048576) : PC Tryz.prog false 101 [.sl (l.map EntryT.cells), .int .i64 term] (.bool (okLog l term)) [] := by
  have hl := hok.1
  refine pc_at Tryz.func101 rfl (by kernel_rfl) 44 [.tmp 4] rfl rfl ?_
  repeat' (conv => whnf); first
 | refine ix_as (m := k - 1) (by simp only [i64_wrap_eq]; omega) (by omega) (fun y hy => ?_)
 | (refine nameB_cases (b := okRec x.Rec) (fun h => ?_) (fun h => ?_))
 | refine nameB_true ?_
 | refine nameB_false ?_
 | (refine nameB_dec (fun h => ?_) (fun h => ?_) <;> try simp only [lensB] at h)
 | (refine nameB_cases (fun h => ?_) (fun h => ?_) <;> try simp only [nmL, lensB] at h)
 | refine splitB_true ?_
 | refine splitB_false ?_
 | refine draw_text (by kernel_rfl) (by kernel_rfl) (by kernel_rfl) ?_
 | ((refine Loop_at [0, 1, 7, 8] [] (Nat) (fun k => allPre (entAt term) (l.take k) (l.drop k) = allPre (entAt term) [] l ∧ k ≤ l.length) (fun k => [(9, .int .i64 (k : Nat))]) (fun k => []) (fun k => l.length - k) 0 ⟨by first | (simp_all <;> fail) | rfl | fail, trivial⟩ trivial (by (try dsimp only); first | (exact ⟨rfl, by omega⟩) | fail) ?_; (conv => whnf); refine side_and (side_of (by first | exact fun k => rfl | exact fun k => by simp [headOk, closedE, closedO, closedL, AV.closed, hcap.closed, hasId, AObj.box, BK.ofB])) ?_; rintro k hT; try dsimp only at hT))
 | (refine Again_of (k + 1) ⟨by first | rfl | exact i64_next (by omega) | (simp_all <;> fail) | fail, trivial⟩ trivial (by first | (and_intros <;> first | rfl | trivial) | fail) (by first | (and_intros <;> first | rfl | trivial) | fail) rfl rfl rfl (by (try dsimp only); first | (first | exact ⟨allPre_go hT.1 hx (entAt_yes (by assumption) (by assumption) (prevB_zero (by assumption))), by omega⟩ | exact ⟨allPre_go hT.1 hx (entAt_yes (by assumption) (by assumption) ((prevB_pos (by assumption) hy).trans (decide_eq_true (by omega)))), by omega⟩) | fail) (show _ < _ by (try dsimp only); omega))
 | refine CallD0 (c_impl_within ..) rfl rfl rfl ?_
 | refine CallD0 (c_impl_GoodRec x.Rec (hok.2 x (List.mem_of_getElem? hx)).2 (ent_len (hw x (List.mem_of_getElem? hx))).1 (ent_len (hw x (List.mem_of_getElem? hx))).2) rfl rfl rfl ?_
 | (refine ix_map (by omega) (by (try simp only [List.length_take]); omega) (fun x hx => ?_); try simp only [Int.toNat_natCast] at hx)
 | refine side_and (side_of (by first | exact ⟨Nat.le_of_ble_eq_true rfl, rfl⟩ | fail)) ?_
 | refine side_and (side_of (by first | exact Nat.le_of_ble_eq_true rfl | exact rfl | omega | fail)) ?_
 | refine side_and (side_of (by first | (and_intros <;> first | rfl | omega | exact Nat.le_of_ble_eq_true rfl) | fail)) ?_
 | refine LoadK_of rfl rfl ?_
 | fail
  all_goals
    conv => whnf
    refine OutA_plain rfl rfl ?_
    first
    | (have hb := allPre_bad hT.1 hx (entAt_no (.inl (by assumption))); simp only [okLog, hb, Bool.false_and]; rfl)
    | (have hb := allPre_bad hT.1 hx (entAt_no (.inr (.inl (by assumption)))); simp only [okLog, hb, Bool.false_and]; rfl)
    | (have hb := allPre_bad hT.1 hx (entAt_no (.inr (.inr ((prevB_pos (by assumption) hy).trans (decide_eq_false (by omega)))))); simp only [okLog, hb, Bool.false_and]; rfl)
    | (have hb := allPre_end hT.1 (by assumption); simp only [okLog, hb, Bool.true_and, *]; rfl)
theorem onK_ok {d : DiskT} (h : d.Kept.length ≤ 1048576) : okL EntryT.ok (onK d) ∧ (∀ x ∈ onK d, x.w ≤ 1048576) ∧ (onK d).length ≤ d.Kept.length := by
  obtain ⟨f1, f2, f3⟩ := frames_ok (b := d.Kept)
  unfold onK
  refine ⟨⟨by rw [List.length_map]; omega, fun x hx => ?_⟩, fun x hx => ?_, by rw [List.length_map]; exact f2⟩
  · obtain ⟨z, _, rfl⟩ := List.mem_map.1 hx
    exact small_ok outE_small
  · obtain ⟨z, _, rfl⟩ := List.mem_map.1 hx
    exact outE_small.w
theorem c_impl_actHouse_no (h : HouseT) (a : GroupActT) (hok : h.ok) (hb : GB h.Group) (aok : a.ok) (haw : a.w ≤ 1048576) (ho : okAct h.Group a = false) : PC Tryz.prog false 52 [.agg h.cells, .agg a.cells] (.tup [.agg [.own 0, .int .i64 0, .int .i64 0, .own 1], .bool false]) [⟨.deep ReplicaT.shp, 90, 3, []⟩, ⟨.deep DiskT.shp, 92, 2, []⟩] := by
  refine pc_at Tryz.func52 rfl (by kernel_rfl) 102 [.cell 4 41, .tmp 5] rfl rfl ?_
  repeat' (conv => whnf); first
 | refine nameB_no (b := okAct h.Group a) ho ?_
 | refine nameB_true ?_
 | refine splitB_true ?_
 | refine CallF (c_impl_doGroup h.Group a hok.1 hb aok haw) rfl rfl rfl (Nat.le_of_ble_eq_true rfl) ?_
 | refine side_and (side_of (by first | exact ⟨Nat.le_of_ble_eq_true rfl, rfl⟩ | fail)) ?_
 | refine side_and (side_of (by first | exact Nat.le_of_ble_eq_true rfl | exact rfl | omega | fail)) ?_
 | refine side_and (side_of (by first | (and_intros <;> first | rfl | omega | exact Nat.le_of_ble_eq_true rfl) | fail)) ?_
 | fail
  all_goals
    conv => whnf
    refine OutA_nilB 32 1 90 3 0 rfl rfl rfl (by decide) ?_
    refine OutA_nilB 32 2 92 2 3 rfl rfl rfl (by decide) ?_
    refine OutA_prom [(1, ReplicaT.shp), (2, DiskT.shp)] ⟨⟨_, _, _, rfl, prom_nil⟩, ⟨_, _, _, rfl, prom_nil⟩, trivial⟩ ?_
    conv => whnf
    exact OutA_deep rfl rfl rfl ⟨⟨rfl, rfl⟩, ⟨⟨rfl, rfl⟩, trivial⟩⟩ rfl
theorem set_dsk {ds : List DiskT} {n : Nat} {d : DiskT} {c : List AV} (hc : c = d.cells) : (ds.map DiskT.cells).set n c = (ds.set n d).map DiskT.cells := by rw [hc, List.map_set]
theorem prom_set {sh : List Shp} {xs : List (List AV)} {n : Nat} {c : List AV} (h : ∀ e ∈ xs, flatFit sh e = true) (hc : flatFit sh c = true) : ∀ e ∈ xs.set n c, flatFit sh e = true := fun e he => by
  rcases List.mem_or_eq_of_mem_set he with q | rfl
  · exact h e q
  · exact hc
theorem putH_of {h : HouseT} {g : GroupT} {y : ReplicaT} (hy : g.Reps[g.Lead.toNat]? = some y) : putH h g = ⟨g, h.Disks.set g.Lead.toNat ⟨keptB y.Log, []⟩⟩ := by unfold putH; rw [logOf_of hy]
theorem copyH_of {h : HouseT} {g : GroupT} {r : Int} {y : ReplicaT} (hy : g.Reps[r.toNat]? = some y) : copyH h g r = ⟨g, h.Disks.set r.toNat ⟨keptB y.Log, []⟩⟩ := by unfold copyH; rw [logOf_of hy]
theorem backH_of {h : HouseT} {g : GroupT} {r : Int} {d : DiskT} (hd : h.Disks[r.toNat]? = some d) : backH h g r = ⟨⟨setRep g r (fun _ => ⟨true, onK d, 0⟩), g.Term, g.Lead⟩, h.Disks.set r.toNat (mended d)⟩ := by unfold backH backG; rw [dskOf_of hd]
theorem c_impl_actHouse_4 (h : HouseT) (a : GroupActT) (y : ReplicaT) (hok : h.ok) (hb : GB h.Group) (aok : a.ok) (haw : a.w ≤ 1048576) (ho : okAct h.Group a = true) (hk : a.Kind = 4) (hdl : h.Disks.length ≤ 1048576)
    (hy : (actG h.Group a).Reps[(actG h.Group a).Lead.toNat]? = some y) (h0 : 0 ≤ (actG h.Group a).Lead) (h1 : (actG h.Group a).Lead.toNat < h.Disks.length) (h2 : y.Log.length ≤ 61) (h3 : ∀ e ∈ y.Log, entIn e) :
    PC Tryz.prog false 52 [.agg h.cells, .agg a.cells] (.tup [.agg [.own 0, .int .i64 (actG h.Group a).Term, .int .i64 (actG h.Group a).Lead, .own 1], .bool true]) [⟨.deep ReplicaT.shp, 90, 3, (actG h.Group a).Reps.map ReplicaT.cells⟩, ⟨.deep DiskT.shp, 92, 2, (putH h (actG h.Group a)).Disks.map DiskT.cells⟩] := by
  have hn := (List.getElem?_eq_some_iff.1 hy).1
  refine pc_at Tryz.func52 rfl (by kernel_rfl) 102 [.cell 4 41, .tmp 5] rfl rfl ?_
  repeat' (conv => whnf); first
 | refine nameB_yes (b := okAct h.Group a) ho ?_
 | refine nameB_dyes hk ?_
 | refine ix_ownat (f := ReplicaT.cells) (xs := (actG h.Group a).Reps) hy ?_
 | (refine ix_own (f := DiskT.cells) (xs := h.Disks) h1 (fun d hd => ?_))
 | refine nameB_false ?_
 | refine splitB_true ?_
 | refine splitB_false ?_
 | refine draw_text (by kernel_rfl) (by kernel_rfl) (by kernel_rfl) ?_
 | refine CallF (c_impl_doGroup h.Group a hok.1 hb aok haw) rfl rfl rfl (Nat.le_of_ble_eq_true rfl) ?_
 | refine CallDF (c_Clone_Disk h.Disks hdl) rfl rfl ⟨rfl, rfl⟩ ?_
 | refine CallD0 (c_impl_diskOf y.Log h3 h2) rfl rfl rfl ?_
 | refine side_and (side_of (by first | exact ⟨Nat.le_of_ble_eq_true rfl, rfl⟩ | fail)) ?_
 | refine side_and (side_of (by first | exact Nat.le_of_ble_eq_true rfl | exact rfl | omega | fail)) ?_
 | refine side_and (side_of (by first | (and_intros <;> first | rfl | omega | exact Nat.le_of_ble_eq_true rfl) | fail)) ?_
 | refine side_and (side_of (by first | (and_intros <;> first | exact Nat.le_of_ble_eq_true rfl | rfl | omega | (simp only [lensB, lensC]; omega) | exact bytes_ok (Nat.le_of_ble_eq_true rfl) (by omega) (by simp only [lensB, lensC]; omega) | exact bytes_okN (Nat.le_of_ble_eq_true rfl) (by simp only [lensB, lensC]; omega)) | fail)) ?_
 | refine LoadR_cel rfl rfl rfl rfl ?_
 | fail
  all_goals
    conv => whnf
    rw [putH_of hy]
    refine OutA_prom [(16432, DiskT.shp)] ⟨⟨_, _, _, rfl, prom_set (prom_map (fun _ => rfl)) rfl⟩, trivial⟩ ?_
    conv => whnf
    exact OutA_deep rfl rfl rfl ⟨⟨rfl, rfl⟩, ⟨⟨congrArg (fun e => some (AObj.mk _ _ _ e)) (set_dsk (d := ⟨keptB y.Log, []⟩) rfl), rfl⟩, trivial⟩⟩ rfl
theorem c_impl_actHouse_5 (h : HouseT) (a : GroupActT) (y : ReplicaT) (hok : h.ok) (hb : GB h.Group) (aok : a.ok) (haw : a.w ≤ 1048576) (ho : okAct h.Group a = true) (hk : a.Kind = 5) (hdl : h.Disks.length ≤ 1048576)
    (hy : (actG h.Group a).Reps[a.Rep.toNat]? = some y) (h0 : 0 ≤ a.Rep) (h1 : a.Rep.toNat < h.Disks.length) (h2 : y.Log.length ≤ 61) (h3 : ∀ e ∈ y.Log, entIn e) :
    PC Tryz.prog false 52 [.agg h.cells, .agg a.cells] (.tup [.agg [.own 0, .int .i64 (actG h.Group a).Term, .int .i64 (actG h.Group a).Lead, .own 1], .bool true]) [⟨.deep ReplicaT.shp, 90, 3, (actG h.Group a).Reps.map ReplicaT.cells⟩, ⟨.deep DiskT.shp, 92, 2, (copyH h (actG h.Group a) a.Rep).Disks.map DiskT.cells⟩] := by
  have hn := (List.getElem?_eq_some_iff.1 hy).1
  refine pc_at Tryz.func52 rfl (by kernel_rfl) 102 [.cell 4 41, .tmp 5] rfl rfl ?_
  repeat' (conv => whnf); first
 | refine nameB_yes (b := okAct h.Group a) ho ?_
 | refine nameB_dyes hk ?_
 | refine nameB_dno (by omega) ?_
 | refine ix_ownat (f := ReplicaT.cells) (xs := (actG h.Group a).Reps) hy ?_
 | (refine ix_own (f := DiskT.cells) (xs := h.Disks) h1 (fun d hd => ?_))
 | refine nameB_false ?_
 | refine splitB_true ?_
 | refine splitB_false ?_
 | refine draw_text (by kernel_rfl) (by kernel_rfl) (by kernel_rfl) ?_
 | refine CallF (c_impl_doGroup h.Group a hok.1 hb aok haw) rfl rfl rfl (Nat.le_of_ble_eq_true rfl) ?_
 | refine CallDF (c_Clone_Disk h.Disks hdl) rfl rfl ⟨rfl, rfl⟩ ?_
 | refine CallD0 (c_impl_diskOf y.Log h3 h2) rfl rfl rfl ?_
 | refine side_and (side_of (by first | exact ⟨Nat.le_of_ble_eq_true rfl, rfl⟩ | fail)) ?_
 | refine side_and (side_of (by first | exact Nat.le_of_ble_eq_true rfl | exact rfl | omega | fail)) ?_
 | refine side_and (side_of (by first | (and_intros <;> first | rfl | omega | exact Nat.le_of_ble_eq_true rfl) | fail)) ?_
 | refine side_and (side_of (by first | (and_intros <;> first | exact Nat.le_of_ble_eq_true rfl | rfl | omega | (simp only [lensB, lensC]; omega) | exact bytes_ok (Nat.le_of_ble_eq_true rfl) (by omega) (by simp only [lensB, lensC]; omega) | exact bytes_okN (Nat.le_of_ble_eq_true rfl) (by simp only [lensB, lensC]; omega)) | fail)) ?_
 | refine LoadR_cel rfl rfl rfl rfl ?_
 | fail
  all_goals
    conv => whnf
    rw [copyH_of hy]
    refine OutA_prom [(16432, DiskT.shp)] ⟨⟨_, _, _, rfl, prom_set (prom_map (fun _ => rfl)) rfl⟩, trivial⟩ ?_
    conv => whnf
    exact OutA_deep rfl rfl rfl ⟨⟨rfl, rfl⟩, ⟨⟨congrArg (fun e => some (AObj.mk _ _ _ e)) (set_dsk (d := ⟨keptB y.Log, []⟩) rfl), rfl⟩, trivial⟩⟩ rfl
theorem c_impl_actHouse_n (h : HouseT) (a : GroupActT) (hok : h.ok) (hb : GB h.Group) (aok : a.ok) (haw : a.w ≤ 1048576) (ho : okAct h.Group a = true) (h4 : ¬ a.Kind = 4) (h5 : ¬ a.Kind = 5) (h2 : ¬ a.Kind = 2) (hdl : h.Disks.length ≤ 1048576) :
    PC Tryz.prog false 52 [.agg h.cells, .agg a.cells] (.tup [.agg [.own 0, .int .i64 (actG h.Group a).Term, .int .i64 (actG h.Group a).Lead, .own 1], .bool true]) [⟨.deep ReplicaT.shp, 90, 3, (actG h.Group a).Reps.map ReplicaT.cells⟩, ⟨.deep DiskT.shp, 92, 2, h.Disks.map DiskT.cells⟩] := by
  refine pc_at Tryz.func52 rfl (by kernel_rfl) 102 [.cell 4 41, .tmp 5] rfl rfl ?_
  repeat' (conv => whnf); first
 | refine nameB_yes (b := okAct h.Group a) ho ?_
 | refine nameB_dno (by assumption) ?_
 | refine nameB_false ?_
 | refine splitB_false ?_
 | refine draw_text (by kernel_rfl) (by kernel_rfl) (by kernel_rfl) ?_
 | refine CallF (c_impl_doGroup h.Group a hok.1 hb aok haw) rfl rfl rfl (Nat.le_of_ble_eq_true rfl) ?_
 | refine CallDF (c_Clone_Disk h.Disks hdl) rfl rfl ⟨rfl, rfl⟩ ?_
 | refine side_and (side_of (by first | exact ⟨Nat.le_of_ble_eq_true rfl, rfl⟩ | fail)) ?_
 | refine side_and (side_of (by first | exact Nat.le_of_ble_eq_true rfl | exact rfl | omega | fail)) ?_
 | refine side_and (side_of (by first | (and_intros <;> first | rfl | omega | exact Nat.le_of_ble_eq_true rfl) | fail)) ?_
 | fail
  all_goals
    conv => whnf
    refine OutA_prom [(16432, DiskT.shp)] ⟨⟨_, _, _, rfl, prom_map (fun _ => rfl)⟩, trivial⟩ ?_
    conv => whnf
    exact OutA_deep rfl rfl rfl ⟨⟨rfl, rfl⟩, ⟨⟨rfl, rfl⟩, trivial⟩⟩ rfl
theorem c_impl_actHouse_2 (h : HouseT) (a : GroupActT) (d : DiskT) (y : ReplicaT) (hok : h.ok) (hb : GB h.Group) (aok : a.ok) (haw : a.w ≤ 1048576) (ho : okAct h.Group a = true) (hk : a.Kind = 2) (hdl : h.Disks.length ≤ 1048576)
    (hd : h.Disks[a.Rep.toNat]? = some d) (hy : (actG h.Group a).Reps[a.Rep.toNat]? = some y) (h0 : 0 ≤ a.Rep) (h1 : a.Rep.toNat < h.Disks.length) (hm : mendB d = true) (hall : (frames d.Kept 0).1.all okE = true) :
    PC Tryz.prog false 52 [.agg h.cells, .agg a.cells] (.tup [.agg [.own 0, .int .i64 (actI h a).Group.Term, .int .i64 (actI h a).Group.Lead, .own 1], .bool (okActI h a)]) [⟨.deep ReplicaT.shp, 90, 3, (actI h a).Group.Reps.map ReplicaT.cells⟩, ⟨.deep DiskT.shp, 92, 2, (actI h a).Disks.map DiskT.cells⟩] := by
  have hn := (List.getElem?_eq_some_iff.1 hy).1
  obtain ⟨m1, m2, m3⟩ := mendB_of hm
  have hw2 := okDsk_w m1
  have hkl : d.w = d.Kept.length + d.Loose.length := rfl
  have hod := c_impl_onDisk_yes d (by omega) (by rw [m3]; exact hall)
  rw [m3] at hod
  have he := frames_end (b := d.Kept)
  obtain ⟨k1, k2, k3⟩ := onK_ok (d := d) (by omega)
  refine pc_at Tryz.func52 rfl (by kernel_rfl) 102 [.cell 4 41, .tmp 5] rfl rfl ?_
  repeat' (conv => whnf); first
 | refine nameB_yes (b := okAct h.Group a) ho ?_
 | refine nameB_dyes hk ?_
 | refine nameB_dno (by omega) ?_
 | refine StoreD_keep 9 1 rfl rfl rfl rfl rfl rfl ?_
 | refine ix_re (f := DiskT.cells) h0 hd ?_
 | refine ix_ownat (f := DiskT.cells) (xs := h.Disks) hd ?_
 | refine ix_ownat (f := ReplicaT.cells) (xs := (actG h.Group a).Reps) hy ?_
 | (refine nameB_cases (b := okLog (onK d) (actG h.Group a).Term) (fun hg => ?_) (fun hg => ?_))
 | refine nameB_true ?_
 | refine nameB_false ?_
 | refine splitB_true ?_
 | refine splitB_false ?_
 | refine draw_text (by kernel_rfl) (by kernel_rfl) (by kernel_rfl) ?_
 | refine CallF (c_impl_doGroup h.Group a hok.1 hb aok haw) rfl rfl rfl (Nat.le_of_ble_eq_true rfl) ?_
 | refine CallF (hod) rfl rfl rfl (Nat.le_of_ble_eq_true rfl) ?_
 | refine Call0 (c_impl_isLogE (onK d) (actG h.Group a).Term k1 k2) rfl rfl ?_
 | refine CallDF (c_Clone_Disk h.Disks hdl) rfl rfl ⟨rfl, rfl⟩ ?_
 | refine side_and (side_of (by first | exact ⟨Nat.le_of_ble_eq_true rfl, rfl⟩ | fail)) ?_
 | refine side_and (side_of (by first | exact Nat.le_of_ble_eq_true rfl | exact rfl | omega | fail)) ?_
 | refine side_and (side_of (by first | (and_intros <;> first | rfl | omega | exact Nat.le_of_ble_eq_true rfl) | fail)) ?_
 | refine side_and (side_of (by first | (and_intros <;> first | exact Nat.le_of_ble_eq_true rfl | rfl | omega | (simp only [lensB, lensC]; omega) | exact bytes_ok (Nat.le_of_ble_eq_true rfl) (by omega) (by simp only [lensB, lensC]; omega) | exact bytes_okN (Nat.le_of_ble_eq_true rfl) (by simp only [lensB, lensC]; omega)) | fail)) ?_
 | refine LoadK_of rfl rfl ?_
 | fail
  all_goals
    conv => whnf
    first
    | (obtain ⟨e1, e2⟩ := actI_2 (h := h) (a := a) ho hk (by rw [dskOf_of hd]; assumption)
       rw [e1, e2, backH_of hd]
       refine OutA_prom [(16432, DiskT.shp)] ⟨⟨_, _, _, rfl, prom_set (prom_map (fun _ => rfl)) rfl⟩, trivial⟩ ?_
       conv => whnf
       exact OutA_deep rfl rfl rfl ⟨⟨congrArg (fun e => some (AObj.mk _ _ _ e)) (setRep_cells (f := fun _ => ⟨true, onK d, 0⟩) hy rfl), rfl⟩, ⟨⟨congrArg (fun e => some (AObj.mk _ _ _ e)) (set_dsk rfl), rfl⟩, trivial⟩⟩ rfl)
    | (obtain ⟨e1, e2⟩ := actI_2n (h := h) (a := a) hk (by rw [dskOf_of hd]; assumption)
       rw [e1, e2]
       refine OutA_nilB 32 1 90 3 0 rfl rfl rfl (by decide) ?_
       refine OutA_nilB 32 2 92 2 3 rfl rfl rfl (by decide) ?_
       refine OutA_prom [(1, ReplicaT.shp), (2, DiskT.shp)] ⟨⟨_, _, _, rfl, prom_nil⟩, ⟨_, _, _, rfl, prom_nil⟩, trivial⟩ ?_
       conv => whnf
       exact OutA_deep rfl rfl rfl ⟨⟨rfl, rfl⟩, ⟨⟨rfl, rfl⟩, trivial⟩⟩ rfl)
def RdAt {α : Type} (rd : List UInt8 → Nat → Bool → α × Nat × Bool) (e : List UInt8) (v : α) : Prop :=
  ∀ A C : List UInt8, rd (A ++ (e ++ C)) A.length false = (v, A.length + e.length, false)
theorem at_mid {A C : List UInt8} {x : UInt8} : (A ++ (x :: C))[A.length]? = some x := by simp
theorem cut_mid {A B C : List UInt8} : ((A ++ (B ++ C)).take (A.length + B.length)).drop A.length = B := by
  rw [← List.append_assoc, List.take_left' (by rw [List.length_append])]
  exact List.drop_left
theorem numM_at {s : Nat} : ∀ (f : Nat) (m n q : Int) (A C : List UInt8), 0 ≤ m → (numB m).length ≤ f → numM (A ++ (numB m ++ C)) s f n q A.length = finS (A ++ (numB m ++ C)) s (n + m * q) (A.length + (numB m).length)
  | 0, m, n, q, A, C, h0, hf => by
    exfalso
    obtain ⟨l, x, e, _⟩ := numB_last m.toNat m (Nat.le_refl _) h0
    rw [e] at hf
    simp at hf
  | f + 1, m, n, q, A, C, h0, hf => by
    by_cases h : m ≥ 128
    · have ht := tdiv_128 h
      have hb := byt_toNat (n := m % 128 + 128)
      rw [numB_ge h] at hf ⊢
      simp only [List.length_cons] at hf
      unfold numM
      rw [List.cons_append, at_mid]
      simp only
      rw [if_neg (by omega)]
      have hx : (((byt (m % 128 + 128)).toNat % 128 : Nat) : Int) = m % 128 := by omega
      rw [hx]
      have ih := numM_at (s := s) f (m.tdiv 128) (n + m % 128 * q) (q * 128) (A ++ [byt (m % 128 + 128)]) C ht.1 (by omega)
      rw [List.append_assoc, List.length_append] at ih
      simp only [List.cons_append, List.nil_append, List.length_cons, List.length_nil, Nat.zero_add] at ih
      rw [ih]
      have e2 : n + m % 128 * q + m.tdiv 128 * (q * 128) = n + m * q := by
        rw [Int.tdiv_eq_ediv_of_nonneg (by omega)]
        have e3 : m = m % 128 + 128 * (m / 128) := (Int.emod_add_mul_ediv m 128).symm
        have e4 : m * q = m % 128 * q + m / 128 * (q * 128) := by
          conv => lhs; rw [e3]
          rw [Int.add_mul]
          congr 1
          rw [Int.mul_comm 128 (m / 128), Int.mul_assoc, Int.mul_comm 128 q]
        omega
      rw [e2]
      congr 1
      simp only [List.length_cons]
      omega
    · have hb := byt_toNat (n := m)
      rw [numB_lt h]
      unfold numM
      rw [List.cons_append, at_mid]
      simp only
      rw [if_pos (by omega)]
      have hx : (((byt m).toNat % 128 : Nat) : Int) = m := by omega
      rw [hx]
      rfl
theorem numFS_at {n : Int} (h0 : 0 ≤ n) (h1 : n ≤ 1000000000) : RdAt numFS (numB n) n := by
  intro A C
  show numM _ A.length 5 0 1 A.length = _
  rw [numM_at 5 n 0 1 A C h0 (numB_five h0 h1)]
  unfold finS
  have hq : ¬ (n > 1000000000 ∨ numB n ≠ numB n) := fun h => h.elim (fun h => by omega) (fun h => h rfl)
  rw [cut_mid, show (0 : Int) + n * 1 = n by omega, if_neg hq]
theorem inB_le' {a n b : Int} (h : inB a n b = true) : a ≤ n ∧ n ≤ b := by simpa only [inB, Bool.and_eq_true, decide_eq_true_eq] using h
theorem okKey_len {s : List UInt8} (h : okKey s = true) : s.length ≤ 12 := by
  unfold okKey at h
  rw [Bool.and_eq_true] at h
  have := inB_le' h.1
  omega
theorem rising_len : ∀ (l : List (List UInt8)) (p : Option (List UInt8)), rising p l = true → ∀ x ∈ l, x.length ≤ 12
  | [], _, _, x, hx => by cases hx
  | y :: l, p, h, x, hx => by
    simp only [rising, Bool.and_eq_true] at h
    rcases List.mem_cons.1 hx with rfl | hx
    · exact okKey_len h.1.1
    · exact rising_len l _ h.2 x hx
theorem okWrites_len {ws : List WriteT} (h : okWrites ws = true) : ∀ w ∈ ws, w.Key.length ≤ 12 ∧ w.Val.length ≤ 24 := by
  unfold okWrites at h
  rw [Bool.and_eq_true] at h
  intro w hw
  have key : ∀ (l pre : List WriteT), allPre wrAt pre l = true → ∀ w ∈ l, w.Key.length ≤ 12 ∧ w.Val.length ≤ 24 := by
    intro l
    induction l with
    | nil => intro _ _ w hw; cases hw
    | cons y l ih =>
      intro pre h w hw
      simp only [allPre, Bool.and_eq_true] at h
      rcases List.mem_cons.1 hw with rfl | hw
      · have h1 := h.1
        unfold wrAt okStored okVal at h1
        simp only [Bool.and_eq_true, decide_eq_true_eq] at h1
        exact ⟨okKey_len h1.1.2, by omega⟩
      · exact ih _ h.2 w hw
  exact key ws [] h.1 w hw
structure TinyR (r : RecT) : Prop where
  reads : r.Reads.length ≤ 8
  writes : r.Writes.length ≤ 8
  rl : ∀ x ∈ r.Reads, x.length ≤ 12
  wl : ∀ x ∈ r.Writes, x.Key.length ≤ 12 ∧ x.Val.length ≤ 24
theorem okRec_tiny {r : RecT} (h : okRec r = true) : TinyR r := by
  unfold okRec at h
  split at h
  · simp only [Bool.and_eq_true, decide_eq_true_eq] at h
    exact ⟨by omega, by omega, rising_len _ _ h.1.1.1.1.2, okWrites_len h.1.1.2⟩
  · simp only [Bool.and_eq_true, decide_eq_true_eq] at h
    have e1 : r.Reads = [] := List.length_eq_zero_iff.1 (by omega)
    have e2 : r.Writes = [] := List.length_eq_zero_iff.1 (by omega)
    refine ⟨by rw [e1]; decide, by rw [e2]; decide, ?_, ?_⟩
    · rw [e1]; intro x hx; cases hx
    · rw [e2]; intro x hx; cases hx
theorem TinyR.small {r : RecT} (h : TinyR r) : SmallR r :=
  ⟨by have := h.reads; omega, by have := h.writes; omega, fun x hx => by have := h.rl x hx; omega, fun x hx => by have := h.wl x hx; omega⟩
theorem frB_at {s : List UInt8} (h : s.length ≤ 700) (A C : List UInt8) : frOk (A ++ (frB s ++ C)) A.length = true ∧ frS (A ++ (frB s ++ C)) A.length = s ∧ frE (A ++ (frB s ++ C)) A.length = A.length + (frB s).length := by
  have hn := numFS_at (n := (s.length : Nat)) (by omega) (by omega) A (sealB s ++ C)
  have ef : frB s = numB (s.length : Nat) ++ sealB s := by unfold frB; rfl
  rw [ef]
  have eb : A ++ (numB (s.length : Nat) ++ (sealB s ++ C)) = A ++ (numB (s.length : Nat) ++ sealB s ++ C) := by simp only [List.append_assoc]
  rw [eb] at hn
  generalize hb : A ++ (numB (s.length : Nat) ++ sealB s ++ C) = b at hn
  have hsl : (sealB s).length = s.length + 3 := by unfold sealB; rw [List.length_append]; rfl
  have e1 : frN b A.length = (s.length : Int) := by unfold frN; rw [hn]
  have e2 : frM b A.length = (A ++ numB (s.length : Nat)).length := by unfold frM; rw [hn, List.length_append]
  have hb2 : b = (A ++ numB (s.length : Nat)) ++ (s ++ (threeB (sumB s) ++ C)) := by rw [← hb]; unfold sealB; simp only [List.append_assoc]
  have hb3 : b = (A ++ numB (s.length : Nat)) ++ (sealB s ++ C) := by rw [← hb]; simp only [List.append_assoc]
  have e3 : frS b A.length = s := by
    unfold frS
    rw [e1, e2, Int.toNat_natCast]
    conv => lhs; rw [hb2]
    exact cut_mid
  have e4 : frE b A.length = (A ++ numB (s.length : Nat)).length + (sealB s).length := by
    unfold frE
    rw [e1, e2, Int.toNat_natCast, hsl]
    omega
  have hbl : b.length = (A ++ numB (s.length : Nat)).length + ((sealB s).length + C.length) := by
    have q := congrArg List.length hb3
    rw [@List.length_append _ (A ++ numB (s.length : Nat)) (sealB s ++ C), @List.length_append _ (sealB s) C] at q
    exact q
  refine ⟨?_, e3, ?_⟩
  · unfold frOk
    rw [e3, e4, e1, e2, hn]
    have e5 : (b.take ((A ++ numB (s.length : Nat)).length + (sealB s).length)).drop (A ++ numB (s.length : Nat)).length = sealB s := by
      conv => lhs; rw [hb3]
      exact cut_mid
    rw [e5, decide_eq_true rfl, decide_eq_true (by omega), decide_eq_true (by rw [hbl, hsl]; omega)]
    rfl
  · rw [e4, List.length_append, List.length_append, Nat.add_assoc]
theorem frames_cat : ∀ (l : List (List UInt8)) (A C : List UInt8), (∀ s ∈ l, s.length ≤ 700) →
    (frames (A ++ ((l.map frB).flatten ++ C)) A.length).1 = l ++ (frames (A ++ ((l.map frB).flatten ++ C)) (A.length + ((l.map frB).flatten).length)).1 ∧
    (frames (A ++ ((l.map frB).flatten ++ C)) A.length).2 = (frames (A ++ ((l.map frB).flatten ++ C)) (A.length + ((l.map frB).flatten).length)).2
  | [], A, C, h => by simp
  | x :: l, A, C, h => by
    have e : A ++ (((x :: l).map frB).flatten ++ C) = A ++ (frB x ++ ((l.map frB).flatten ++ C)) := by simp
    rw [e]
    obtain ⟨f1, f2, f3⟩ := frB_at (h x (by simp)) A ((l.map frB).flatten ++ C)
    have ih := frames_cat l (A ++ frB x) C (fun y hy => h y (by simp [hy]))
    rw [List.append_assoc, List.length_append] at ih
    rw [frames_yes f1, f2, f3]
    simp only
    rw [ih.1, ih.2]
    have e2 : A.length + (frB x).length + ((l.map frB).flatten).length = A.length + (((x :: l).map frB).flatten).length := by
      simp only [List.map_cons, List.flatten_cons, List.length_append]; omega
    rw [e2]
    exact ⟨rfl, rfl⟩
theorem frames_last {b : List UInt8} {a : Nat} (h : b.length ≤ a) : frames b a = ([], a) := by
  refine frames_no ?_
  unfold frOk
  rw [numFS_end h]
  rfl
theorem frames_all {l : List (List UInt8)} (h : ∀ s ∈ l, s.length ≤ 700) : frames ((l.map frB).flatten) 0 = (l, ((l.map frB).flatten).length) := by
  have := frames_cat l [] [] h
  simp only [List.nil_append, List.append_nil, List.length_nil, Nat.zero_add] at this
  have h2 := frames_last (b := (l.map frB).flatten) (Nat.le_refl _)
  rw [h2, List.append_nil] at this
  exact Prod.ext this.1 this.2
theorem frOk_cut {b : List UInt8} {a : Nat} (h : frOk b a = true) : frB (frS b a) = (b.take (frE b a)).drop a ∧ (frS b a).length ≤ 700 := by
  have hl := frOk_lt h
  unfold frOk at h
  simp only [Bool.and_eq_true, Bool.not_eq_true', decide_eq_true_eq] at h
  obtain ⟨⟨⟨h1, h2⟩, h3⟩, h4⟩ := h
  have e1 := numFS_eq h1
  have e2 := frS_len h3
  refine ⟨?_, by omega⟩
  have ef : frB (frS b a) = numB ((frS b a).length : Nat) ++ sealB (frS b a) := by unfold frB; rfl
  rw [ef, h4, e2]
  have e3 : (((frN b a).toNat : Nat) : Int) = frN b a := Int.toNat_of_nonneg hl.2.2.1
  rw [e3]
  change numB (frN b a) = (b.take (frM b a)).drop a at e1
  rw [e1]
  have q1 : frM b a ≤ frE b a := by unfold frE; omega
  exact (cut3 (by omega) (by omega) q1).symm
theorem frames_back : ∀ (k : Nat) (b : List UInt8) (a : Nat), b.length + 1 - a ≤ k → a ≤ b.length → (((frames b a).1.map frB).flatten) = (b.take (frames b a).2).drop a ∧ a ≤ (frames b a).2 ∧ (frames b a).2 ≤ b.length ∧ (∀ s ∈ (frames b a).1, s.length ≤ 700)
  | 0, b, a, hk, ha => by omega
  | k + 1, b, a, hk, ha => by
    cases hf : frOk b a with
    | false =>
      rw [frames_no hf]
      refine ⟨?_, Nat.le_refl _, ha, fun s hs => by cases hs⟩
      rw [List.drop_of_length_le (by rw [List.length_take]; omega)]
      rfl
    | true =>
      have hl := frE_lt hf
      obtain ⟨c1, c2⟩ := frOk_cut hf
      obtain ⟨i1, i2, i3, i4⟩ := frames_back k b (frE b a) (by omega) hl.2
      rw [frames_yes hf]
      simp only
      refine ⟨?_, by omega, i3, fun s hs => ?_⟩
      · rw [List.map_cons, List.flatten_cons, i1, c1]
        exact (cut3 (by omega) (by omega) i2).symm
      · rcases List.mem_cons.1 hs with rfl | hs
        · exact c2
        · exact i4 s hs
theorem frames_back0 (b : List UInt8) : (((frames b 0).1.map frB).flatten) = b.take (frames b 0).2 ∧ (frames b 0).2 ≤ b.length ∧ (∀ s ∈ (frames b 0).1, s.length ≤ 700) := by
  obtain ⟨h1, h2, h3, h4⟩ := frames_back _ b 0 (Nat.le_refl _) (Nat.zero_le _)
  rw [List.drop_zero] at h1
  exact ⟨h1, h3, h4⟩
theorem frames_mend (b : List UInt8) : frames (b.take (frames b 0).2) 0 = frames b 0 := by
  obtain ⟨h1, h2, h3⟩ := frames_back0 b
  rw [← h1, frames_all h3, h1]
  refine Prod.ext rfl ?_
  show (b.take _).length = _
  rw [List.length_take]
  omega
theorem c_spec_StartRepF (g : GroupT) (r : Int) (hok : g.ok) (hw : GB g) (h0 : okUp g r false = true) : PC Tryz.prog true 90 [.agg g.cells, .int .i64 r] (.tup [.agg [.own 0, .int .i64 (startR g r).Term, .int .i64 (startR g r).Lead], .bool true]) [⟨false, 90, 3, (startR g r).Reps.map ReplicaT.cells⟩] := by
  have hl := reps_len hw
  refine pc_at Tryz.func90 rfl (by kernel_rfl) 20 [.cell 4 38, .tmp 5] rfl rfl ?_
  repeat' (conv => whnf); first
 | refine nameB_yes (b := okUp g r false) h0 ?_
 | exact side_of (okUp_side (b := false) (by assumption))
 | refine ix_own (f := ReplicaT.cells) (xs := g.Reps) (okUp_lt (b := false) (by assumption)).2 (fun y hy => ?_)
 | refine nameB_false ?_
 | refine splitB_false ?_
 | refine Call0 (c_spec_l9Up g r false hok hw) rfl rfl ?_
 | refine CallT (c_spec_l9Own g hw) rfl rfl rfl rfl (Nat.le_of_ble_eq_true rfl) ?_
 | refine side_and (side_of (by first | exact ⟨Nat.le_of_ble_eq_true rfl, rfl⟩ | fail)) ?_
 | refine side_and (side_of (by first | exact Nat.le_of_ble_eq_true rfl | exact rfl | omega | fail)) ?_
 | refine side_and (side_of (by first | (and_intros <;> first | rfl | omega | exact Nat.le_of_ble_eq_true rfl) | fail)) ?_
 | refine side_and ?_ ?_
 | fail
  all_goals
    conv => whnf
    rw [startR_yes h0]
    exact OutA_ids rfl rfl rfl ⟨⟨_, _, _, rfl, congrArg (AObj.mk false _ _) (setRep_cells (f := fun y => { y with Up := true }) hy rfl).symm⟩, trivial⟩ rfl (.inl rfl)
theorem c_spec_l9Do_2F (g : GroupT) (a : GroupActT) (hok : g.ok) (hw : GB g) (hk : a.Kind = 2) (ho : okAct g a = true) : PC Tryz.prog true 46 [.agg g.cells, .agg a.cells] (.tup [.agg [.own 0, .int .i64 (actG g a).Term, .int .i64 (actG g a).Lead], .bool true]) [⟨false, 90, 3, (actG g a).Reps.map ReplicaT.cells⟩] := by
  obtain ⟨e1, e2⟩ := act2 (g := g) (a := a) hk
  rw [e2] at ho
  rw [e1]
  refine pc_at Tryz.func46 rfl (by kernel_rfl) 55 [.cell 4 38, .tmp 5] rfl rfl ?_
  repeat' (conv => whnf); first
 | refine nameB_dyes hk ?_
 | refine nameB_dno (by omega) ?_
 | refine nameB_true ?_
 | refine splitB_true ?_
 | refine splitB_false ?_
 | refine CallT (c_spec_StartRepF g a.Rep hok hw ho) rfl rfl rfl rfl (Nat.le_of_ble_eq_true rfl) ?_
 | refine side_and (side_of (by first | exact ⟨Nat.le_of_ble_eq_true rfl, rfl⟩ | fail)) ?_
 | refine side_and (side_of (by first | exact Nat.le_of_ble_eq_true rfl | exact rfl | omega | fail)) ?_
 | refine side_and (side_of (by first | (and_intros <;> first | rfl | omega | exact Nat.le_of_ble_eq_true rfl) | fail)) ?_
 | fail
  all_goals
    conv => whnf
    exact OutA_ids rfl rfl rfl ⟨⟨_, _, _, rfl, rfl⟩, trivial⟩ rfl (.inl rfl)
theorem mended_on {d : DiskT} (hm : mendB d = true) (hall : (frames d.Kept 0).1.all okE = true) : okOnD (mended d) = true ∧ onD (mended d) = onK d := by
  obtain ⟨m1, m2, m3⟩ := mendB_of hm
  have hk : okDsk (mended d) = true := by
    unfold okDsk at m1 ⊢
    rw [decide_eq_true_eq] at m1 ⊢
    unfold mended
    simp only [List.length_take, List.length_nil]
    omega
  have hb : dskB (mended d) = d.Kept.take (frames d.Kept 0).2 := by unfold dskB mended; simp
  have ho : okOnD (mended d) = true := by
    unfold okOnD
    rw [hk, hb, frames_mend, hall]
    rfl
  refine ⟨ho, ?_⟩
  rw [onD_yes ho, hb, frames_mend]
  rfl
theorem mended_w {d : DiskT} (hm : mendB d = true) : (mended d).w ≤ 50000 := by
  obtain ⟨m1, m2, m3⟩ := mendB_of hm
  have hw2 := okDsk_w m1
  have hk : d.w = d.Kept.length + d.Loose.length := rfl
  show (d.Kept.take _).length + 0 ≤ _
  rw [List.length_take]
  omega
theorem c_spec_OnDisk_m (d : DiskT) (hm : mendB d = true) (hall : (frames d.Kept 0).1.all okE = true) : PC Tryz.prog true 49 [.agg (mended d).cells] (.tup [.sl ((onK d).map EntryT.cells), .bool true]) [] := by
  obtain ⟨h1, h2⟩ := mended_on hm hall
  have := c_spec_OnDisk (mended d) (by have := mended_w hm; omega)
  rw [h1, h2] at this
  exact this
theorem backRep_ok {L : List EntryT} {t : Int} : okRep t ⟨true, L, 0⟩ = okLog L t := by
  unfold okRep inB
  simp
/-! Logs whose entries are good are small. -/
theorem TinyR.w {r : RecT} (h : TinyR r) : r.w ≤ 500 := by
  have e : r.w = wL List.length r.Reads + wL WriteT.w r.Writes := rfl
  have h1 : wL List.length r.Reads = r.Reads.length + (r.Reads.map List.length).sum := rfl
  have h2 : wL WriteT.w r.Writes = r.Writes.length + (r.Writes.map WriteT.w).sum := rfl
  have h3 := sum_le (w := List.length) (n := 12) r.Reads h.rl
  have h4 := sum_le (w := WriteT.w) (n := 36) r.Writes (fun x hx => by have := h.wl x hx; show x.Key.length + x.Val.length ≤ _; omega)
  have := h.reads
  have := h.writes
  omega
theorem log_w {L : List EntryT} (hl : L.length ≤ 61) (h : ∀ e ∈ L, okRec e.Rec = true) : okL EntryT.ok L ∧ wL EntryT.w L ≤ 31000 := by
  have h2 : wL EntryT.w L = L.length + (L.map EntryT.w).sum := rfl
  have h4 := sum_le (w := EntryT.w) (n := 500) L (fun x hx => (okRec_tiny (h x hx)).w)
  exact ⟨⟨by omega, fun x hx => small_ok (okRec_tiny (h x hx)).small⟩, by omega⟩
theorem okE_good {s : List UInt8} (h : okE s = true) : okRec (outE s).Rec = true ∧ 1 ≤ (outE s).Term ∧ (outE s).Term ≤ 200 := by
  have e := outE_yes h
  unfold okE at h
  simp only [Bool.and_eq_true] at h
  obtain ⟨⟨⟨_, _⟩, h3⟩, h4⟩ := h
  rw [e]
  have hb := inB_le' h3
  refine ⟨?_, hb.1, hb.2⟩
  cases hc : ((sealF (s.drop (numFS s 0 false).2.1)).2 && goodR (s.drop (numFS s 0 false).2.1) (recS (sealF (s.drop (numFS s 0 false).2.1)).1)) with
  | false => rw [outR_no hc] at h4; cases h4
  | true =>
    rw [outR_yes hc]
    simp only [Bool.and_eq_true] at hc
    have h5 := hc.2
    unfold goodR at h5
    simp only [Bool.and_eq_true] at h5
    exact h5.1.2
theorem onK_good {d : DiskT} (hall : (frames d.Kept 0).1.all okE = true) : ∀ e ∈ onK d, okRec e.Rec = true ∧ 1 ≤ e.Term ∧ e.Term ≤ 200 := by
  intro e he
  unfold onK at he
  obtain ⟨s, hs, rfl⟩ := List.mem_map.1 he
  rw [List.all_eq_true] at hall
  exact okE_good (hall s hs)
theorem fitsD_len {t : Int} {x : ReplicaT} {d : DiskT} (h : fitsD t x d = true) : (onK d).length ≤ x.Log.length + 1 := by
  unfold fitsD at h
  rw [Bool.and_eq_true] at h
  have h2 := h.2
  change fitsL t x (onK d) _ _ = true at h2
  unfold fitsL at h2
  cases hu : x.Up with
  | true =>
    rw [hu] at h2
    simp only [Bool.and_eq_true, decide_eq_true_eq] at h2
    rw [h2.1]; omega
  | false =>
    rw [hu] at h2
    simp only [Bool.and_eq_true, Bool.or_eq_true, decide_eq_true_eq] at h2
    omega
theorem OkH.onK_len {h : HouseT} (o : OkH h) {n : Nat} {d : DiskT} (hd : h.Disks[n]? = some d) : (onK d).length ≤ 61 ∧ (∀ e ∈ onK d, okRec e.Rec = true) ∧ (∀ e ∈ onK d, 1 ≤ e.Term ∧ e.Term ≤ 200) := by
  have hn := (List.getElem?_eq_some_iff.1 hd).1
  have hx : h.Group.Reps[n]? = some (h.Group.Reps[n]'(by rw [← o.len]; exact hn)) := List.getElem?_eq_getElem _
  have hf := o.pair n _ d hx hd
  have h1 := fitsD_len hf
  have h2 := (okG_of o.g).rep _ (List.mem_of_getElem? hx)
  unfold okRep at h2
  simp only [Bool.and_eq_true] at h2
  have h3 := (okLog_mem h2.1).1
  have hg := onK_good (fitsD_mend hf).2
  exact ⟨by omega, fun e he => (hg e he).1, fun e he => (hg e he).2⟩
theorem backRep_w {L : List EntryT} (hl : L.length ≤ 61) (h : ∀ e ∈ L, okRec e.Rec = true) : (⟨true, L, 0⟩ : ReplicaT).ok ∧ (⟨true, L, 0⟩ : ReplicaT).w ≤ 1048576 := by
  obtain ⟨h1, h2⟩ := log_w hl h
  exact ⟨⟨trivial, h1, trivial⟩, Nat.le_trans h2 (by decide)⟩
theorem c_spec_ActHouse_bad (h : HouseT) (a : GroupActT) (hok : h.ok) (hb : HB h) (ho : okHouse h = false) : PC Tryz.prog true 10 [.agg h.cells, .agg a.cells] (.tup [.agg [.sl [], .int .i64 0, .int .i64 0, .sl []], .bool false]) [] := by
  refine pc_at Tryz.func10 rfl (by kernel_rfl) 112 [.cell 4 41, .tmp 5] rfl rfl ?_
  repeat' (conv => whnf); first
 | refine nameB_no (b := okHouse h) ho ?_
 | refine nameB_true ?_
 | refine splitB_true ?_
 | refine CallT (c_spec_l11Good h hok hb) rfl rfl rfl rfl (Nat.le_of_ble_eq_true rfl) ?_
 | refine side_and (side_of (by first | exact ⟨Nat.le_of_ble_eq_true rfl, rfl⟩ | fail)) ?_
 | refine side_and (side_of (by first | exact Nat.le_of_ble_eq_true rfl | exact rfl | omega | fail)) ?_
 | refine side_and (side_of (by first | (and_intros <;> first | rfl | omega | exact Nat.le_of_ble_eq_true rfl) | fail)) ?_
 | fail
  all_goals
    conv => whnf
    refine OutA_nilB 32 1 90 3 0 rfl rfl rfl (by decide) ?_
    refine OutA_nilB 32 2 92 2 3 rfl rfl rfl (by decide) ?_
    refine OutA_frz [1, 2] ?_
    conv => whnf
    exact OutA_plain rfl rfl rfl
theorem c_spec_ActHouse_no (h : HouseT) (a : GroupActT) (hok : h.ok) (hb : HB h) (aok : a.ok) (haw : a.w ≤ 1048576) (hh : okHouse h = true) (ho : okAct h.Group a = false) : PC Tryz.prog true 10 [.agg h.cells, .agg a.cells] (.tup [.agg [.sl [], .int .i64 0, .int .i64 0, .sl []], .bool false]) [] := by
  refine pc_at Tryz.func10 rfl (by kernel_rfl) 112 [.cell 4 41, .tmp 5] rfl rfl ?_
  repeat' (conv => whnf); first
 | refine nameB_yes (b := okHouse h) hh ?_
 | refine nameB_no (b := okAct h.Group a) ho ?_
 | refine nameB_true ?_
 | refine nameB_false ?_
 | refine splitB_true ?_
 | refine splitB_false ?_
 | refine CallT (c_spec_l11Good h hok hb) rfl rfl rfl rfl (Nat.le_of_ble_eq_true rfl) ?_
 | refine CallT (c_spec_l9Do h.Group a hok.1 hb.gb aok haw) rfl rfl rfl rfl (Nat.le_of_ble_eq_true rfl) ?_
 | refine side_and (side_of (by first | exact ⟨Nat.le_of_ble_eq_true rfl, rfl⟩ | fail)) ?_
 | refine side_and (side_of (by first | exact Nat.le_of_ble_eq_true rfl | exact rfl | omega | fail)) ?_
 | refine side_and (side_of (by first | (and_intros <;> first | rfl | omega | exact Nat.le_of_ble_eq_true rfl) | fail)) ?_
 | fail
  all_goals
    conv => whnf
    refine OutA_nilB 32 1 90 3 0 rfl rfl rfl (by decide) ?_
    refine OutA_nilB 32 2 92 2 3 rfl rfl rfl (by decide) ?_
    refine OutA_frz [1, 2] ?_
    conv => whnf
    exact OutA_plain rfl rfl rfl
theorem c_spec_ActHouse_n (h : HouseT) (a : GroupActT) (hok : h.ok) (hb : HB h) (aok : a.ok) (haw : a.w ≤ 1048576) (hh : okHouse h = true) (ho : okAct h.Group a = true) (h4 : ¬ a.Kind = 4) (h5 : ¬ a.Kind = 5) (h2 : ¬ a.Kind = 2) :
    PC Tryz.prog true 10 [.agg h.cells, .agg a.cells] (.tup [.agg (⟨actG h.Group a, h.Disks⟩ : HouseT).cells, .bool true]) [] := by
  have hdl := hb.dl
  refine pc_at Tryz.func10 rfl (by kernel_rfl) 112 [.cell 4 41, .tmp 5] rfl rfl ?_
  repeat' (conv => whnf); first
 | refine nameB_yes (b := okHouse h) hh ?_
 | refine nameB_yes (b := okAct h.Group a) ho ?_
 | refine nameB_dno (by assumption) ?_
 | refine nameB_false ?_
 | refine splitB_false ?_
 | refine draw_text (by kernel_rfl) (by kernel_rfl) (by kernel_rfl) ?_
 | refine CallT (c_spec_l11Good h hok hb) rfl rfl rfl rfl (Nat.le_of_ble_eq_true rfl) ?_
 | refine CallT (c_spec_l9Do h.Group a hok.1 hb.gb aok haw) rfl rfl rfl rfl (Nat.le_of_ble_eq_true rfl) ?_
 | refine side_and (side_of (by first | exact ⟨Nat.le_of_ble_eq_true rfl, rfl⟩ | fail)) ?_
 | refine side_and (side_of (by first | exact Nat.le_of_ble_eq_true rfl | exact rfl | omega | fail)) ?_
 | refine side_and (side_of (by first | (and_intros <;> first | rfl | omega | exact Nat.le_of_ble_eq_true rfl) | fail)) ?_
 | refine side_and (side_of (by first | (and_intros <;> first | exact Nat.le_of_ble_eq_true rfl | rfl | omega | (simp only [lensB, lensC]; omega) | exact bytes_ok (Nat.le_of_ble_eq_true rfl) (by omega) (by simp only [lensB, lensC]; omega) | exact bytes_okN (Nat.le_of_ble_eq_true rfl) (by simp only [lensB, lensC]; omega)) | fail)) ?_
 | refine side_and (side_of (map_len (fun _ => rfl))) ?_
 | refine side_and (side_of (map_one (fun _ => rfl) _)) ?_
 | fail
  all_goals
    conv => whnf
    refine OutA_frz [24640] ?_
    conv => whnf
    exact OutA_plain rfl rfl rfl
theorem c_spec_ActHouse_4 (h : HouseT) (a : GroupActT) (y : ReplicaT) (hok : h.ok) (hb : HB h) (aok : a.ok) (haw : a.w ≤ 1048576) (hh : okHouse h = true) (ho : okAct h.Group a = true) (hk : a.Kind = 4)
    (hy : (actG h.Group a).Reps[(actG h.Group a).Lead.toNat]? = some y) (h0 : 0 ≤ (actG h.Group a).Lead) (h1 : (actG h.Group a).Lead.toNat < h.Disks.length) (h2 : y.Log.length ≤ 61) (h3 : ∀ e ∈ y.Log, entIn e) :
    PC Tryz.prog true 10 [.agg h.cells, .agg a.cells] (.tup [.agg (putH h (actG h.Group a)).cells, .bool true]) [] := by
  have hdl := hb.dl
  refine pc_at Tryz.func10 rfl (by kernel_rfl) 112 [.cell 4 41, .tmp 5] rfl rfl ?_
  repeat' (conv => whnf); first
 | refine nameB_yes (b := okHouse h) hh ?_
 | refine nameB_yes (b := okAct h.Group a) ho ?_
 | refine nameB_dyes hk ?_
 | refine ix_re (f := ReplicaT.cells) h0 hy ?_
 | (refine ix_own (f := DiskT.cells) (xs := h.Disks) h1 (fun d hd => ?_))
 | refine nameB_false ?_
 | refine splitB_true ?_
 | refine splitB_false ?_
 | refine draw_text (by kernel_rfl) (by kernel_rfl) (by kernel_rfl) ?_
 | refine CallT (c_spec_l11Good h hok hb) rfl rfl rfl rfl (Nat.le_of_ble_eq_true rfl) ?_
 | refine CallT (c_spec_l9Do h.Group a hok.1 hb.gb aok haw) rfl rfl rfl rfl (Nat.le_of_ble_eq_true rfl) ?_
 | refine CallD0 (c_spec_l11Kept y.Log h3 h2) rfl rfl rfl ?_
 | refine side_and (side_of (by first | exact ⟨Nat.le_of_ble_eq_true rfl, rfl⟩ | fail)) ?_
 | refine side_and (side_of (by first | exact Nat.le_of_ble_eq_true rfl | exact rfl | omega | fail)) ?_
 | refine side_and (side_of (by first | (and_intros <;> first | rfl | omega | exact Nat.le_of_ble_eq_true rfl) | fail)) ?_
 | refine side_and (side_of (by first | (and_intros <;> first | exact Nat.le_of_ble_eq_true rfl | rfl | omega | (simp only [lensB, lensC]; omega) | exact bytes_ok (Nat.le_of_ble_eq_true rfl) (by omega) (by simp only [lensB, lensC]; omega) | exact bytes_okN (Nat.le_of_ble_eq_true rfl) (by simp only [lensB, lensC]; omega)) | fail)) ?_
 | refine side_and (side_of (map_len (fun _ => rfl))) ?_
 | refine side_and (side_of (map_one (fun _ => rfl) _)) ?_
 | refine LoadK_of rfl rfl ?_
 | fail
  all_goals
    conv => whnf
    rw [putH_of hy]
    refine OutA_frz [24640] ?_
    conv => whnf
    exact OutA_plain rfl rfl (congrArg (fun e => AV.tup [.agg [_, _, _, .sl e], .bool true]) (set_dsk (d := ⟨keptB y.Log, []⟩) rfl))
theorem c_spec_ActHouse_5 (h : HouseT) (a : GroupActT) (y : ReplicaT) (hok : h.ok) (hb : HB h) (aok : a.ok) (haw : a.w ≤ 1048576) (hh : okHouse h = true) (ho : okAct h.Group a = true) (hk : a.Kind = 5)
    (hy : (actG h.Group a).Reps[a.Rep.toNat]? = some y) (h0 : 0 ≤ a.Rep) (h1 : a.Rep.toNat < h.Disks.length) (h2 : y.Log.length ≤ 61) (h3 : ∀ e ∈ y.Log, entIn e) :
    PC Tryz.prog true 10 [.agg h.cells, .agg a.cells] (.tup [.agg (copyH h (actG h.Group a) a.Rep).cells, .bool true]) [] := by
  have hdl := hb.dl
  refine pc_at Tryz.func10 rfl (by kernel_rfl) 112 [.cell 4 41, .tmp 5] rfl rfl ?_
  repeat' (conv => whnf); first
 | refine nameB_yes (b := okHouse h) hh ?_
 | refine nameB_yes (b := okAct h.Group a) ho ?_
 | refine nameB_dyes hk ?_
 | refine nameB_dno (by omega) ?_
 | refine ix_re (f := ReplicaT.cells) h0 hy ?_
 | (refine ix_own (f := DiskT.cells) (xs := h.Disks) h1 (fun d hd => ?_))
 | refine nameB_false ?_
 | refine splitB_true ?_
 | refine splitB_false ?_
 | refine draw_text (by kernel_rfl) (by kernel_rfl) (by kernel_rfl) ?_
 | refine CallT (c_spec_l11Good h hok hb) rfl rfl rfl rfl (Nat.le_of_ble_eq_true rfl) ?_
 | refine CallT (c_spec_l9Do h.Group a hok.1 hb.gb aok haw) rfl rfl rfl rfl (Nat.le_of_ble_eq_true rfl) ?_
 | refine CallD0 (c_spec_l11Kept y.Log h3 h2) rfl rfl rfl ?_
 | refine side_and (side_of (by first | exact ⟨Nat.le_of_ble_eq_true rfl, rfl⟩ | fail)) ?_
 | refine side_and (side_of (by first | exact Nat.le_of_ble_eq_true rfl | exact rfl | omega | fail)) ?_
 | refine side_and (side_of (by first | (and_intros <;> first | rfl | omega | exact Nat.le_of_ble_eq_true rfl) | fail)) ?_
 | refine side_and (side_of (by first | (and_intros <;> first | exact Nat.le_of_ble_eq_true rfl | rfl | omega | (simp only [lensB, lensC]; omega) | exact bytes_ok (Nat.le_of_ble_eq_true rfl) (by omega) (by simp only [lensB, lensC]; omega) | exact bytes_okN (Nat.le_of_ble_eq_true rfl) (by simp only [lensB, lensC]; omega)) | fail)) ?_
 | refine side_and (side_of (map_len (fun _ => rfl))) ?_
 | refine side_and (side_of (map_one (fun _ => rfl) _)) ?_
 | refine LoadK_of rfl rfl ?_
 | fail
  all_goals
    conv => whnf
    rw [copyH_of hy]
    refine OutA_frz [24640] ?_
    conv => whnf
    exact OutA_plain rfl rfl (congrArg (fun e => AV.tup [.agg [_, _, _, .sl e], .bool true]) (set_dsk (d := ⟨keptB y.Log, []⟩) rfl))
theorem back_cells {g : GroupT} {r : Int} {y : ReplicaT} {d : DiskT} {c : List AV} (hy : g.Reps[r.toNat]? = some y) (hc : c = (⟨true, onK d, 0⟩ : ReplicaT).cells) : (g.Reps.map ReplicaT.cells).set r.toNat c = (setRep g r (fun _ => ⟨true, onK d, 0⟩)).map ReplicaT.cells := setRep_cells (f := fun _ => ⟨true, onK d, 0⟩) hy hc
theorem c_spec_ActHouse_2 (h : HouseT) (a : GroupActT) (d : DiskT) (y : ReplicaT) (hok : h.ok) (hb : HB h) (aok : a.ok) (haw : a.w ≤ 1048576) (hh : okHouse h = true) (ho : okAct h.Group a = true) (hk : a.Kind = 2)
    (hd : h.Disks[a.Rep.toNat]? = some d) (hy : (actG h.Group a).Reps[a.Rep.toNat]? = some y) (h0 : 0 ≤ a.Rep) (h1 : a.Rep.toNat < h.Disks.length) (hm : mendB d = true) (hall : (frames d.Kept 0).1.all okE = true) (hL : (onK d).length ≤ 61) (hR : ∀ e ∈ onK d, okRec e.Rec = true) :
    PC Tryz.prog true 10 [.agg h.cells, .agg a.cells] (.tup [.agg (actI h a).cells, .bool (okActI h a)]) [] := by
  have hdl := hb.dl
  have hdw := hb.dw d (List.mem_of_getElem? hd)
  have hn := (List.getElem?_eq_some_iff.1 hy).1
  obtain ⟨r1, r2⟩ := backRep_w hL hR
  have hgr := c_spec_l9GoodRep ⟨true, onK d, 0⟩ (actG h.Group a).Term r1 r2
  rw [backRep_ok] at hgr
  refine pc_at Tryz.func10 rfl (by kernel_rfl) 112 [.cell 4 41, .tmp 5] rfl rfl ?_
  repeat' (conv => whnf); first
 | refine nameB_yes (b := okHouse h) hh ?_
 | refine nameB_dyes hk ?_
 | refine nameB_dno (by omega) ?_
 | refine ix_re (f := DiskT.cells) h0 hd ?_
 | refine ix_setG (by rw [List.length_map]; omega) ?_
 | refine ix_ownat (f := DiskT.cells) (xs := h.Disks) hd ?_
 | refine ix_ownat (f := ReplicaT.cells) (xs := (actG h.Group a).Reps) hy ?_
 | (refine nameB_cases (b := okLog (onK d) (actG h.Group a).Term) (fun hg => ?_) (fun hg => ?_))
 | refine nameB_true ?_
 | refine nameB_false ?_
 | refine splitB_true ?_
 | refine splitB_false ?_
 | refine draw_text (by kernel_rfl) (by kernel_rfl) (by kernel_rfl) ?_
 | refine CallT (c_spec_l11Good h hok hb) rfl rfl rfl rfl (Nat.le_of_ble_eq_true rfl) ?_
 | refine CallT (c_spec_l9Do_2F h.Group a hok.1 hb.gb hk ho) rfl rfl rfl rfl (Nat.le_of_ble_eq_true rfl) ?_
 | refine Call0 (c_spec_MendDisk d hm hdw) rfl rfl ?_
 | refine CallT (c_spec_OnDisk_m d hm hall) rfl rfl rfl rfl (Nat.le_of_ble_eq_true rfl) ?_
 | refine CallD0 hgr rfl rfl rfl ?_
 | refine side_and (side_of (by first | exact ⟨Nat.le_of_ble_eq_true rfl, rfl⟩ | fail)) ?_
 | refine side_and (side_of (by first | exact Nat.le_of_ble_eq_true rfl | exact rfl | omega | fail)) ?_
 | refine side_and (side_of (by first | (and_intros <;> first | rfl | omega | exact Nat.le_of_ble_eq_true rfl) | fail)) ?_
 | refine side_and (side_of (by first | (and_intros <;> first | exact Nat.le_of_ble_eq_true rfl | rfl | omega | (simp only [lensB, lensC]; omega) | exact bytes_ok (Nat.le_of_ble_eq_true rfl) (by omega) (by simp only [lensB, lensC]; omega) | exact bytes_okN (Nat.le_of_ble_eq_true rfl) (by simp only [lensB, lensC]; omega)) | fail)) ?_
 | refine side_and (side_of (map_len (fun _ => rfl))) ?_
 | refine side_and (side_of (map_one (fun _ => rfl) _)) ?_
 | refine LoadK_of rfl rfl ?_
 | fail
  all_goals
    conv => whnf
    first
    | (obtain ⟨e1, e2⟩ := actI_2 (h := h) (a := a) ho hk (by rw [dskOf_of hd]; assumption)
       rw [e1, e2, backH_of hd]
       refine OutA_frz [12336, 24640] ?_
       conv => whnf
       refine OutA_plain rfl rfl ?_
       refine Eq.trans (b := AV.tup [.agg [.sl (((actG h.Group a).Reps.map ReplicaT.cells).set a.Rep.toNat (⟨true, onK d, 0⟩ : ReplicaT).cells), .int .i64 (actG h.Group a).Term, .int .i64 (actG h.Group a).Lead, .sl ((h.Disks.map DiskT.cells).set a.Rep.toNat (mended d).cells)], .bool true]) rfl ?_
       rw [back_cells hy rfl, set_dsk (d := mended d) rfl]
       rfl)
    | (obtain ⟨e1, e2⟩ := actI_2n (h := h) (a := a) hk (by rw [dskOf_of hd]; assumption)
       rw [e1, e2]
       refine OutA_nilB 32 1 90 3 0 rfl rfl rfl (by decide) ?_
       refine OutA_nilB 32 2 92 2 3 rfl rfl rfl (by decide) ?_
       refine OutA_frz [1, 2] ?_
       conv => whnf
       exact OutA_plain rfl rfl rfl)
theorem c_impl_actHouse (h : HouseT) (a : GroupActT) (hok : h.ok) (hb : HB h) (aok : a.ok) (haw : a.w ≤ 1048576) (hh : okHouse h = true) :
    PC Tryz.prog false 52 [.agg h.cells, .agg a.cells] (.tup [.agg [.own 0, .int .i64 (actI h a).Group.Term, .int .i64 (actI h a).Group.Lead, .own 1], .bool (okActI h a)]) [⟨.deep ReplicaT.shp, 90, 3, (actI h a).Group.Reps.map ReplicaT.cells⟩, ⟨.deep DiskT.shp, 92, 2, (actI h a).Disks.map DiskT.cells⟩] := by
  have o := okH_of hh
  cases ho : okAct h.Group a with
  | false =>
    obtain ⟨e1, e2⟩ := actI_no (h := h) ho
    rw [e1, e2]
    exact c_impl_actHouse_no h a hok hb.gb aok haw ho
  | true =>
    by_cases h4 : a.Kind = 4
    · obtain ⟨y, q1, q2, q3, q4, q5⟩ := act_put hb.gb o haw h4 ho
      obtain ⟨e1, e2⟩ := actI_4 (h := h) ho h4
      rw [e1, e2]
      exact c_impl_actHouse_4 h a y hok hb.gb aok haw ho h4 hb.dl q1 q2 q3 q4 q5
    by_cases h5 : a.Kind = 5
    · obtain ⟨y, q1, q2, q3, q4, q5⟩ := act_copy hb.gb o h5 ho
      obtain ⟨e1, e2⟩ := actI_5 (h := h) ho h5
      rw [e1, e2]
      exact c_impl_actHouse_5 h a y hok hb.gb aok haw ho h5 hb.dl q1 q2 q3 q4 q5
    by_cases h2 : a.Kind = 2
    · obtain ⟨d, y, q1, q2, q3, q4, q5, q6, q7⟩ := act_start o h2 ho
      exact c_impl_actHouse_2 h a d y hok hb.gb aok haw ho h2 hb.dl q1 q2 q3 q4 q6 q7
    · obtain ⟨e1, e2⟩ := actI_n (h := h) ho h4 h5 h2
      rw [e1, e2]
      exact c_impl_actHouse_n h a hok hb.gb aok haw ho h4 h5 h2 hb.dl
def okA (h : HouseT) (a : GroupActT) : Bool := okHouse h && okActI h a
def actA (h : HouseT) (a : GroupActT) : HouseT := resH (okA h a) (actH h a)
theorem actA_yes {h : HouseT} {a : GroupActT} (hh : okHouse h = true) : okA h a = okActI h a ∧ actA h a = actI h a := by
  have e : okA h a = okActI h a := by unfold okA; rw [hh]; rfl
  exact ⟨e, by unfold actA actI; rw [e]⟩
theorem actA_no {h : HouseT} {a : GroupActT} (hh : okHouse h = false) : okA h a = false ∧ actA h a = zeroH := by
  have e : okA h a = false := by unfold okA; rw [hh]; rfl
  exact ⟨e, by unfold actA; rw [resH_no e]⟩
theorem c_spec_ActHouse (h : HouseT) (a : GroupActT) (hok : h.ok) (hb : HB h) (aok : a.ok) (haw : a.w ≤ 1048576) :
    PC Tryz.prog true 10 [.agg h.cells, .agg a.cells] (.tup [.agg (actA h a).cells, .bool (okA h a)]) [] := by
  cases hh : okHouse h with
  | false =>
    obtain ⟨e1, e2⟩ := actA_no (a := a) hh
    rw [e1, e2]
    exact c_spec_ActHouse_bad h a hok hb hh
  | true =>
    have o := okH_of hh
    obtain ⟨e1, e2⟩ := actA_yes (a := a) hh
    rw [e1, e2]
    cases ho : okAct h.Group a with
    | false =>
      obtain ⟨e1, e2⟩ := actI_no (h := h) ho
      rw [e1, e2]
      exact c_spec_ActHouse_no h a hok hb aok haw hh ho
    | true =>
      by_cases h4 : a.Kind = 4
      · obtain ⟨y, q1, q2, q3, q4, q5⟩ := act_put hb.gb o haw h4 ho
        obtain ⟨e1, e2⟩ := actI_4 (h := h) ho h4
        rw [e1, e2]
        exact c_spec_ActHouse_4 h a y hok hb aok haw hh ho h4 q1 q2 q3 q4 q5
      by_cases h5 : a.Kind = 5
      · obtain ⟨y, q1, q2, q3, q4, q5⟩ := act_copy hb.gb o h5 ho
        obtain ⟨e1, e2⟩ := actI_5 (h := h) ho h5
        rw [e1, e2]
        exact c_spec_ActHouse_5 h a y hok hb aok haw hh ho h5 q1 q2 q3 q4 q5
      by_cases h2 : a.Kind = 2
      · obtain ⟨d, y, q1, q2, q3, q4, q5, q6, q7⟩ := act_start o h2 ho
        obtain ⟨k1, k2, k3⟩ := o.onK_len q1
        exact c_spec_ActHouse_2 h a d y hok hb aok haw hh ho h2 q1 q2 q3 q4 q6 q7 k1 k2
      · obtain ⟨e1, e2⟩ := actI_n (h := h) ho h4 h5 h2
        rw [e1, e2]
        exact c_spec_ActHouse_n h a hok hb aok haw hh ho h4 h5 h2
theorem c_impl_ActHouse (h : HouseT) (a : GroupActT) (hok : h.ok) (hb : HB h) (aok : a.ok) (haw : a.w ≤ 1048576) :
    PC Tryz.prog false 13 [.agg h.cells, .agg a.cells] (.tup [.agg [.own 0, .int .i64 (actA h a).Group.Term, .int .i64 (actA h a).Group.Lead, .own 1], .bool (okA h a)]) [⟨.deep ReplicaT.shp, 90, 3, (actA h a).Group.Reps.map ReplicaT.cells⟩, ⟨.deep DiskT.shp, 92, 2, (actA h a).Disks.map DiskT.cells⟩] := by
  cases hh : okHouse h with
  | false =>
    obtain ⟨e1, e2⟩ := actA_no (a := a) hh
    rw [e1, e2]
    refine pc_at Tryz.func13 rfl (by kernel_rfl) 15 [.cell 4 41, .tmp 5] rfl rfl ?_
    repeat' (conv => whnf); first
 | refine nameB_no (b := okHouse h) hh ?_
 | refine nameB_true ?_
 | refine splitB_true ?_
 | refine Call0 (c_impl_GoodHouse h hok hb) rfl rfl ?_
 | refine side_and (side_of (by first | exact ⟨Nat.le_of_ble_eq_true rfl, rfl⟩ | fail)) ?_
 | refine side_and (side_of (by first | exact Nat.le_of_ble_eq_true rfl | exact rfl | omega | fail)) ?_
 | refine side_and (side_of (by first | (and_intros <;> first | rfl | omega | exact Nat.le_of_ble_eq_true rfl) | fail)) ?_
 | fail
    all_goals
      conv => whnf
      refine OutA_nilB 32 1 90 3 0 rfl rfl rfl (by decide) ?_
      refine OutA_nilB 32 2 92 2 3 rfl rfl rfl (by decide) ?_
      refine OutA_prom [(1, ReplicaT.shp), (2, DiskT.shp)] ⟨⟨_, _, _, rfl, prom_nil⟩, ⟨_, _, _, rfl, prom_nil⟩, trivial⟩ ?_
      conv => whnf
      exact OutA_deep rfl rfl rfl ⟨⟨rfl, rfl⟩, ⟨⟨rfl, rfl⟩, trivial⟩⟩ rfl
  | true =>
    obtain ⟨e1, e2⟩ := actA_yes (a := a) hh
    rw [e1, e2]
    refine pc_at Tryz.func13 rfl (by kernel_rfl) 15 [.cell 4 41, .tmp 5] rfl rfl ?_
    repeat' (conv => whnf); first
 | refine nameB_yes (b := okHouse h) hh ?_
 | refine nameB_self (b := okActI h a) ?_
 | refine nameB_false ?_
 | refine splitB_false ?_
 | refine Call0 (c_impl_GoodHouse h hok hb) rfl rfl ?_
 | refine CallF (c_impl_actHouse h a hok hb aok haw hh) rfl rfl rfl (Nat.le_of_ble_eq_true rfl) ?_
 | refine side_and (side_of (by first | exact ⟨Nat.le_of_ble_eq_true rfl, rfl⟩ | fail)) ?_
 | refine side_and (side_of (by first | exact Nat.le_of_ble_eq_true rfl | exact rfl | omega | fail)) ?_
 | refine side_and (side_of (by first | (and_intros <;> first | rfl | omega | exact Nat.le_of_ble_eq_true rfl) | fail)) ?_
 | fail
    all_goals
      conv => whnf
      exact OutA_deep rfl rfl rfl ⟨⟨rfl, rfl⟩, ⟨⟨rfl, rfl⟩, trivial⟩⟩ rfl
/-! How great the houses are. -/
def DB (d : DiskT) : Prop := d.ok ∧ d.w ≤ 6000000000
theorem ds_set {ds : List DiskT} {n : Nat} {d : DiskT} (h : ∀ x ∈ ds, DB x) (hd : DB d) : ∀ x ∈ ds.set n d, DB x := fun x hx => by
  rcases List.mem_or_eq_of_mem_set hx with q | rfl
  · exact h x q
  · exact hd
theorem kept_db {L : List EntryT} (hl : L.length ≤ 61) (h : ∀ e ∈ L, entIn e) : DB ⟨keptB L, []⟩ := by
  have h1 := keptB_len h
  have h2 : L.length * 80000604 ≤ 61 * 80000604 := Nat.mul_le_mul_right _ hl
  exact ⟨⟨by show (keptB L).length ≤ _; omega, Nat.zero_le _⟩, by show (keptB L).length + 0 ≤ _; omega⟩
theorem sum_ds : ∀ (ds : List DiskT), (∀ x ∈ ds, DB x) → wL DiskT.w ds ≤ ds.length * 6000000001
  | [], _ => Nat.le_refl _
  | d :: ds, h => by
    have h1 := sum_ds ds fun x hx => h x (by simp [hx])
    have h2 := (h d (by simp)).2
    simp only [wL, List.map_cons, List.sum_cons, List.length_cons, Nat.succ_mul] at h1 ⊢
    omega
theorem house_db {h : HouseT} (hok : h.ok) (hb : HB h) : ∀ x ∈ h.Disks, DB x := fun x hx => ⟨hok.2.2 x hx, by have := hb.dw x hx; omega⟩
structure HG (h : HouseT) : Prop where
  g : PG 2097152 h.Group
  n : h.Disks.length ≤ 5
  d : ∀ x ∈ h.Disks, DB x
theorem HG.okw {h : HouseT} (q : HG h) : h.ok ∧ h.w ≤ 1000000000000 := by
  have h1 := sum_ds h.Disks q.d
  have h2 : h.Disks.length * 6000000001 ≤ 5 * 6000000001 := Nat.mul_le_mul_right _ q.n
  have h3 := wL_bound (w := ReplicaT.w) (B := 2097152) (xs := h.Group.Reps) (fun y hy => q.g.w y hy) q.g.len
  have e : h.w = wL ReplicaT.w h.Group.Reps + wL DiskT.w h.Disks := rfl
  refine ⟨⟨q.g.ok, ⟨by have := q.n; omega, fun x hx => (q.d x hx).1⟩⟩, ?_⟩
  omega
theorem zeroH_HG : HG zeroH := ⟨⟨zeroG_ok, Nat.zero_le _, fun x hx => (by cases hx)⟩, Nat.zero_le _, fun x hx => by cases hx⟩
theorem actI_HG {h : HouseT} {a : GroupActT} (hok : h.ok) (hb : HB h) (hh : okHouse h = true) (aok : a.ok) (haw : a.w ≤ 1048575) (hgw : h.Group.w ≤ 1048576) : HG (actI h a) := by
  have o := okH_of hh
  have hn : h.Disks.length ≤ 5 := by rw [o.len]; exact okG_len o.g
  have hds := house_db hok hb
  cases ho : okAct h.Group a with
  | false => rw [(actI_no (h := h) ho).2]; exact zeroH_HG
  | true =>
    have pg0 : PG h.Group.w h.Group := PG.of hok.1 o.g (Nat.le_refl _)
    have pg : PG 2097152 (actG h.Group a) := by
      have := pg0.step aok hgw
      rw [stepG_yes ho] at this
      exact this.le (by omega)
    by_cases h4 : a.Kind = 4
    · obtain ⟨y, q1, q2, q3, q4, q5⟩ := act_put hb.gb o (by omega) h4 ho
      rw [(actI_4 (h := h) ho h4).2, putH_of q1]
      exact ⟨pg, by rw [List.length_set]; exact hn, ds_set hds (kept_db q4 q5)⟩
    by_cases h5 : a.Kind = 5
    · obtain ⟨y, q1, q2, q3, q4, q5⟩ := act_copy hb.gb o h5 ho
      rw [(actI_5 (h := h) ho h5).2, copyH_of q1]
      exact ⟨pg, by rw [List.length_set]; exact hn, ds_set hds (kept_db q4 q5)⟩
    by_cases h2 : a.Kind = 2
    · obtain ⟨d, y, q1, q2, q3, q4, q5, q6, q7⟩ := act_start o h2 ho
      obtain ⟨k1, k2, k3⟩ := o.onK_len q1
      cases hl : okLog (onK (dskOf h.Disks a.Rep)) (actG h.Group a).Term with
      | false => rw [(actI_2n (h := h) h2 hl).2]; exact zeroH_HG
      | true =>
        rw [(actI_2 (h := h) ho h2 hl).2, backH_of q1]
        have hm := mended_w q6
        refine ⟨pg.set (Nat.le_refl _) fun x hx => ⟨(backRep_w k1 k2).1, Nat.le_trans (backRep_w k1 k2).2 (by decide)⟩, by rw [List.length_set]; exact hn, ds_set hds ⟨⟨?_, Nat.zero_le _⟩, by omega⟩⟩
        have : (mended d).w = (mended d).Kept.length + (mended d).Loose.length := rfl
        show (mended d).Kept.length ≤ 9223372036854775807
        omega
    · rw [(actI_n (h := h) ho h4 h5 h2).2]
      exact ⟨pg, hn, hds⟩
theorem actA_HG {h : HouseT} {a : GroupActT} (hok : h.ok) (aok : a.ok) (hw : h.w + a.w ≤ 1048576) : (actA h a).ok ∧ (actA h a).w ≤ 1000000000000 := by
  cases hh : okHouse h with
  | false => rw [(actA_no (a := a) hh).2]; exact zeroH_HG.okw
  | true =>
    rw [(actA_yes (a := a) hh).2]
    have e : h.w = h.Group.w + wL DiskT.w h.Disks := rfl
    have o := okH_of hh
    have h1 := wL_len (w := DiskT.w) (xs := h.Disks)
    have h3 : 1 ≤ h.Disks.length := by
      rw [o.len]
      have := (okG_of o.g).many
      unfold okMany at this
      simp at this
      omega
    exact (actI_HG hok (hb_of (by omega)) hh aok (by omega) (by omega)).okw
theorem law_ActHouse (a W : HouseT) (x : GroupActT) (b : Bool) (hok : a.ok) (hx : x.ok) (hW : W.ok) (hww : W.w ≤ 1000000000000)
    (hS : a.w + x.w ≤ 1048576 → PC Tryz.prog true 10 [.agg a.cells, .agg x.cells] (.tup [.agg W.cells, .bool b]) [])
    (hI : a.w + x.w ≤ 1048576 → PC Tryz.prog false 13 [.agg a.cells, .agg x.cells] (.tup [.agg [.own 0, .int .i64 W.Group.Term, .int .i64 W.Group.Lead, .own 1], .bool b]) [⟨.deep ReplicaT.shp, 90, 3, W.Group.Reps.map ReplicaT.cells⟩, ⟨.deep DiskT.shp, 92, 2, W.Disks.map DiskT.cells⟩]) :
    PC Tryz.prog false 3 [.agg a.cells, .agg x.cells] (.bool true) [] := by
  have hm1 := HouseT.cntS_w a 1
  have hm2 := HouseT.cntS_w W 1
  have hm0 : 1 ≤ HouseT.cntS a 1 := by unfold HouseT.cntS; omega
  have hm3 := GroupActT.cntS_w x (HouseT.cntS a 1)
  refine pc_at Tryz.func3 rfl (by kernel_rfl) 119 [.tmp 4] rfl rfl ?_
  repeat' (conv => whnf); first
 | refine nameB_self (b := b) ?_
 | refine nameB_no (b := !(b == b)) (by simp) ?_
 | refine nameB_dno (by omega) ?_
 | refine nameB_true ?_
 | refine nameB_false ?_
 | (refine nameB_cases (fun h => ?_) (fun h => ?_) <;> try simp only [nmL, lensB] at h)
 | refine splitB_true ?_
 | refine splitB_false ?_
 | refine draw_text (by kernel_rfl) (by kernel_rfl) (by kernel_rfl) ?_
 | (by_cases hn : (1048576 : Int) - ((HouseT.w a : Nat) : Int) < 0 <;> first | refine Call0 (pc_szneg (c_laws_szHouse a (1048576 : Int) (by omega) (by omega) hok) hn) rfl rfl ?_ | refine Call0 (pc_szpos (c_laws_szHouse a (1048576 : Int) (by omega) (by omega) hok) hn) rfl rfl ?_)
 | (by_cases hn : (1048576 - ((HouseT.w a : Nat) : Int)) - ((GroupActT.w x : Nat) : Int) < 0 <;> first | refine Call0 (pc_szneg (c_laws_szGroupAct x (1048576 - ((HouseT.w a : Nat) : Int)) (by omega) (by omega) hx) hn) rfl rfl ?_ | refine Call0 (pc_szpos (c_laws_szGroupAct x (1048576 - ((HouseT.w a : Nat) : Int)) (by omega) (by omega) hx) hn) rfl rfl ?_)
 | refine CallF (hI (by omega)) rfl rfl rfl (Nat.le_of_ble_eq_true rfl) ?_
 | refine CallF (c_laws_toHouse a (by omega)) rfl rfl rfl (Nat.le_of_ble_eq_true rfl) ?_
 | refine CallF (c_laws_toGroupAct x (by omega)) rfl rfl rfl (Nat.le_of_ble_eq_true rfl) ?_
 | refine Call0 (pc_true (c_laws_eqHouse W W hW) rfl) rfl rfl ?_
 | refine CallMs (m_laws_markHouse a 1 (by omega) (by omega)) [] trivial rfl rfl ?_
 | refine CallMs (m_laws_markGroupAct x (HouseT.cntS a 1) (by omega) (by omega)) [] trivial rfl rfl ?_
 | refine CallMs (m_laws_markHouse W 1 (by omega) (by omega)) [] trivial rfl rfl ?_
 | refine Call0 (c_laws_heldHouse W 1 (by omega) (by omega)) rfl rfl ?_
 | refine CallDT (hS (by omega)) rfl rfl rfl ⟨rfl, rfl⟩ ?_
 | refine CallDT (nid := 32784) (c_laws_toHouse_ro a (by omega)) rfl rfl rfl ⟨rfl, rfl⟩ ?_
 | refine CallDT (nid := 32816) (c_laws_toGroupAct_ro x (by omega)) rfl rfl rfl ⟨rfl, rfl⟩ ?_
 | refine CallDF (hI (by omega)) rfl rfl ⟨rfl, rfl⟩ ?_
 | refine CallDF (c_laws_toHouse a (by omega)) rfl rfl ⟨rfl, rfl⟩ ?_
 | refine CallDF (c_laws_toGroupAct x (by omega)) rfl rfl ⟨rfl, rfl⟩ ?_
 | refine CallD0 (pc_true (c_laws_eqHouse a a hok) rfl) rfl rfl rfl ?_
 | refine CallD0 (pc_true (c_laws_eqGroupAct x x hx) rfl) rfl rfl rfl ?_
 | refine side_and (side_of (by first | exact ⟨Nat.le_of_ble_eq_true rfl, rfl⟩ | fail)) ?_
 | refine side_and (side_of (by first | exact Nat.le_of_ble_eq_true rfl | exact rfl | omega | fail)) ?_
 | refine side_and (side_of (by first | (and_intros <;> first | rfl | omega | exact Nat.le_of_ble_eq_true rfl) | fail)) ?_
 | fail
  all_goals
    conv => whnf
    refine OutA_plain rfl rfl ?_
    first | rfl | (exfalso; omega) | (exfalso; simp at * <;> omega)
theorem c_laws_FnExactActHouse (a : HouseT) (x : GroupActT) (hok : a.ok) (hx : x.ok) : PC Tryz.prog false 3 [.agg a.cells, .agg x.cells] (.bool true) [] := by
  by_cases hw : a.w + x.w ≤ 1048576
  · exact law_ActHouse a (actA a x) x (okA a x) hok hx (actA_HG hok hx hw).1 (actA_HG hok hx hw).2 (fun h => c_spec_ActHouse a x hok (hb_of (by omega)) hx (by omega)) (fun h => c_impl_ActHouse a x hok (hb_of (by omega)) hx (by omega))
  · exact law_ActHouse a zeroH x false hok hx zeroH_HG.okw.1 zeroH_HG.okw.2 (fun h => absurd h hw) (fun h => absurd h hw)
end Go.Proofs.YtfpkfnfgloonhaaGreat
