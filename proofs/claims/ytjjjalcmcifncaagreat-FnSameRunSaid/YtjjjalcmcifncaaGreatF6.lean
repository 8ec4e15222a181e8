/- Part 6 of one proof: lemmas and contracts, laid one behind the other. No condition. -/
import Derived.Test.YtjjjalcmcifncaaGreatF5
import Derived.Test.YtjjjalcmcifncaaGreatF4
import Derived.Test.YtjjjalcmcifncaaGreatF1
namespace Go.Proofs.YtjjjalcmcifncaaGreat
open Go.Ab
set_option linter.unusedSimpArgs false
set_option maxRecDepth 20000
set_option maxHeartbeats 4000000
set_option linter.unusedVariables false
theorem c_impl_isLogE (l : List EntryT) (term : Int) (hok : okL EntryT.ok l) (hw : ∀ x ∈ l, x.w <= 1048576) : PC Tryz.prog false 57 [.sl (l.map EntryT.cells), .int .i64 term] (.bool (okLog l term)) [] := by
  have hl := hok.1
  refine pc_at Tryz.func57 rfl (by kernel_rfl) 44 [.tmp 4] rfl rfl ?_
  repeat' (conv => whnf); first
 | refine ix_as (m := k - 1) (by simp only [i64_wrap_eq]; omega) (by omega) (fun y hy => ?_)
 | (refine nameB_cases (b := okRec x.Rec) (fun h => ?_) (fun h => ?_))
 | refine nameB_true ?_
 | refine nameB_false ?_
 | (refine nameB_dec (fun h => ?_) (fun h => ?_) <;> try simp only [lensB] at h)
 | (refine nameB_cases (fun h => ?_) (fun h => ?_) <;> try simp only [nmL, lensB] at h)
 | refine splitB_true ?_
 | refine splitB_false ?_
 | refine draw_text (by kernel_rfl) (by kernel_rfl) (by kernel_rfl) ?_
 | ((refine Loop_at [0, 1, 7, 8] [] (Nat) (fun k => allPre (entAt term) (l.take k) (l.drop k) = allPre (entAt term) [] l /\ k <= l.length) (fun k => [(9, .int .i64 (k : Nat))]) (fun k => []) (fun k => l.length - k) 0 ⟨by first | (simp_all <;> fail) | rfl | fail, trivial⟩ trivial (by (try dsimp only); first | (exact ⟨rfl, by omega⟩) | fail) ?_; (conv => whnf); refine side_and (side_of (by first | exact fun k => rfl | exact fun k => by simp [headOk, closedE, closedO, closedL, AV.closed, hcap.closed, hasId, AObj.box, BK.ofB])) ?_; rintro k hT; try dsimp only at hT))
 | (refine Again_of (k + 1) ⟨by first | rfl | exact i64_next (by omega) | (simp_all <;> fail) | fail, trivial⟩ trivial (by first | (and_intros <;> first | rfl | trivial) | fail) (by first | (and_intros <;> first | rfl | trivial) | fail) rfl rfl rfl (by (try dsimp only); first | (first | exact ⟨allPre_go hT.1 hx (entAt_yes ‹_› ‹_› (prevB_zero ‹_›)), by omega⟩ | exact ⟨allPre_go hT.1 hx (entAt_yes ‹_› ‹_› ((prevB_pos ‹_› hy).trans (decide_eq_true (by omega)))), by omega⟩) | fail) (show _ < _ by (try dsimp only); omega))
 | refine CallD0 (c_impl_within ..) rfl rfl rfl ?_
 | refine CallD0 (c_impl_GoodRec x.Rec (hok.2 x (mgE hx)).2 (ent_len (hw x (mgE hx))).1 (ent_len (hw x (mgE hx))).2) rfl rfl rfl ?_
 | (refine ix_map (by omega) (by (try simp only [List.length_take]); omega) (fun x hx => ?_); try simp only [Int.toNat_natCast] at hx)
 | refine sdA ⟨nbT rfl, rfl⟩ ?_
 | refine sdA (by first | exact nbT rfl | exact rfl | omega | fail) ?_
 | refine sdA (by first | (and_intros <;> first | rfl | omega | exact nbT rfl) | fail) ?_
 | refine LoadK_of rfl rfl ?_
 | fail
  all_goals
    conv => whnf
    refine OutA_plain rfl rfl ?_
    first
    | (have hb := allPre_bad hT.1 hx (entAt_no (.inl ‹_›)); simp only [okLog, hb, Bool.false_and]; rfl)
    | (have hb := allPre_bad hT.1 hx (entAt_no (.inr (.inl ‹_›))); simp only [okLog, hb, Bool.false_and]; rfl)
    | (have hb := allPre_bad hT.1 hx (entAt_no (.inr (.inr ((prevB_pos ‹_› hy).trans (decide_eq_false (by omega)))))); simp only [okLog, hb, Bool.false_and]; rfl)
    | (have hb := allPre_end hT.1 ‹_›; simp only [okLog, hb, Bool.true_and, *]; rfl)
theorem onK_ok {d : DiskT} (h : d.Kept.length <= 1048576) : okL EntryT.ok (onK d) /\ (∀ x ∈ onK d, x.w <= 1048576) /\ (onK d).length <= d.Kept.length := by
  obtain ⟨f1, f2, f3⟩ := frames_ok (b := d.Kept)
  unfold onK
  refine ⟨⟨by rw [List.length_map]; omega, fun x hx => ?_⟩, fun x hx => ?_, by rw [List.length_map]; exact f2⟩
  · obtain ⟨z, _, rfl⟩ := List.mem_map.1 hx
    exact small_ok outE_small
  · obtain ⟨z, _, rfl⟩ := List.mem_map.1 hx
    exact outE_small.w
theorem c_impl_actHouse_no (h : HouseT) (a : GroupActT) (hok : h.ok) (hb : GB h.Group) (aok : a.ok) (haw : a.w <= 1048576) (ho : okAct h.Group a = false) : PC Tryz.prog false 27 [.agg h.cells, .agg a.cells] (.tup [.agg [.own 0, .int .i64 0, .int .i64 0, .own 1], .bool false]) [⟨.deep ReplicaT.shp, 60, 3, []⟩, ⟨.deep DiskT.shp, 67, 2, []⟩] := by
  refine pc_at Tryz.func27 rfl (by kernel_rfl) 102 [.cell 4 30, .tmp 5] rfl rfl ?_
  repeat' (conv => whnf); first
 | refine nameB_no (b := okAct h.Group a) ho ?_
 | refine nameB_true ?_
 | refine splitB_true ?_
 | refine CallF (c_impl_doGroup h.Group a hok.1 hb aok haw) rfl rfl rfl (nbT rfl) ?_
 | refine sdA ⟨nbT rfl, rfl⟩ ?_
 | refine sdA (by first | exact nbT rfl | exact rfl | omega | fail) ?_
 | refine sdA (by first | (and_intros <;> first | rfl | omega | exact nbT rfl) | fail) ?_
 | fail
  all_goals
    conv => whnf
    refine OutA_nilB 32 1 60 3 0 rfl rfl rfl (by decide) ?_
    refine OutA_nilB 32 2 67 2 3 rfl rfl rfl (by decide) ?_
    refine OutA_prom [(1, ReplicaT.shp), (2, DiskT.shp)] ⟨⟨_, _, _, rfl, prom_nil⟩, ⟨_, _, _, rfl, prom_nil⟩, trivial⟩ ?_
    conv => whnf
    exact OutA_deep rfl rfl rfl ⟨⟨rfl, rfl⟩, ⟨⟨rfl, rfl⟩, trivial⟩⟩ rfl
theorem set_dsk {ds : List DiskT} {n : Nat} {d : DiskT} {c : List AV} (hc : c = d.cells) : (ds.map DiskT.cells).set n c = (ds.set n d).map DiskT.cells := by rw [hc, List.map_set]
theorem prom_set {sh : List Shp} {xs : List (List AV)} {n : Nat} {c : List AV} (h : ∀ e ∈ xs, flatFit sh e = true) (hc : flatFit sh c = true) : ∀ e ∈ xs.set n c, flatFit sh e = true := fun e he => by
  rcases List.mem_or_eq_of_mem_set he with q | rfl
  · exact h e q
  · exact hc
theorem putH_of {h : HouseT} {g : GroupT} {y : ReplicaT} (hy : g.Reps[g.Lead.toNat]? = some y) : putH h g = ⟨g, h.Disks.set g.Lead.toNat ⟨keptB y.Log, []⟩⟩ := by unfold putH; rw [logOf_of hy]
theorem copyH_of {h : HouseT} {g : GroupT} {r : Int} {y : ReplicaT} (hy : g.Reps[r.toNat]? = some y) : copyH h g r = ⟨g, h.Disks.set r.toNat ⟨keptB y.Log, []⟩⟩ := by unfold copyH; rw [logOf_of hy]
theorem backH_of {h : HouseT} {g : GroupT} {r : Int} {d : DiskT} (hd : h.Disks[r.toNat]? = some d) : backH h g r = ⟨⟨setRep g r (fun _ => ⟨true, onK d, 0⟩), g.Term, g.Lead⟩, h.Disks.set r.toNat (mended d)⟩ := by unfold backH backG; rw [dskOf_of hd]
theorem c_impl_actHouse_4 (h : HouseT) (a : GroupActT) (y : ReplicaT) (hok : h.ok) (hb : GB h.Group) (aok : a.ok) (haw : a.w <= 1048576) (ho : okAct h.Group a = true) (hk : a.Kind = 4) (hdl : h.Disks.length <= 1048576)
    (hy : (actG h.Group a).Reps[(actG h.Group a).Lead.toNat]? = some y) (h0 : 0 <= (actG h.Group a).Lead) (h1 : (actG h.Group a).Lead.toNat < h.Disks.length) (h2 : y.Log.length <= 61) (h3 : ∀ e ∈ y.Log, entIn e) :
    PC Tryz.prog false 27 [.agg h.cells, .agg a.cells] (.tup [.agg [.own 0, .int .i64 (actG h.Group a).Term, .int .i64 (actG h.Group a).Lead, .own 1], .bool true]) [⟨.deep ReplicaT.shp, 60, 3, (actG h.Group a).Reps.map ReplicaT.cells⟩, ⟨.deep DiskT.shp, 67, 2, (putH h (actG h.Group a)).Disks.map DiskT.cells⟩] := by
  have hn := (List.getElem?_eq_some_iff.1 hy).1
  refine pc_at Tryz.func27 rfl (by kernel_rfl) 102 [.cell 4 30, .tmp 5] rfl rfl ?_
  repeat' (conv => whnf); first
 | refine nameB_yes (b := okAct h.Group a) ho ?_
 | refine nameB_dyes hk ?_
 | refine ix_ownat (f := ReplicaT.cells) (xs := (actG h.Group a).Reps) hy ?_
 | (refine ix_own (f := DiskT.cells) (xs := h.Disks) h1 (fun d hd => ?_))
 | refine nameB_false ?_
 | refine splitB_true ?_
 | refine splitB_false ?_
 | refine draw_text (by kernel_rfl) (by kernel_rfl) (by kernel_rfl) ?_
 | refine CallF (c_impl_doGroup h.Group a hok.1 hb aok haw) rfl rfl rfl (nbT rfl) ?_
 | refine CallDF (c_Clone_Disk h.Disks hdl) rfl rfl ⟨rfl, rfl⟩ ?_
 | refine CallD0 (c_impl_diskOf y.Log h3 h2) rfl rfl rfl ?_
 | refine sdA ⟨nbT rfl, rfl⟩ ?_
 | refine sdA (by first | exact nbT rfl | exact rfl | omega | fail) ?_
 | refine sdA (by first | (and_intros <;> first | rfl | omega | exact nbT rfl) | fail) ?_
 | refine sdA (by first | (and_intros <;> first | exact nbT rfl | rfl | omega | (simp only [lensB, lensC]; omega) | exact bytes_ok (nbT rfl) (by omega) (by simp only [lensB, lensC]; omega) | exact bytes_okN (nbT rfl) (by simp only [lensB, lensC]; omega)) | fail) ?_
 | refine LoadR_cel rfl rfl rfl rfl ?_
 | fail
  all_goals
    conv => whnf
    rw [putH_of hy]
    refine OutA_prom [(16432, DiskT.shp)] ⟨⟨_, _, _, rfl, prom_set (prom_map (fun _ => rfl)) rfl⟩, trivial⟩ ?_
    conv => whnf
    exact OutA_deep rfl rfl rfl ⟨⟨rfl, rfl⟩, ⟨⟨congrArg (fun e => some (AObj.mk _ _ _ e)) (set_dsk (d := ⟨keptB y.Log, []⟩) rfl), rfl⟩, trivial⟩⟩ rfl
theorem c_impl_actHouse_5 (h : HouseT) (a : GroupActT) (y : ReplicaT) (hok : h.ok) (hb : GB h.Group) (aok : a.ok) (haw : a.w <= 1048576) (ho : okAct h.Group a = true) (hk : a.Kind = 5) (hdl : h.Disks.length <= 1048576)
    (hy : (actG h.Group a).Reps[a.Rep.toNat]? = some y) (h0 : 0 <= a.Rep) (h1 : a.Rep.toNat < h.Disks.length) (h2 : y.Log.length <= 61) (h3 : ∀ e ∈ y.Log, entIn e) :
    PC Tryz.prog false 27 [.agg h.cells, .agg a.cells] (.tup [.agg [.own 0, .int .i64 (actG h.Group a).Term, .int .i64 (actG h.Group a).Lead, .own 1], .bool true]) [⟨.deep ReplicaT.shp, 60, 3, (actG h.Group a).Reps.map ReplicaT.cells⟩, ⟨.deep DiskT.shp, 67, 2, (copyH h (actG h.Group a) a.Rep).Disks.map DiskT.cells⟩] := by
  have hn := (List.getElem?_eq_some_iff.1 hy).1
  refine pc_at Tryz.func27 rfl (by kernel_rfl) 102 [.cell 4 30, .tmp 5] rfl rfl ?_
  repeat' (conv => whnf); first
 | refine nameB_yes (b := okAct h.Group a) ho ?_
 | refine nameB_dyes hk ?_
 | refine nameB_dno (by omega) ?_
 | refine ix_ownat (f := ReplicaT.cells) (xs := (actG h.Group a).Reps) hy ?_
 | (refine ix_own (f := DiskT.cells) (xs := h.Disks) h1 (fun d hd => ?_))
 | refine nameB_false ?_
 | refine splitB_true ?_
 | refine splitB_false ?_
 | refine draw_text (by kernel_rfl) (by kernel_rfl) (by kernel_rfl) ?_
 | refine CallF (c_impl_doGroup h.Group a hok.1 hb aok haw) rfl rfl rfl (nbT rfl) ?_
 | refine CallDF (c_Clone_Disk h.Disks hdl) rfl rfl ⟨rfl, rfl⟩ ?_
 | refine CallD0 (c_impl_diskOf y.Log h3 h2) rfl rfl rfl ?_
 | refine sdA ⟨nbT rfl, rfl⟩ ?_
 | refine sdA (by first | exact nbT rfl | exact rfl | omega | fail) ?_
 | refine sdA (by first | (and_intros <;> first | rfl | omega | exact nbT rfl) | fail) ?_
 | refine sdA (by first | (and_intros <;> first | exact nbT rfl | rfl | omega | (simp only [lensB, lensC]; omega) | exact bytes_ok (nbT rfl) (by omega) (by simp only [lensB, lensC]; omega) | exact bytes_okN (nbT rfl) (by simp only [lensB, lensC]; omega)) | fail) ?_
 | refine LoadR_cel rfl rfl rfl rfl ?_
 | fail
  all_goals
    conv => whnf
    rw [copyH_of hy]
    refine OutA_prom [(16432, DiskT.shp)] ⟨⟨_, _, _, rfl, prom_set (prom_map (fun _ => rfl)) rfl⟩, trivial⟩ ?_
    conv => whnf
    exact OutA_deep rfl rfl rfl ⟨⟨rfl, rfl⟩, ⟨⟨congrArg (fun e => some (AObj.mk _ _ _ e)) (set_dsk (d := ⟨keptB y.Log, []⟩) rfl), rfl⟩, trivial⟩⟩ rfl
theorem c_impl_actHouse_n (h : HouseT) (a : GroupActT) (hok : h.ok) (hb : GB h.Group) (aok : a.ok) (haw : a.w <= 1048576) (ho : okAct h.Group a = true) (h4 : ¬ a.Kind = 4) (h5 : ¬ a.Kind = 5) (h2 : ¬ a.Kind = 2) (hdl : h.Disks.length <= 1048576) :
    PC Tryz.prog false 27 [.agg h.cells, .agg a.cells] (.tup [.agg [.own 0, .int .i64 (actG h.Group a).Term, .int .i64 (actG h.Group a).Lead, .own 1], .bool true]) [⟨.deep ReplicaT.shp, 60, 3, (actG h.Group a).Reps.map ReplicaT.cells⟩, ⟨.deep DiskT.shp, 67, 2, h.Disks.map DiskT.cells⟩] := by
  refine pc_at Tryz.func27 rfl (by kernel_rfl) 102 [.cell 4 30, .tmp 5] rfl rfl ?_
  repeat' (conv => whnf); first
 | refine nameB_yes (b := okAct h.Group a) ho ?_
 | refine nameB_dno ‹_› ?_
 | refine nameB_false ?_
 | refine splitB_false ?_
 | refine draw_text (by kernel_rfl) (by kernel_rfl) (by kernel_rfl) ?_
 | refine CallF (c_impl_doGroup h.Group a hok.1 hb aok haw) rfl rfl rfl (nbT rfl) ?_
 | refine CallDF (c_Clone_Disk h.Disks hdl) rfl rfl ⟨rfl, rfl⟩ ?_
 | refine sdA ⟨nbT rfl, rfl⟩ ?_
 | refine sdA (by first | exact nbT rfl | exact rfl | omega | fail) ?_
 | refine sdA (by first | (and_intros <;> first | rfl | omega | exact nbT rfl) | fail) ?_
 | fail
  all_goals
    conv => whnf
    refine OutA_prom [(16432, DiskT.shp)] ⟨⟨_, _, _, rfl, prom_map (fun _ => rfl)⟩, trivial⟩ ?_
    conv => whnf
    exact OutA_deep rfl rfl rfl ⟨⟨rfl, rfl⟩, ⟨⟨rfl, rfl⟩, trivial⟩⟩ rfl
theorem c_spec_StartRepF (g : GroupT) (r : Int) (hok : g.ok) (hw : GB g) (h0 : okUp g r false = true) : PC Tryz.prog true 84 [.agg g.cells, .int .i64 r] (.tup [.agg [.own 0, .int .i64 (startR g r).Term, .int .i64 (startR g r).Lead], .bool true]) [⟨false, 60, 3, (startR g r).Reps.map ReplicaT.cells⟩] := by
  have hl := reps_len hw
  refine pc_at Tryz.func84 rfl (by kernel_rfl) 20 [.cell 4 27, .tmp 5] rfl rfl ?_
  repeat' (conv => whnf); first
 | refine nameB_yes (b := okUp g r false) h0 ?_
 | exact side_of (okUp_side (b := false) ‹_›)
 | refine ix_own (f := ReplicaT.cells) (xs := g.Reps) (okUp_lt (b := false) ‹_›).2 (fun y hy => ?_)
 | refine nameB_false ?_
 | refine splitB_false ?_
 | refine Call0 (c_spec_l9Up g r false hok hw) rfl rfl ?_
 | refine CallT (c_spec_l9Own g hw) rfl rfl rfl rfl (nbT rfl) ?_
 | refine sdA ⟨nbT rfl, rfl⟩ ?_
 | refine sdA (by first | exact nbT rfl | exact rfl | omega | fail) ?_
 | refine sdA (by first | (and_intros <;> first | rfl | omega | exact nbT rfl) | fail) ?_
 | refine side_and ?_ ?_
 | fail
  all_goals
    conv => whnf
    rw [startR_yes h0]
    exact OutA_ids rfl rfl rfl ⟨⟨_, _, _, rfl, congrArg (AObj.mk false _ _) (setRep_cells (f := fun y => { y with Up := true }) hy rfl).symm⟩, trivial⟩ rfl (.inl rfl)
theorem c_spec_l9Do_2F (g : GroupT) (a : GroupActT) (hok : g.ok) (hw : GB g) (hk : a.Kind = 2) (ho : okAct g a = true) : PC Tryz.prog true 47 [.agg g.cells, .agg a.cells] (.tup [.agg [.own 0, .int .i64 (actG g a).Term, .int .i64 (actG g a).Lead], .bool true]) [⟨false, 60, 3, (actG g a).Reps.map ReplicaT.cells⟩] := by
  obtain ⟨e1, e2⟩ := act2 (g := g) (a := a) hk
  rw [e2] at ho
  rw [e1]
  refine pc_at Tryz.func47 rfl (by kernel_rfl) 55 [.cell 4 27, .tmp 5] rfl rfl ?_
  repeat' (conv => whnf); first
 | refine nameB_dyes hk ?_
 | refine nameB_dno (by omega) ?_
 | refine nameB_true ?_
 | refine splitB_true ?_
 | refine splitB_false ?_
 | refine CallT (c_spec_StartRepF g a.Rep hok hw ho) rfl rfl rfl rfl (nbT rfl) ?_
 | refine sdA ⟨nbT rfl, rfl⟩ ?_
 | refine sdA (by first | exact nbT rfl | exact rfl | omega | fail) ?_
 | refine sdA (by first | (and_intros <;> first | rfl | omega | exact nbT rfl) | fail) ?_
 | fail
  all_goals
    conv => whnf
    exact OutA_ids rfl rfl rfl ⟨⟨_, _, _, rfl, rfl⟩, trivial⟩ rfl (.inl rfl)
theorem mended_on {d : DiskT} (hm : mendB d = true) (hall : (frames d.Kept 0).1.all okE = true) : okOnD (mended d) = true /\ onD (mended d) = onK d := by
  obtain ⟨m1, m2, m3⟩ := mendB_of hm
  have hk : okDsk (mended d) = true := by
    unfold okDsk at m1 ⊢
    rw [decide_eq_true_eq] at m1 ⊢
    unfold mended
    simp only [List.length_take, List.length_nil]
    omega
  have hb : dskB (mended d) = d.Kept.take (frames d.Kept 0).2 := by unfold dskB mended; simp
  have ho : okOnD (mended d) = true := by
    unfold okOnD
    rw [hk, hb, frames_mend, hall]
    rfl
  refine ⟨ho, ?_⟩
  rw [onD_yes ho, hb, frames_mend]
  rfl
theorem mended_w {d : DiskT} (hm : mendB d = true) : (mended d).w <= 50000 := by
  obtain ⟨m1, m2, m3⟩ := mendB_of hm
  have hw2 := okDsk_w m1
  have hk : d.w = d.Kept.length + d.Loose.length := rfl
  show (d.Kept.take _).length + 0 <= _
  rw [List.length_take]
  omega
theorem c_spec_OnDisk_m (d : DiskT) (hm : mendB d = true) (hall : (frames d.Kept 0).1.all okE = true) : PC Tryz.prog true 62 [.agg (mended d).cells] (.tup [.sl ((onK d).map EntryT.cells), .bool true]) [] := by
  obtain ⟨h1, h2⟩ := mended_on hm hall
  have := c_spec_OnDisk (mended d) (by have := mended_w hm; omega)
  rw [h1, h2] at this
  exact this
theorem backRep_ok {L : List EntryT} {t : Int} : okRep t ⟨true, L, 0⟩ = okLog L t := by
  unfold okRep inB
  simp
theorem TinyR.w {r : RecT} (h : TinyR r) : r.w <= 500 := by
  have e : r.w = wL List.length r.Reads + wL WriteT.w r.Writes := rfl
  have h1 : wL List.length r.Reads = r.Reads.length + (r.Reads.map List.length).sum := rfl
  have h2 : wL WriteT.w r.Writes = r.Writes.length + (r.Writes.map WriteT.w).sum := rfl
  have h3 := sum_le (w := List.length) (n := 12) r.Reads h.rl
  have h4 := sum_le (w := WriteT.w) (n := 36) r.Writes (fun x hx => by have := h.wl x hx; show x.Key.length + x.Val.length <= _; omega)
  have := h.reads
  have := h.writes
  omega
theorem log_w {L : List EntryT} (hl : L.length <= 61) (h : ∀ e ∈ L, okRec e.Rec = true) : okL EntryT.ok L /\ wL EntryT.w L <= 31000 := by
  have h2 : wL EntryT.w L = L.length + (L.map EntryT.w).sum := rfl
  have h4 := sum_le (w := EntryT.w) (n := 500) L (fun x hx => (okRec_tiny (h x hx)).w)
  exact ⟨⟨by omega, fun x hx => small_ok (okRec_tiny (h x hx)).small⟩, by omega⟩
theorem okE_good {s : List UInt8} (h : okE s = true) : okRec (outE s).Rec = true /\ 1 <= (outE s).Term /\ (outE s).Term <= 200 := by
  have e := outE_yes h
  unfold okE at h
  simp only [baT] at h
  obtain ⟨⟨⟨_, _⟩, h3⟩, h4⟩ := h
  rw [e]
  have hb := inB_le' h3
  refine ⟨?_, hb.1, hb.2⟩
  cases hc : ((sealF (s.drop (numFS s 0 false).2.1)).2 && goodR (s.drop (numFS s 0 false).2.1) (recS (sealF (s.drop (numFS s 0 false).2.1)).1)) with
  | false => rw [outR_no hc] at h4; cases h4
  | true =>
    rw [outR_yes hc]
    simp only [baT] at hc
    have h5 := hc.2
    unfold goodR at h5
    simp only [baT] at h5
    exact h5.1.2
theorem onK_good {d : DiskT} (hall : (frames d.Kept 0).1.all okE = true) : ∀ e ∈ onK d, okRec e.Rec = true /\ 1 <= e.Term /\ e.Term <= 200 := by
  intro e he
  unfold onK at he
  obtain ⟨s, hs, rfl⟩ := List.mem_map.1 he
  rw [List.all_eq_true] at hall
  exact okE_good (hall s hs)
theorem fitsD_len {t : Int} {x : ReplicaT} {d : DiskT} (h : fitsD t x d = true) : (onK d).length <= x.Log.length + 1 := by
  unfold fitsD at h
  rw [baT] at h
  have h2 := h.2
  change fitsL t x (onK d) _ _ = true at h2
  unfold fitsL at h2
  cases hu : x.Up with
  | true =>
    rw [hu] at h2
    simp only [baT, decide_eq_true_eq] at h2
    rw [h2.1]; omega
  | false =>
    rw [hu] at h2
    simp only [baT, Bool.or_eq_true, decide_eq_true_eq] at h2
    omega
theorem OkH.onK_len {h : HouseT} (o : OkH h) {n : Nat} {d : DiskT} (hd : h.Disks[n]? = some d) : (onK d).length <= 61 /\ (∀ e ∈ onK d, okRec e.Rec = true) /\ (∀ e ∈ onK d, 1 <= e.Term /\ e.Term <= 200) := by
  have hn := (List.getElem?_eq_some_iff.1 hd).1
  have hx : h.Group.Reps[n]? = some (h.Group.Reps[n]'(by rw [<- o.len]; exact hn)) := List.getElem?_eq_getElem _
  have hf := o.pair n _ d hx hd
  have h1 := fitsD_len hf
  have h2 := (okG_of o.g).rep _ (mgE hx)
  unfold okRep at h2
  simp only [baT] at h2
  have h3 := (okLog_mem h2.1).1
  have hg := onK_good (fitsD_mend hf).2
  exact ⟨by omega, fun e he => (hg e he).1, fun e he => (hg e he).2⟩
theorem backRep_w {L : List EntryT} (hl : L.length <= 61) (h : ∀ e ∈ L, okRec e.Rec = true) : (⟨true, L, 0⟩ : ReplicaT).ok /\ (⟨true, L, 0⟩ : ReplicaT).w <= 1048576 := by
  obtain ⟨h1, h2⟩ := log_w hl h
  exact ⟨⟨trivial, h1, trivial⟩, Nat.le_trans h2 (by decide)⟩
theorem c_spec_ActHouse_bad (h : HouseT) (a : GroupActT) (hok : h.ok) (hb : HB h) (ho : okHouse h = false) : PC Tryz.prog true 30 [.agg h.cells, .agg a.cells] (.tup [.agg [.sl [], .int .i64 0, .int .i64 0, .sl []], .bool false]) [] := by
  refine pc_at Tryz.func30 rfl (by kernel_rfl) 112 [.cell 4 30, .tmp 5] rfl rfl ?_
  repeat' (conv => whnf); first
 | refine nameB_no (b := okHouse h) ho ?_
 | refine nameB_true ?_
 | refine splitB_true ?_
 | refine CallT (c_spec_l11Good h hok hb) rfl rfl rfl rfl (nbT rfl) ?_
 | refine sdA ⟨nbT rfl, rfl⟩ ?_
 | refine sdA (by first | exact nbT rfl | exact rfl | omega | fail) ?_
 | refine sdA (by first | (and_intros <;> first | rfl | omega | exact nbT rfl) | fail) ?_
 | fail
  all_goals
    conv => whnf
    refine OutA_nilB 32 1 60 3 0 rfl rfl rfl (by decide) ?_
    refine OutA_nilB 32 2 67 2 3 rfl rfl rfl (by decide) ?_
    refine OutA_frz [1, 2] ?_
    conv => whnf
    exact OutA_plain rfl rfl rfl
theorem c_spec_ActHouse_no (h : HouseT) (a : GroupActT) (hok : h.ok) (hb : HB h) (aok : a.ok) (haw : a.w <= 1048576) (hh : okHouse h = true) (ho : okAct h.Group a = false) : PC Tryz.prog true 30 [.agg h.cells, .agg a.cells] (.tup [.agg [.sl [], .int .i64 0, .int .i64 0, .sl []], .bool false]) [] := by
  refine pc_at Tryz.func30 rfl (by kernel_rfl) 112 [.cell 4 30, .tmp 5] rfl rfl ?_
  repeat' (conv => whnf); first
 | refine nameB_yes (b := okHouse h) hh ?_
 | refine nameB_no (b := okAct h.Group a) ho ?_
 | refine nameB_true ?_
 | refine nameB_false ?_
 | refine splitB_true ?_
 | refine splitB_false ?_
 | refine CallT (c_spec_l11Good h hok hb) rfl rfl rfl rfl (nbT rfl) ?_
 | refine CallT (c_spec_l9Do h.Group a hok.1 hb.gb aok haw) rfl rfl rfl rfl (nbT rfl) ?_
 | refine sdA ⟨nbT rfl, rfl⟩ ?_
 | refine sdA (by first | exact nbT rfl | exact rfl | omega | fail) ?_
 | refine sdA (by first | (and_intros <;> first | rfl | omega | exact nbT rfl) | fail) ?_
 | fail
  all_goals
    conv => whnf
    refine OutA_nilB 32 1 60 3 0 rfl rfl rfl (by decide) ?_
    refine OutA_nilB 32 2 67 2 3 rfl rfl rfl (by decide) ?_
    refine OutA_frz [1, 2] ?_
    conv => whnf
    exact OutA_plain rfl rfl rfl
theorem c_spec_ActHouse_n (h : HouseT) (a : GroupActT) (hok : h.ok) (hb : HB h) (aok : a.ok) (haw : a.w <= 1048576) (hh : okHouse h = true) (ho : okAct h.Group a = true) (h4 : ¬ a.Kind = 4) (h5 : ¬ a.Kind = 5) (h2 : ¬ a.Kind = 2) :
    PC Tryz.prog true 30 [.agg h.cells, .agg a.cells] (.tup [.agg (⟨actG h.Group a, h.Disks⟩ : HouseT).cells, .bool true]) [] := by
  have hdl := hb.dl
  refine pc_at Tryz.func30 rfl (by kernel_rfl) 112 [.cell 4 30, .tmp 5] rfl rfl ?_
  repeat' (conv => whnf); first
 | refine nameB_yes (b := okHouse h) hh ?_
 | refine nameB_yes (b := okAct h.Group a) ho ?_
 | refine nameB_dno ‹_› ?_
 | refine nameB_false ?_
 | refine splitB_false ?_
 | refine draw_text (by kernel_rfl) (by kernel_rfl) (by kernel_rfl) ?_
 | refine CallT (c_spec_l11Good h hok hb) rfl rfl rfl rfl (nbT rfl) ?_
 | refine CallT (c_spec_l9Do h.Group a hok.1 hb.gb aok haw) rfl rfl rfl rfl (nbT rfl) ?_
 | refine sdA ⟨nbT rfl, rfl⟩ ?_
 | refine sdA (by first | exact nbT rfl | exact rfl | omega | fail) ?_
 | refine sdA (by first | (and_intros <;> first | rfl | omega | exact nbT rfl) | fail) ?_
 | refine sdA (by first | (and_intros <;> first | exact nbT rfl | rfl | omega | (simp only [lensB, lensC]; omega) | exact bytes_ok (nbT rfl) (by omega) (by simp only [lensB, lensC]; omega) | exact bytes_okN (nbT rfl) (by simp only [lensB, lensC]; omega)) | fail) ?_
 | refine side_and (side_of (map_len (fun _ => rfl))) ?_
 | refine side_and (side_of (map_one (fun _ => rfl) _)) ?_
 | fail
  all_goals
    conv => whnf
    refine OutA_frz [24640] ?_
    conv => whnf
    exact OutA_plain rfl rfl rfl
theorem c_spec_ActHouse_4 (h : HouseT) (a : GroupActT) (y : ReplicaT) (hok : h.ok) (hb : HB h) (aok : a.ok) (haw : a.w <= 1048576) (hh : okHouse h = true) (ho : okAct h.Group a = true) (hk : a.Kind = 4)
    (hy : (actG h.Group a).Reps[(actG h.Group a).Lead.toNat]? = some y) (h0 : 0 <= (actG h.Group a).Lead) (h1 : (actG h.Group a).Lead.toNat < h.Disks.length) (h2 : y.Log.length <= 61) (h3 : ∀ e ∈ y.Log, entIn e) :
    PC Tryz.prog true 30 [.agg h.cells, .agg a.cells] (.tup [.agg (putH h (actG h.Group a)).cells, .bool true]) [] := by
  have hdl := hb.dl
  refine pc_at Tryz.func30 rfl (by kernel_rfl) 112 [.cell 4 30, .tmp 5] rfl rfl ?_
  repeat' (conv => whnf); first
 | refine nameB_yes (b := okHouse h) hh ?_
 | refine nameB_yes (b := okAct h.Group a) ho ?_
 | refine nameB_dyes hk ?_
 | refine ix_re (f := ReplicaT.cells) h0 hy ?_
 | (refine ix_own (f := DiskT.cells) (xs := h.Disks) h1 (fun d hd => ?_))
 | refine nameB_false ?_
 | refine splitB_true ?_
 | refine splitB_false ?_
 | refine draw_text (by kernel_rfl) (by kernel_rfl) (by kernel_rfl) ?_
 | refine CallT (c_spec_l11Good h hok hb) rfl rfl rfl rfl (nbT rfl) ?_
 | refine CallT (c_spec_l9Do h.Group a hok.1 hb.gb aok haw) rfl rfl rfl rfl (nbT rfl) ?_
 | refine CallD0 (c_spec_l11Kept y.Log h3 h2) rfl rfl rfl ?_
 | refine sdA ⟨nbT rfl, rfl⟩ ?_
 | refine sdA (by first | exact nbT rfl | exact rfl | omega | fail) ?_
 | refine sdA (by first | (and_intros <;> first | rfl | omega | exact nbT rfl) | fail) ?_
 | refine sdA (by first | (and_intros <;> first | exact nbT rfl | rfl | omega | (simp only [lensB, lensC]; omega) | exact bytes_ok (nbT rfl) (by omega) (by simp only [lensB, lensC]; omega) | exact bytes_okN (nbT rfl) (by simp only [lensB, lensC]; omega)) | fail) ?_
 | refine side_and (side_of (map_len (fun _ => rfl))) ?_
 | refine side_and (side_of (map_one (fun _ => rfl) _)) ?_
 | refine LoadK_of rfl rfl ?_
 | fail
  all_goals
    conv => whnf
    rw [putH_of hy]
    refine OutA_frz [24640] ?_
    conv => whnf
    exact OutA_plain rfl rfl (congrArg (fun e => AV.tup [.agg [_, _, _, .sl e], .bool true]) (set_dsk (d := ⟨keptB y.Log, []⟩) rfl))
theorem c_spec_ActHouse_5 (h : HouseT) (a : GroupActT) (y : ReplicaT) (hok : h.ok) (hb : HB h) (aok : a.ok) (haw : a.w <= 1048576) (hh : okHouse h = true) (ho : okAct h.Group a = true) (hk : a.Kind = 5)
    (hy : (actG h.Group a).Reps[a.Rep.toNat]? = some y) (h0 : 0 <= a.Rep) (h1 : a.Rep.toNat < h.Disks.length) (h2 : y.Log.length <= 61) (h3 : ∀ e ∈ y.Log, entIn e) :
    PC Tryz.prog true 30 [.agg h.cells, .agg a.cells] (.tup [.agg (copyH h (actG h.Group a) a.Rep).cells, .bool true]) [] := by
  have hdl := hb.dl
  refine pc_at Tryz.func30 rfl (by kernel_rfl) 112 [.cell 4 30, .tmp 5] rfl rfl ?_
  repeat' (conv => whnf); first
 | refine nameB_yes (b := okHouse h) hh ?_
 | refine nameB_yes (b := okAct h.Group a) ho ?_
 | refine nameB_dyes hk ?_
 | refine nameB_dno (by omega) ?_
 | refine ix_re (f := ReplicaT.cells) h0 hy ?_
 | (refine ix_own (f := DiskT.cells) (xs := h.Disks) h1 (fun d hd => ?_))
 | refine nameB_false ?_
 | refine splitB_true ?_
 | refine splitB_false ?_
 | refine draw_text (by kernel_rfl) (by kernel_rfl) (by kernel_rfl) ?_
 | refine CallT (c_spec_l11Good h hok hb) rfl rfl rfl rfl (nbT rfl) ?_
 | refine CallT (c_spec_l9Do h.Group a hok.1 hb.gb aok haw) rfl rfl rfl rfl (nbT rfl) ?_
 | refine CallD0 (c_spec_l11Kept y.Log h3 h2) rfl rfl rfl ?_
 | refine sdA ⟨nbT rfl, rfl⟩ ?_
 | refine sdA (by first | exact nbT rfl | exact rfl | omega | fail) ?_
 | refine sdA (by first | (and_intros <;> first | rfl | omega | exact nbT rfl) | fail) ?_
 | refine sdA (by first | (and_intros <;> first | exact nbT rfl | rfl | omega | (simp only [lensB, lensC]; omega) | exact bytes_ok (nbT rfl) (by omega) (by simp only [lensB, lensC]; omega) | exact bytes_okN (nbT rfl) (by simp only [lensB, lensC]; omega)) | fail) ?_
 | refine side_and (side_of (map_len (fun _ => rfl))) ?_
 | refine side_and (side_of (map_one (fun _ => rfl) _)) ?_
 | refine LoadK_of rfl rfl ?_
 | fail
  all_goals
    conv => whnf
    rw [copyH_of hy]
    refine OutA_frz [24640] ?_
    conv => whnf
    exact OutA_plain rfl rfl (congrArg (fun e => AV.tup [.agg [_, _, _, .sl e], .bool true]) (set_dsk (d := ⟨keptB y.Log, []⟩) rfl))
theorem back_cells {g : GroupT} {r : Int} {y : ReplicaT} {d : DiskT} {c : List AV} (hy : g.Reps[r.toNat]? = some y) (hc : c = (⟨true, onK d, 0⟩ : ReplicaT).cells) : (g.Reps.map ReplicaT.cells).set r.toNat c = (setRep g r (fun _ => ⟨true, onK d, 0⟩)).map ReplicaT.cells := setRep_cells (f := fun _ => ⟨true, onK d, 0⟩) hy hc
theorem c_spec_ActHouse_2 (h : HouseT) (a : GroupActT) (d : DiskT) (y : ReplicaT) (hok : h.ok) (hb : HB h) (aok : a.ok) (haw : a.w <= 1048576) (hh : okHouse h = true) (ho : okAct h.Group a = true) (hk : a.Kind = 2)
    (hd : h.Disks[a.Rep.toNat]? = some d) (hy : (actG h.Group a).Reps[a.Rep.toNat]? = some y) (h0 : 0 <= a.Rep) (h1 : a.Rep.toNat < h.Disks.length) (hm : mendB d = true) (hall : (frames d.Kept 0).1.all okE = true) (hL : (onK d).length <= 61) (hR : ∀ e ∈ onK d, okRec e.Rec = true) :
    PC Tryz.prog true 30 [.agg h.cells, .agg a.cells] (.tup [.agg (actI h a).cells, .bool (okActI h a)]) [] := by
  have hdl := hb.dl
  have hdw := hb.dw d (mgE hd)
  have hn := (List.getElem?_eq_some_iff.1 hy).1
  obtain ⟨r1, r2⟩ := backRep_w hL hR
  have hgr := c_spec_l9GoodRep ⟨true, onK d, 0⟩ (actG h.Group a).Term r1 r2
  rw [backRep_ok] at hgr
  refine pc_at Tryz.func30 rfl (by kernel_rfl) 112 [.cell 4 30, .tmp 5] rfl rfl ?_
  repeat' (conv => whnf); first
 | refine nameB_yes (b := okHouse h) hh ?_
 | refine nameB_dyes hk ?_
 | refine nameB_dno (by omega) ?_
 | refine ix_re (f := DiskT.cells) h0 hd ?_
 | refine ix_setG (by rw [List.length_map]; omega) ?_
 | refine ix_ownat (f := DiskT.cells) (xs := h.Disks) hd ?_
 | refine ix_ownat (f := ReplicaT.cells) (xs := (actG h.Group a).Reps) hy ?_
 | (refine nameB_cases (b := okLog (onK d) (actG h.Group a).Term) (fun hg => ?_) (fun hg => ?_))
 | refine nameB_true ?_
 | refine nameB_false ?_
 | refine splitB_true ?_
 | refine splitB_false ?_
 | refine draw_text (by kernel_rfl) (by kernel_rfl) (by kernel_rfl) ?_
 | refine CallT (c_spec_l11Good h hok hb) rfl rfl rfl rfl (nbT rfl) ?_
 | refine CallT (c_spec_l9Do_2F h.Group a hok.1 hb.gb hk ho) rfl rfl rfl rfl (nbT rfl) ?_
 | refine Call0 (c_spec_MendDisk d hm hdw) rfl rfl ?_
 | refine CallT (c_spec_OnDisk_m d hm hall) rfl rfl rfl rfl (nbT rfl) ?_
 | refine CallD0 hgr rfl rfl rfl ?_
 | refine sdA ⟨nbT rfl, rfl⟩ ?_
 | refine sdA (by first | exact nbT rfl | exact rfl | omega | fail) ?_
 | refine sdA (by first | (and_intros <;> first | rfl | omega | exact nbT rfl) | fail) ?_
 | refine sdA (by first | (and_intros <;> first | exact nbT rfl | rfl | omega | (simp only [lensB, lensC]; omega) | exact bytes_ok (nbT rfl) (by omega) (by simp only [lensB, lensC]; omega) | exact bytes_okN (nbT rfl) (by simp only [lensB, lensC]; omega)) | fail) ?_
 | refine side_and (side_of (map_len (fun _ => rfl))) ?_
 | refine side_and (side_of (map_one (fun _ => rfl) _)) ?_
 | refine LoadK_of rfl rfl ?_
 | fail
  all_goals
    conv => whnf
    first
    | (obtain ⟨e1, e2⟩ := actI_2 (h := h) (a := a) ho hk (by rw [dskOf_of hd]; assumption)
       rw [e1, e2, backH_of hd]
       refine OutA_frz [12336, 24640] ?_
       conv => whnf
       refine OutA_plain rfl rfl ?_
       refine Eq.trans (b := AV.tup [.agg [.sl (((actG h.Group a).Reps.map ReplicaT.cells).set a.Rep.toNat (⟨true, onK d, 0⟩ : ReplicaT).cells), .int .i64 (actG h.Group a).Term, .int .i64 (actG h.Group a).Lead, .sl ((h.Disks.map DiskT.cells).set a.Rep.toNat (mended d).cells)], .bool true]) rfl ?_
       rw [back_cells hy rfl, set_dsk (d := mended d) rfl]
       rfl)
    | (obtain ⟨e1, e2⟩ := actI_2n (h := h) (a := a) hk (by rw [dskOf_of hd]; assumption)
       rw [e1, e2]
       refine OutA_nilB 32 1 60 3 0 rfl rfl rfl (by decide) ?_
       refine OutA_nilB 32 2 67 2 3 rfl rfl rfl (by decide) ?_
       refine OutA_frz [1, 2] ?_
       conv => whnf
       exact OutA_plain rfl rfl rfl)
theorem c_impl_PutEntryT (g : GroupT) (r : RecT) (hok : g.ok) (hw : GB g) (rok : r.ok) (h1r : r.Reads.length <= 1048576) (h2r : r.Writes.length <= 1048576) : PC Tryz.prog true 50 [.agg g.cells, .agg r.cells] (.tup [.agg (putR g r).cells, .bool (okPut g r)]) [] := by
  have hl := reps_len hw
  refine pc_at Tryz.func50 rfl (by kernel_rfl) 55 [.cell 4 27, .tmp 5] rfl rfl ?_
  repeat' (conv => whnf); first
 | (show Go.Ab.drawA _ _ _ _ _; refine draw_exp (.take 0 (.take 1 (.take 2 (.take 3 (.take 5 (.fork 4 (.fork 6 (.fork 7 (.fork 8 (.fork 9 (.fork 10 (.fork 11 (.take 12 (.take 13 (.fork 14 (.done) (.stop)))) (.stop)) (.stop)) (.stop)) (.stop)) (.stop)) (.fork 7 (.fork 6 (.fork 8 (.fork 9 (.fork 10 (.fork 11 (.take 12 (.take 13 (.fork 14 (.done) (.stop)))) (.stop)) (.stop)) (.stop)) (.stop)) (.fork 8 (.fork 6 (.fork 9 (.fork 10 (.fork 11 (.take 12 (.take 13 (.fork 14 (.done) (.stop)))) (.stop)) (.stop)) (.stop)) (.stop)) (.stop))) (.stop))) (.fork 6 (.fork 4 (.fork 7 (.fork 8 (.fork 9 (.fork 10 (.fork 11 (.take 12 (.take 13 (.fork 14 (.done) (.stop)))) (.stop)) (.stop)) (.stop)) (.stop)) (.stop)) (.fork 7 (.fork 4 (.fork 8 (.fork 9 (.fork 10 (.fork 11 (.take 12 (.take 13 (.fork 14 (.done) (.stop)))) (.stop)) (.stop)) (.stop)) (.stop)) (.fork 8 (.fork 4 (.fork 9 (.fork 10 (.fork 11 (.take 12 (.take 13 (.fork 14 (.done) (.stop)))) (.stop)) (.stop)) (.stop)) (.fork 9 (.fork 4 (.fork 10 (.fork 11 (.take 12 (.take 13 (.fork 14 (.done) (.stop)))) (.stop)) (.stop)) (.fork 10 (.fork 4 (.fork 11 (.take 12 (.take 13 (.fork 14 (.done) (.stop)))) (.stop)) (.stop)) (.stop))) (.stop))) (.stop))) (.stop))) (.fork 7 (.fork 4 (.fork 6 (.fork 8 (.fork 9 (.fork 10 (.fork 11 (.take 12 (.take 13 (.fork 14 (.done) (.stop)))) (.stop)) (.stop)) (.stop)) (.stop)) (.fork 8 (.fork 6 (.fork 9 (.fork 10 (.fork 11 (.take 12 (.take 13 (.fork 14 (.done) (.stop)))) (.stop)) (.stop)) (.stop)) (.stop)) (.stop))) (.fork 6 (.fork 4 (.fork 8 (.fork 9 (.fork 10 (.fork 11 (.take 12 (.take 13 (.fork 14 (.done) (.stop)))) (.stop)) (.stop)) (.stop)) (.stop)) (.fork 8 (.fork 4 (.fork 9 (.fork 10 (.fork 11 (.take 12 (.take 13 (.fork 14 (.done) (.stop)))) (.stop)) (.stop)) (.stop)) (.fork 9 (.fork 4 (.fork 10 (.fork 11 (.take 12 (.take 13 (.fork 14 (.done) (.stop)))) (.stop)) (.stop)) (.fork 10 (.fork 4 (.fork 11 (.take 12 (.take 13 (.fork 14 (.done) (.stop)))) (.stop)) (.stop)) (.stop))) (.stop))) (.stop))) (.fork 8 (.fork 4 (.fork 6 (.fork 9 (.fork 10 (.fork 11 (.take 12 (.take 13 (.fork 14 (.done) (.stop)))) (.stop)) (.stop)) (.stop)) (.stop)) (.fork 6 (.fork 4 (.fork 9 (.fork 10 (.fork 11 (.take 12 (.take 13 (.fork 14 (.done) (.stop)))) (.stop)) (.stop)) (.stop)) (.fork 9 (.fork 4 (.fork 10 (.fork 11 (.take 12 (.take 13 (.fork 14 (.done) (.stop)))) (.stop)) (.stop)) (.fork 10 (.fork 4 (.fork 11 (.take 12 (.take 13 (.fork 14 (.done) (.stop)))) (.stop)) (.stop)) (.stop))) (.stop))) (.stop))) (.stop)))) (.stop))))))))) (by kernel_rfl) (by kernel_rfl) (by kernel_rfl) ?_)
 | refine ix_ownat (f := ReplicaT.cells) (xs := g.Reps) hy ?_
 | refine ix_setG (L := g.Reps.map ReplicaT.cells) (by rw [List.length_map]; exact (okLead_lt ‹_› ‹_›).2) ?_
 | exact side_of (lead_side ‹_› ‹_›)
 | refine ix_own (f := ReplicaT.cells) (xs := g.Reps) (okLead_lt ‹_› ‹_›).2 (fun y hy => ?_)
 | (refine nameB_cases (b := okGroup g) (fun h => ?_) (fun h => ?_))
 | refine nameB_true ?_
 | refine nameB_false ?_
 | (refine nameB_dec (fun h => ?_) (fun h => ?_) <;> try simp only [lensB] at h)
 | (refine nameB_cases (fun h => ?_) (fun h => ?_) <;> try simp only [nmL, lensB] at h)
 | refine splitB_true ?_
 | refine splitB_false ?_
 | refine both_intro ?_ ?_
 | exact True.intro
 | refine Call0 (c_impl_GoodGroup g hok hw) rfl rfl ?_
 | refine CallF (c_impl_copyGroup g hw) rfl rfl rfl (nbT rfl) ?_
 | refine Call0 (c_impl_GoodRec r rok h2r h1r) rfl rfl ?_
 | refine CallF (c_impl_copyRec r h1r h2r) rfl rfl rfl (nbT rfl) ?_
 | (refine hook_appC true rfl rfl rfl rfl rfl rfl (by rw [List.getElem?_map, hy]; rfl) ?_)
 | refine sdA ⟨nbT rfl, rfl⟩ ?_
 | refine sdA (by first | exact nbT rfl | exact rfl | omega | fail) ?_
 | refine sdA (by first | (and_intros <;> first | rfl | omega | exact nbT rfl) | fail) ?_
 | refine side_and ?_ ?_
 | refine LoadD_cel rfl rfl rfl rfl ?_
 | refine StoreD_of rfl rfl rfl ?_
 | refine BuildD_of EntryT.shp rfl rfl rfl ?_
 | refine AppD_of rfl (by and_intros <;> first | rfl | decide) (deep_app (L := y.Log.map EntryT.cells) rfl rfl (by rw [List.length_map]; have := wL_len (w := EntryT.w) (xs := y.Log); have := rep_logS hw hy; omega) (nbT rfl)) ?_
 | fail
  all_goals
    conv => whnf
    first
    | (have e := okPut_yes ‹_› ‹_› hy ‹_› ‹_›
       rw [putR_yes e, e]
       refine OutA_frz [12304] ?_
       conv => whnf
       refine OutA_plain rfl rfl ?_
       exact congrArg (fun e => AV.tup [.agg [.sl e, .int .i64 g.Term, .int .i64 g.Lead], .bool true]) (put_cells hy (putE_cells rfl)))
    | (have e : okPut g r = false := (by first | exact okPut_no1 (by first | exact .inl ‹_› | exact .inr (.inl ‹_›) | exact .inr (.inr ‹_›)) | exact okPut_no2 hy (by first | exact .inl ‹_› | exact .inr ‹_›))
       rw [putR_no e, e]
       refine OutA_nilB 32 1 60 3 0 rfl rfl rfl (by decide) ?_
       refine OutA_frz [1] ?_
       conv => whnf
       exact OutA_plain rfl rfl rfl)
theorem c_impl_ifDisk (d : DiskT) (hw : d.w <= 1048576) (ho : okDsk d = true) : PC Tryz.prog false 93 [.agg d.cells] (.tup [.agg d.cells, .bool true]) [] := by
  refine pc_at Tryz.func93 rfl (by kernel_rfl) 9 [.cell 2 67, .tmp 3] rfl rfl ?_
  repeat' (conv => whnf); first
 | refine nameB_yes (b := okDsk d) ho ?_
 | refine nameB_false ?_
 | refine splitB_false ?_
 | refine Call0 (c_impl_GoodDisk d hw) rfl rfl ?_
 | refine sdA ⟨nbT rfl, rfl⟩ ?_
 | refine sdA (by first | exact nbT rfl | exact rfl | omega | fail) ?_
 | refine sdA (by first | (and_intros <;> first | rfl | omega | exact nbT rfl) | fail) ?_
 | fail
  all_goals
    conv => whnf
    exact OutA_plain rfl rfl rfl
theorem c_impl_WriteDisk (d : DiskT) (s : List UInt8) (hl : d.Loose = []) (hd : d.Kept.length <= 49000) (hs : s.length <= 700) : PC Tryz.prog false 51 [.agg d.cells, .str s] (.tup [.agg (⟨d.Kept, frB s⟩ : DiskT).cells, .bool true]) [] := by
  have hf := frB_700 hs
  have hk : d.w = d.Kept.length + d.Loose.length := rfl
  rw [hl] at hk
  simp only [List.length_nil] at hk
  have o1 : okDsk d = true := by unfold okDsk; rw [hl]; exact decide_eq_true (by simp only [List.length_nil]; omega)
  have o2 : okDsk ⟨d.Kept, frB s⟩ = true := by unfold okDsk; exact decide_eq_true (by show (d.Kept.length : Int) + (frB s).length <= _; omega)
  have hk2 : (⟨d.Kept, frB s⟩ : DiskT).w = d.Kept.length + (frB s).length := rfl
  obtain ⟨dk, dl⟩ := d
  simp only at hl hd hk o1 o2 hk2
  subst hl
  have hif := c_impl_ifDisk ⟨dk, frB s⟩ (by omega) o2
  refine pc_at Tryz.func51 rfl (by kernel_rfl) 26 [.cell 4 67, .tmp 5] rfl rfl ?_
  repeat' (conv => whnf); first
 | refine nameB_yes (b := okDsk ⟨dk, []⟩) o1 ?_
 | refine nameB_true ?_
 | refine nameB_false ?_
 | (refine nameB_dec (fun h => ?_) (fun h => ?_) <;> try simp only [lensB] at h)
 | refine splitB_true ?_
 | refine splitB_false ?_
 | refine draw_text (by kernel_rfl) (by kernel_rfl) (by kernel_rfl) ?_
 | refine Call0 (c_impl_GoodDisk ⟨dk, []⟩ (by omega)) rfl rfl ?_
 | refine CallD0 (c_impl_frameBytes s (by omega)) rfl rfl rfl ?_
 | refine CallD0 hif (congrArg (fun z => [AV.agg [.str dk, .str z]]) (List.nil_append _)) rfl rfl ?_
 | refine sdA ⟨nbT rfl, rfl⟩ ?_
 | refine sdA (by first | exact nbT rfl | exact rfl | omega | fail) ?_
 | refine sdA (by first | (and_intros <;> first | rfl | omega | exact nbT rfl) | fail) ?_
 | refine sdA (by first | (and_intros <;> first | exact nbT rfl | rfl | omega | (simp only [lensB, lensC]; omega) | exact bytes_ok (nbT rfl) (by omega) (by simp only [lensB, lensC]; omega) | exact bytes_okN (nbT rfl) (by simp only [lensB, lensC]; omega)) | fail) ?_
 | fail
  all_goals
    conv => whnf
    first
    | (exfalso; omega)
    | exact OutA_plain rfl rfl rfl
theorem c_impl_FallDisk_no (d : DiskT) (k : Int) (torn : Bool) (hw : d.w <= 1048576) (ho : okFall d k = false) : PC Tryz.prog false 53 [.agg d.cells, .int .i64 k, .bool torn] (.tup [.agg (⟨[], []⟩ : DiskT).cells, .bool false]) [] := by
  have hl : d.Loose.length <= 1048576 := by have : d.w = d.Kept.length + d.Loose.length := rfl; omega
  refine pc_at Tryz.func53 rfl (by kernel_rfl) 47 [.cell 6 67, .tmp 7] rfl rfl ?_
  repeat' (conv => whnf); first
 | (refine nameB_cases (b := okDsk d) (fun h => ?_) (fun h => ?_))
 | (refine nameB_cases (b := inB 0 k (d.Loose.length : Int)) (fun h => ?_) (fun h => ?_))
 | (exfalso; (have q : okFall d k = true := by unfold okFall; rw [(by assumption : okDsk d = true), (by assumption : inB 0 k (d.Loose.length : Int) = true)]; rfl); rw [ho] at q; cases q)
 | refine nameB_true ?_
 | refine nameB_false ?_
 | refine splitB_true ?_
 | refine splitB_false ?_
 | refine Call0 (c_impl_GoodDisk d hw) rfl rfl ?_
 | refine Call0 (c_impl_within ..) rfl rfl ?_
 | refine sdA ⟨nbT rfl, rfl⟩ ?_
 | refine sdA (by first | exact nbT rfl | exact rfl | omega | fail) ?_
 | refine sdA (by first | (and_intros <;> first | rfl | omega | exact nbT rfl) | fail) ?_
 | fail
  all_goals
    conv => whnf
    exact OutA_plain rfl rfl rfl
theorem c_impl_actHouse_2 (h : HouseT) (a : GroupActT) (d : DiskT) (y : ReplicaT) (hok : h.ok) (hb : GB h.Group) (aok : a.ok) (haw : a.w <= 1048576) (ho : okAct h.Group a = true) (hk : a.Kind = 2) (hdl : h.Disks.length <= 1048576)
    (hd : h.Disks[a.Rep.toNat]? = some d) (hy : (actG h.Group a).Reps[a.Rep.toNat]? = some y) (h0 : 0 <= a.Rep) (h1 : a.Rep.toNat < h.Disks.length) (hm : mendB d = true) (hall : (frames d.Kept 0).1.all okE = true) :
    PC Tryz.prog false 27 [.agg h.cells, .agg a.cells] (.tup [.agg [.own 0, .int .i64 (actI h a).Group.Term, .int .i64 (actI h a).Group.Lead, .own 1], .bool (okActI h a)]) [⟨.deep ReplicaT.shp, 60, 3, (actI h a).Group.Reps.map ReplicaT.cells⟩, ⟨.deep DiskT.shp, 67, 2, (actI h a).Disks.map DiskT.cells⟩] := by
  have hn := (List.getElem?_eq_some_iff.1 hy).1
  obtain ⟨m1, m2, m3⟩ := mendB_of hm
  have hw2 := okDsk_w m1
  have hkl : d.w = d.Kept.length + d.Loose.length := rfl
  have hod := c_impl_onDisk_yes d (by omega) (by rw [m3]; exact hall)
  rw [m3] at hod
  have he := frames_end (b := d.Kept)
  obtain ⟨k1, k2, k3⟩ := onK_ok (d := d) (by omega)
  refine pc_at Tryz.func27 rfl (by kernel_rfl) 102 [.cell 4 30, .tmp 5] rfl rfl ?_
  repeat' (conv => whnf); first
 | refine nameB_yes (b := okAct h.Group a) ho ?_
 | refine nameB_dyes hk ?_
 | refine nameB_dno (by omega) ?_
 | refine StoreD_keep 9 1 rfl rfl rfl rfl rfl rfl ?_
 | refine ix_re (f := DiskT.cells) h0 hd ?_
 | refine ix_ownat (f := DiskT.cells) (xs := h.Disks) hd ?_
 | refine ix_ownat (f := ReplicaT.cells) (xs := (actG h.Group a).Reps) hy ?_
 | (refine nameB_cases (b := okLog (onK d) (actG h.Group a).Term) (fun hg => ?_) (fun hg => ?_))
 | refine nameB_true ?_
 | refine nameB_false ?_
 | refine splitB_true ?_
 | refine splitB_false ?_
 | refine draw_text (by kernel_rfl) (by kernel_rfl) (by kernel_rfl) ?_
 | refine CallF (c_impl_doGroup h.Group a hok.1 hb aok haw) rfl rfl rfl (nbT rfl) ?_
 | refine CallF (hod) rfl rfl rfl (nbT rfl) ?_
 | refine Call0 (c_impl_isLogE (onK d) (actG h.Group a).Term k1 k2) rfl rfl ?_
 | refine CallDF (c_Clone_Disk h.Disks hdl) rfl rfl ⟨rfl, rfl⟩ ?_
 | refine sdA ⟨nbT rfl, rfl⟩ ?_
 | refine sdA (by first | exact nbT rfl | exact rfl | omega | fail) ?_
 | refine sdA (by first | (and_intros <;> first | rfl | omega | exact nbT rfl) | fail) ?_
 | refine sdA (by first | (and_intros <;> first | exact nbT rfl | rfl | omega | (simp only [lensB, lensC]; omega) | exact bytes_ok (nbT rfl) (by omega) (by simp only [lensB, lensC]; omega) | exact bytes_okN (nbT rfl) (by simp only [lensB, lensC]; omega)) | fail) ?_
 | refine LoadK_of rfl rfl ?_
 | fail
  all_goals
    conv => whnf
    first
    | (obtain ⟨e1, e2⟩ := actI_2 (h := h) (a := a) ho hk (by rw [dskOf_of hd]; assumption)
       rw [e1, e2, backH_of hd]
       refine OutA_prom [(16432, DiskT.shp)] ⟨⟨_, _, _, rfl, prom_set (prom_map (fun _ => rfl)) rfl⟩, trivial⟩ ?_
       conv => whnf
       exact OutA_deep rfl rfl rfl ⟨⟨congrArg (fun e => some (AObj.mk _ _ _ e)) (setRep_cells (f := fun _ => ⟨true, onK d, 0⟩) hy rfl), rfl⟩, ⟨⟨congrArg (fun e => some (AObj.mk _ _ _ e)) (set_dsk rfl), rfl⟩, trivial⟩⟩ rfl)
    | (obtain ⟨e1, e2⟩ := actI_2n (h := h) (a := a) hk (by rw [dskOf_of hd]; assumption)
       rw [e1, e2]
       refine OutA_nilB 32 1 60 3 0 rfl rfl rfl (by decide) ?_
       refine OutA_nilB 32 2 67 2 3 rfl rfl rfl (by decide) ?_
       refine OutA_prom [(1, ReplicaT.shp), (2, DiskT.shp)] ⟨⟨_, _, _, rfl, prom_nil⟩, ⟨_, _, _, rfl, prom_nil⟩, trivial⟩ ?_
       conv => whnf
       exact OutA_deep rfl rfl rfl ⟨⟨rfl, rfl⟩, ⟨⟨rfl, rfl⟩, trivial⟩⟩ rfl)
theorem c_impl_actHouse (h : HouseT) (a : GroupActT) (hok : h.ok) (hb : HB h) (aok : a.ok) (haw : a.w <= 1048576) (hh : okHouse h = true) :
    PC Tryz.prog false 27 [.agg h.cells, .agg a.cells] (.tup [.agg [.own 0, .int .i64 (actI h a).Group.Term, .int .i64 (actI h a).Group.Lead, .own 1], .bool (okActI h a)]) [⟨.deep ReplicaT.shp, 60, 3, (actI h a).Group.Reps.map ReplicaT.cells⟩, ⟨.deep DiskT.shp, 67, 2, (actI h a).Disks.map DiskT.cells⟩] := by
  have o := okH_of hh
  cases ho : okAct h.Group a with
  | false =>
    obtain ⟨e1, e2⟩ := actI_no (h := h) ho
    rw [e1, e2]
    exact c_impl_actHouse_no h a hok hb.gb aok haw ho
  | true =>
    by_cases h4 : a.Kind = 4
    · obtain ⟨y, q1, q2, q3, q4, q5⟩ := act_put hb.gb o haw h4 ho
      obtain ⟨e1, e2⟩ := actI_4 (h := h) ho h4
      rw [e1, e2]
      exact c_impl_actHouse_4 h a y hok hb.gb aok haw ho h4 hb.dl q1 q2 q3 q4 q5
    by_cases h5 : a.Kind = 5
    · obtain ⟨y, q1, q2, q3, q4, q5⟩ := act_copy hb.gb o h5 ho
      obtain ⟨e1, e2⟩ := actI_5 (h := h) ho h5
      rw [e1, e2]
      exact c_impl_actHouse_5 h a y hok hb.gb aok haw ho h5 hb.dl q1 q2 q3 q4 q5
    by_cases h2 : a.Kind = 2
    · obtain ⟨d, y, q1, q2, q3, q4, q5, q6, q7⟩ := act_start o h2 ho
      exact c_impl_actHouse_2 h a d y hok hb.gb aok haw ho h2 hb.dl q1 q2 q3 q4 q6 q7
    · obtain ⟨e1, e2⟩ := actI_n (h := h) ho h4 h5 h2
      rw [e1, e2]
      exact c_impl_actHouse_n h a hok hb.gb aok haw ho h4 h5 h2 hb.dl
def okA (h : HouseT) (a : GroupActT) : Bool := okHouse h && okActI h a
def actA (h : HouseT) (a : GroupActT) : HouseT := resH (okA h a) (actH h a)
theorem actA_yes {h : HouseT} {a : GroupActT} (hh : okHouse h = true) : okA h a = okActI h a /\ actA h a = actI h a := by
  have e : okA h a = okActI h a := by unfold okA; rw [hh]; rfl
  exact ⟨e, by unfold actA actI; rw [e]⟩
theorem actA_no {h : HouseT} {a : GroupActT} (hh : okHouse h = false) : okA h a = false /\ actA h a = zeroH := by
  have e : okA h a = false := by unfold okA; rw [hh]; rfl
  exact ⟨e, by unfold actA; rw [resH_no e]⟩
theorem c_spec_ActHouse (h : HouseT) (a : GroupActT) (hok : h.ok) (hb : HB h) (aok : a.ok) (haw : a.w <= 1048576) :
    PC Tryz.prog true 30 [.agg h.cells, .agg a.cells] (.tup [.agg (actA h a).cells, .bool (okA h a)]) [] := by
  cases hh : okHouse h with
  | false =>
    obtain ⟨e1, e2⟩ := actA_no (a := a) hh
    rw [e1, e2]
    exact c_spec_ActHouse_bad h a hok hb hh
  | true =>
    have o := okH_of hh
    obtain ⟨e1, e2⟩ := actA_yes (a := a) hh
    rw [e1, e2]
    cases ho : okAct h.Group a with
    | false =>
      obtain ⟨e1, e2⟩ := actI_no (h := h) ho
      rw [e1, e2]
      exact c_spec_ActHouse_no h a hok hb aok haw hh ho
    | true =>
      by_cases h4 : a.Kind = 4
      · obtain ⟨y, q1, q2, q3, q4, q5⟩ := act_put hb.gb o haw h4 ho
        obtain ⟨e1, e2⟩ := actI_4 (h := h) ho h4
        rw [e1, e2]
        exact c_spec_ActHouse_4 h a y hok hb aok haw hh ho h4 q1 q2 q3 q4 q5
      by_cases h5 : a.Kind = 5
      · obtain ⟨y, q1, q2, q3, q4, q5⟩ := act_copy hb.gb o h5 ho
        obtain ⟨e1, e2⟩ := actI_5 (h := h) ho h5
        rw [e1, e2]
        exact c_spec_ActHouse_5 h a y hok hb aok haw hh ho h5 q1 q2 q3 q4 q5
      by_cases h2 : a.Kind = 2
      · obtain ⟨d, y, q1, q2, q3, q4, q5, q6, q7⟩ := act_start o h2 ho
        obtain ⟨k1, k2, k3⟩ := o.onK_len q1
        exact c_spec_ActHouse_2 h a d y hok hb aok haw hh ho h2 q1 q2 q3 q4 q6 q7 k1 k2
      · obtain ⟨e1, e2⟩ := actI_n (h := h) ho h4 h5 h2
        rw [e1, e2]
        exact c_spec_ActHouse_n h a hok hb aok haw hh ho h4 h5 h2
def DB (d : DiskT) : Prop := d.ok /\ d.w <= 6000000000
structure HG (h : HouseT) : Prop where
  g : PG 2097152 h.Group
  n : h.Disks.length <= 5
  d : ∀ x ∈ h.Disks, DB x
def newE (g : GroupT) (r : RecT) : EntryT := ⟨g.Term, r⟩
def tearB (h : HouseT) (r : RecT) : List UInt8 := frB (entB (newE h.Group r))
def okTearI (h : HouseT) (r : RecT) (k : Int) : Bool := okPut h.Group r && inB 0 k ((tearB h r).length : Int)
def tearD (h : HouseT) (r : RecT) (k : Int) (torn : Bool) : DiskT := ⟨(dskOf h.Disks h.Group.Lead).Kept ++ tornB (tearB h r) k.toNat torn, []⟩
def tearH (h : HouseT) (r : RecT) (k : Int) (torn : Bool) : HouseT := ⟨crashR h.Group h.Group.Lead, h.Disks.set h.Group.Lead.toNat (tearD h r k torn)⟩
def tearI (h : HouseT) (r : RecT) (k : Int) (torn : Bool) : HouseT := resH (okTearI h r k) (tearH h r k torn)
structure TearOk (h : HouseT) (r : RecT) (d : DiskT) (y : ReplicaT) : Prop where
  hd : h.Disks[h.Group.Lead.toNat]? = some d
  hy : h.Group.Reps[h.Group.Lead.toNat]? = some y
  lo : 0 <= h.Group.Lead
  lt : h.Group.Lead.toNat < h.Disks.length
  up : okUp h.Group h.Group.Lead true = true
  loose : d.Loose = []
  kept : d.Kept.length <= 45000
  ent : entIn (newE h.Group r)
  e7 : (entB (newE h.Group r)).length <= 700
theorem put_group {g : GroupT} {r : RecT} (h : okPut g r = true) : okGroup g = true /\ (0 <= g.Lead /\ (lenLead g < 60 /\ okRec r = true)) := by
  unfold okPut at h
  simpa only [baT, decide_eq_true_eq] using h
theorem lead_up {g : GroupT} (hg : okGroup g = true) (h0 : 0 <= g.Lead) : okUp g g.Lead true = true := by
  have hl := (okG_of hg).lead
  unfold okLead at hl
  simp only [Bool.or_eq_true, baT, decide_eq_true_eq] at hl
  rcases hl with hl | hl
  · omega
  · exact upI hg hl.1 hl.2
theorem fits_upD {t : Int} {x : ReplicaT} {d : DiskT} (h : fitsD t x d = true) (hu : x.Up = true) : onK d = x.Log /\ (frames d.Kept 0).2 = d.Kept.length := by
  unfold fitsD at h
  rw [baT] at h
  have h2 := h.2
  change fitsL t x (onK d) _ _ = true at h2
  unfold fitsL at h2
  rw [hu] at h2
  simp only [baT, decide_eq_true_eq] at h2
  exact ⟨h2.1, by omega⟩
theorem kept_len {d : DiskT} (h : (frames d.Kept 0).2 = d.Kept.length) : d.Kept = ((frames d.Kept 0).1.map frB).flatten /\ d.Kept.length <= 708 * (onK d).length := by
  obtain ⟨h1, h2, h3⟩ := frames_back0 d.Kept
  rw [h, List.take_length] at h1
  refine ⟨h1.symm, ?_⟩
  have h4 := flat_size h3
  rw [h1] at h4
  unfold onK
  rw [List.length_map]
  exact h4
theorem entB_7 {e : EntryT} (h : okRec e.Rec = true) (h0 : 0 <= e.Term) (h1 : e.Term <= 200) : (entB e).length <= 700 := by
  have a1 := recB_tiny h
  have a2 := numB_five (n := e.Term) h0 (by omega)
  unfold entB
  rw [laT]; omega
theorem tear_ok {h : HouseT} {r : RecT} (o : OkH h) (hrw : r.w <= 1048576) (hp : okPut h.Group r = true) : ∃ d y, TearOk h r d y := by
  obtain ⟨hg, h0, hlen, hr⟩ := put_group hp
  have hlt := (okLead_lt hg (by omega)).2
  have hup := lead_up hg h0
  have hy : h.Group.Reps[h.Group.Lead.toNat]? = some h.Group.Reps[h.Group.Lead.toNat] := List.getElem?_eq_getElem hlt
  have hd : h.Disks[h.Group.Lead.toNat]? = some (h.Disks[h.Group.Lead.toNat]'(by rw [o.len]; exact hlt)) := List.getElem?_eq_getElem _
  have hf := o.pair _ _ _ hy hd
  have hyu : (h.Group.Reps[h.Group.Lead.toNat]).Up = true := by
    have q := hup
    unfold okUp at q
    simp only [baT] at q
    have q2 := q.2.2
    rw [upAt_of hy] at q2
    simpa using q2
  obtain ⟨f1, f2⟩ := fits_upD hf hyu
  have k1 := (kept_len f2).2
  have hlog := (okLog_mem (t := h.Group.Term) (l := (h.Group.Reps[h.Group.Lead.toNat]).Log) (by
    have q := (okG_of hg).rep _ (mgE hy)
    unfold okRep at q
    simp only [baT] at q
    exact q.1)).1
  have hterm := (okG_of hg).term
  refine ⟨_, _, hd, hy, h0, by rw [o.len]; exact hlt, hup, (mendB_of (fitsD_mend hf).1).2.1, ?_, ⟨hr, hterm, hrw⟩, entB_7 (e := newE h.Group r) hr hterm.1 hterm.2⟩
  rw [f1] at k1
  omega
theorem tear_fall {h : HouseT} {r : RecT} {d : DiskT} {y : ReplicaT} (t : TearOk h r d y) {k : Int} : okFall ⟨d.Kept, tearB h r⟩ k = inB 0 k ((tearB h r).length : Int) := by
  have h1 := frB_700 t.e7
  have h2 := t.kept
  have o : okDsk ⟨d.Kept, tearB h r⟩ = true := by
    unfold okDsk
    refine decide_eq_true ?_
    show (d.Kept.length : Int) + ((frB (entB (newE h.Group r))).length : Int) <= 50000
    omega
  unfold okFall
  rw [o]
  rfl
theorem tearI_no {h : HouseT} {r : RecT} {k : Int} {torn : Bool} (e : okPut h.Group r = false \/ inB 0 k ((tearB h r).length : Int) = false) : okTearI h r k = false /\ tearI h r k torn = zeroH := by
  have q : okTearI h r k = false := by unfold okTearI; rcases e with e | e <;> rw [e] <;> simp
  exact ⟨q, by unfold tearI; rw [resH_no q]⟩
theorem tearI_yes {h : HouseT} {r : RecT} {k : Int} {torn : Bool} (e1 : okPut h.Group r = true) (e2 : inB 0 k ((tearB h r).length : Int) = true) : okTearI h r k = true /\ tearI h r k torn = tearH h r k torn := by
  have q : okTearI h r k = true := by unfold okTearI; rw [e1, e2]; rfl
  exact ⟨q, by unfold tearI; rw [resH_yes q]⟩
theorem putR_at {h : HouseT} {r : RecT} {d : DiskT} {y : ReplicaT} (t : TearOk h r d y) (hp : okPut h.Group r = true) : (putR h.Group r).Reps[h.Group.Lead.toNat]? = some (putE h.Group r y) := by
  rw [putR_yes hp]
  exact setRep_at t.hy
theorem ix_lastE {L : List EntryT} {e : EntryT} {n : Int} {Q : List AV -> Prop} (hn : n = (L.length : Int)) (hQ : Q e.cells) : 0 <= n /\ ∃ z, ((L ++ [e]).map EntryT.cells)[n.toNat]? = some z /\ Q z := by
  subst hn
  exact ⟨by omega, e.cells, by simp, hQ⟩
theorem c_impl_tearHouse_no (h : HouseT) (r : RecT) (k : Int) (torn : Bool) (hok : h.ok) (hb : HB h) (rok : r.ok) (hrw : r.w <= 1048576) (hp : okPut h.Group r = false) :
    PC Tryz.prog false 26 [.agg h.cells, .agg r.cells, .int .i64 k, .bool torn] (.tup [.agg [.own 0, .int .i64 0, .int .i64 0, .own 1], .bool false]) [⟨.deep ReplicaT.shp, 60, 3, []⟩, ⟨.deep DiskT.shp, 67, 2, []⟩] := by
  refine pc_at Tryz.func26 rfl (by kernel_rfl) 85 [.cell 8 30, .tmp 9] rfl rfl ?_
  repeat' (conv => whnf); first
 | refine nameB_no (b := okPut h.Group r) hp ?_
 | refine nameB_true ?_
 | refine splitB_true ?_
 | refine CallT (c_impl_PutEntryT h.Group r hok.1 hb.gb rok (rec_len hrw).1 (rec_len hrw).2) rfl rfl rfl rfl (nbT rfl) ?_
 | refine sdA ⟨nbT rfl, rfl⟩ ?_
 | refine sdA (by first | exact nbT rfl | exact rfl | omega | fail) ?_
 | refine sdA (by first | (and_intros <;> first | rfl | omega | exact nbT rfl) | fail) ?_
 | fail
  all_goals
    conv => whnf
    refine OutA_nilB 32 1 60 3 0 rfl rfl rfl (by decide) ?_
    refine OutA_nilB 32 2 67 2 3 rfl rfl rfl (by decide) ?_
    refine OutA_prom [(1, ReplicaT.shp), (2, DiskT.shp)] ⟨⟨_, _, _, rfl, prom_nil⟩, ⟨_, _, _, rfl, prom_nil⟩, trivial⟩ ?_
    conv => whnf
    exact OutA_deep rfl rfl rfl ⟨⟨rfl, rfl⟩, ⟨⟨rfl, rfl⟩, trivial⟩⟩ rfl
theorem c_impl_tearHouse_yes (h : HouseT) (r : RecT) (k : Int) (torn : Bool) (d : DiskT) (y : ReplicaT) (hok : h.ok) (hb : HB h) (rok : r.ok) (hrw : r.w <= 1048576) (hp : okPut h.Group r = true) (t : TearOk h r d y) :
    PC Tryz.prog false 26 [.agg h.cells, .agg r.cells, .int .i64 k, .bool torn] (.tup [.agg [.own 0, .int .i64 (tearI h r k torn).Group.Term, .int .i64 (tearI h r k torn).Group.Lead, .own 1], .bool (okTearI h r k)]) [⟨.deep ReplicaT.shp, 60, 3, (tearI h r k torn).Group.Reps.map ReplicaT.cells⟩, ⟨.deep DiskT.shp, 67, 2, (tearI h r k torn).Disks.map DiskT.cells⟩] := by
  have hpa := putR_at t hp
  have hf := tear_fall t (k := k)
  have hf7 := frB_700 t.e7
  have hdl := hb.dl
  have hyl : y.Log.length <= 1048575 := hb.log y (mgE t.hy)
  have hwd : (⟨d.Kept, tearB h r⟩ : DiskT).w <= 1048576 := by have := t.kept; show d.Kept.length + (frB (entB (newE h.Group r))).length <= _; omega
  have hw1 : IntKind.i64.wrap ((((y.Log ++ [newE h.Group r]).map EntryT.cells).length : Int) - 1) = (y.Log.length : Int) := by
    rw [List.length_map, laT, List.length_singleton, i64w (by omega) (by omega)]; omega
  refine pc_at Tryz.func26 rfl (by kernel_rfl) 85 [.cell 8 30, .tmp 9] rfl rfl ?_
  repeat' (conv => whnf); first
 | refine nameB_yes (b := okPut h.Group r) hp ?_
 | refine nameB_yes (b := okUp h.Group h.Group.Lead true) t.up ?_
 | refine ix_re (f := ReplicaT.cells) t.lo hpa ?_
 | refine ix_re (f := DiskT.cells) t.lo t.hd ?_
 | refine ix_lastE (L := y.Log) (e := newE h.Group r) hw1 ?_
 | (refine ix_own (f := DiskT.cells) (xs := h.Disks) t.lt (fun z hz => ?_))
 | exact side_of (by rw [List.length_map]; exact ⟨t.lo, by have := t.lt; have := t.lo; omega⟩)
 | refine nameB_true ?_
 | refine nameB_false ?_
 | refine splitB_true ?_
 | refine splitB_false ?_
 | refine draw_text (by kernel_rfl) (by kernel_rfl) (by kernel_rfl) ?_
 | refine CallT (c_impl_PutEntryT h.Group r hok.1 hb.gb rok (rec_len hrw).1 (rec_len hrw).2) rfl rfl rfl rfl (nbT rfl) ?_
 | (rcases hk : inB 0 k ((tearB h r).length : Int) with _ | _ <;> first | refine Call0 (c_impl_FallDisk_no ⟨d.Kept, tearB h r⟩ k torn hwd (hf.trans hk)) rfl rfl ?_ | refine Call0 (c_impl_FallDisk_ok ⟨d.Kept, tearB h r⟩ k torn (hf.trans hk)) rfl rfl ?_)
 | refine CallF (c_Clone_Disk h.Disks hdl) rfl rfl rfl (nbT rfl) ?_
 | refine CallF (c_impl_CrashRep h.Group h.Group.Lead hok.1 hb.gb) rfl rfl rfl (nbT rfl) ?_
 | refine CallD0 (c_impl_entryBytes0 (newE h.Group r) t.ent) rfl rfl rfl ?_
 | refine CallD0 (c_impl_WriteDisk d (entB (newE h.Group r)) t.loose (by have := t.kept; omega) t.e7) rfl rfl rfl ?_
 | refine sdA ⟨nbT rfl, rfl⟩ ?_
 | refine sdA (by first | exact nbT rfl | exact rfl | omega | fail) ?_
 | refine sdA (by first | (and_intros <;> first | rfl | omega | exact nbT rfl) | fail) ?_
 | refine side_and ?_ ?_
 | refine LoadK_of rfl rfl ?_
 | fail
  all_goals
    conv => whnf
    first
    | (obtain ⟨e1, e2⟩ := tearI_no (torn := torn) (.inr (a := okPut h.Group r = false) hk)
       rw [e1, e2]
       refine OutA_nilB 32 1 60 3 0 rfl rfl rfl (by decide) ?_
       refine OutA_nilB 32 2 67 2 3 rfl rfl rfl (by decide) ?_
       refine OutA_prom [(1, ReplicaT.shp), (2, DiskT.shp)] ⟨⟨_, _, _, rfl, prom_nil⟩, ⟨_, _, _, rfl, prom_nil⟩, trivial⟩ ?_
       conv => whnf
       exact OutA_deep rfl rfl rfl ⟨⟨rfl, rfl⟩, ⟨⟨rfl, rfl⟩, trivial⟩⟩ rfl)
    | (obtain ⟨e1, e2⟩ := tearI_yes (torn := torn) hp hk
       rw [e1, e2]
       refine OutA_prom [(40992, DiskT.shp)] ⟨⟨_, _, _, rfl, prom_set (sh := DiskT.shp) (c := (⟨d.Kept ++ tornB (tearB h r) k.toNat torn, []⟩ : DiskT).cells) (prom_map (fun _ => rfl)) rfl⟩, trivial⟩ ?_
       conv => whnf
       exact OutA_deep rfl rfl rfl ⟨⟨rfl, rfl⟩, ⟨⟨congrArg (fun e => some (AObj.mk _ _ _ e)) (set_dsk (d := tearD h r k torn) (by unfold tearD; rw [dskOf_of t.hd]; rfl)), rfl⟩, trivial⟩⟩ rfl)
theorem c_impl_tearHouse (h : HouseT) (r : RecT) (k : Int) (torn : Bool) (hok : h.ok) (hb : HB h) (rok : r.ok) (hrw : r.w <= 1048576) (hh : okHouse h = true) :
    PC Tryz.prog false 26 [.agg h.cells, .agg r.cells, .int .i64 k, .bool torn] (.tup [.agg [.own 0, .int .i64 (tearI h r k torn).Group.Term, .int .i64 (tearI h r k torn).Group.Lead, .own 1], .bool (okTearI h r k)]) [⟨.deep ReplicaT.shp, 60, 3, (tearI h r k torn).Group.Reps.map ReplicaT.cells⟩, ⟨.deep DiskT.shp, 67, 2, (tearI h r k torn).Disks.map DiskT.cells⟩] := by
  cases hp : okPut h.Group r with
  | false =>
    obtain ⟨e1, e2⟩ := tearI_no (k := k) (torn := torn) (.inl hp)
    rw [e1, e2]
    exact c_impl_tearHouse_no h r k torn hok hb rok hrw hp
  | true =>
    obtain ⟨d, y, t⟩ := tear_ok (okH_of hh) hrw hp
    exact c_impl_tearHouse_yes h r k torn d y hok hb rok hrw hp t
def okTear (h : HouseT) (r : RecT) (k : Int) : Bool := okHouse h && okTearI h r k
def tearA (h : HouseT) (r : RecT) (k : Int) (torn : Bool) : HouseT := resH (okTear h r k) (tearH h r k torn)
theorem tearA_yes {h : HouseT} {r : RecT} {k : Int} {torn : Bool} (hh : okHouse h = true) : okTear h r k = okTearI h r k /\ tearA h r k torn = tearI h r k torn := by
  have e : okTear h r k = okTearI h r k := by unfold okTear; rw [hh]; rfl
  exact ⟨e, by unfold tearA tearI; rw [e]⟩
theorem tearA_no {h : HouseT} {r : RecT} {k : Int} {torn : Bool} (hh : okHouse h = false) : okTear h r k = false /\ tearA h r k torn = zeroH := by
  have e : okTear h r k = false := by unfold okTear; rw [hh]; rfl
  exact ⟨e, by unfold tearA; rw [resH_no e]⟩
theorem c_spec_TearHouse_no (h : HouseT) (r : RecT) (k : Int) (torn : Bool) (hok : h.ok) (hb : HB h) (rok : r.ok) (hrw : r.w <= 1048576) (hh : okHouse h = true) (hp : okPut h.Group r = false) :
    PC Tryz.prog true 31 [.agg h.cells, .agg r.cells, .int .i64 k, .bool torn] (.tup [.agg [.sl [], .int .i64 0, .int .i64 0, .sl []], .bool false]) [] := by
  refine pc_at Tryz.func31 rfl (by kernel_rfl) 79 [.cell 8 30, .tmp 9] rfl rfl ?_
  repeat' (conv => whnf); first
 | refine nameB_yes (b := okHouse h) hh ?_
 | refine nameB_no (b := okPut h.Group r) hp ?_
 | refine nameB_true ?_
 | refine nameB_false ?_
 | refine splitB_true ?_
 | refine splitB_false ?_
 | refine CallT (c_spec_l11Good h hok hb) rfl rfl rfl rfl (nbT rfl) ?_
 | refine CallF (c_spec_PutEntryD h.Group r hok.1 hb.gb rok (rec_len hrw).1 (rec_len hrw).2) rfl rfl rfl (nbT rfl) ?_
 | refine sdA ⟨nbT rfl, rfl⟩ ?_
 | refine sdA (by first | exact nbT rfl | exact rfl | omega | fail) ?_
 | refine sdA (by first | (and_intros <;> first | rfl | omega | exact nbT rfl) | fail) ?_
 | fail
  all_goals
    conv => whnf
    refine OutA_nilB 32 1 60 3 0 rfl rfl rfl (by decide) ?_
    refine OutA_nilB 32 2 67 2 3 rfl rfl rfl (by decide) ?_
    refine OutA_frz [1, 2] ?_
    conv => whnf
    exact OutA_plain rfl rfl rfl
theorem c_spec_TearHouse_bad (h : HouseT) (r : RecT) (k : Int) (torn : Bool) (hok : h.ok) (hb : HB h) (hh : okHouse h = false) :
    PC Tryz.prog true 31 [.agg h.cells, .agg r.cells, .int .i64 k, .bool torn] (.tup [.agg [.sl [], .int .i64 0, .int .i64 0, .sl []], .bool false]) [] := by
  refine pc_at Tryz.func31 rfl (by kernel_rfl) 79 [.cell 8 30, .tmp 9] rfl rfl ?_
  repeat' (conv => whnf); first
 | refine nameB_no (b := okHouse h) hh ?_
 | refine nameB_true ?_
 | refine splitB_true ?_
 | refine CallT (c_spec_l11Good h hok hb) rfl rfl rfl rfl (nbT rfl) ?_
 | refine sdA ⟨nbT rfl, rfl⟩ ?_
 | refine sdA (by first | exact nbT rfl | exact rfl | omega | fail) ?_
 | refine sdA (by first | (and_intros <;> first | rfl | omega | exact nbT rfl) | fail) ?_
 | fail
  all_goals
    conv => whnf
    refine OutA_nilB 32 1 60 3 0 rfl rfl rfl (by decide) ?_
    refine OutA_nilB 32 2 67 2 3 rfl rfl rfl (by decide) ?_
    refine OutA_frz [1, 2] ?_
    conv => whnf
    exact OutA_plain rfl rfl rfl
theorem c_spec_TearHouse_yes (h : HouseT) (r : RecT) (k : Int) (torn : Bool) (d : DiskT) (y : ReplicaT) (hok : h.ok) (hb : HB h) (rok : r.ok) (hrw : r.w <= 1048576) (hh : okHouse h = true) (hp : okPut h.Group r = true) (t : TearOk h r d y) :
    PC Tryz.prog true 31 [.agg h.cells, .agg r.cells, .int .i64 k, .bool torn] (.tup [.agg (tearI h r k torn).cells, .bool (okTearI h r k)]) [] := by
  have hf := tear_fall t (k := k)
  have hdl := hb.dl
  refine pc_at Tryz.func31 rfl (by kernel_rfl) 79 [.cell 8 30, .tmp 9] rfl rfl ?_
  repeat' (conv => whnf); first
 | refine nameB_yes (b := okHouse h) hh ?_
 | refine nameB_yes (b := okPut h.Group r) hp ?_
 | refine nameB_yes (b := okUp h.Group h.Group.Lead true) t.up ?_
 | (refine nameB_cases (b := inB 0 k ((tearB h r).length : Int)) (fun hk => ?_) (fun hk => ?_))
 | refine ix_re (f := DiskT.cells) t.lo t.hd ?_
 | (refine ix_own (f := DiskT.cells) (xs := h.Disks) t.lt (fun z hz => ?_))
 | exact side_of (by rw [List.length_map]; exact ⟨t.lo, by have := t.lt; have := t.lo; omega⟩)
 | refine nameB_true ?_
 | refine nameB_false ?_
 | refine splitB_true ?_
 | refine splitB_false ?_
 | refine draw_text (by kernel_rfl) (by kernel_rfl) (by kernel_rfl) ?_
 | refine CallT (c_spec_l11Good h hok hb) rfl rfl rfl rfl (nbT rfl) ?_
 | refine CallF (c_spec_PutEntryD h.Group r hok.1 hb.gb rok (rec_len hrw).1 (rec_len hrw).2) rfl rfl rfl (nbT rfl) ?_
 | refine Call0 (c_spec_l11Bytes0 (newE h.Group r) t.ent) rfl rfl ?_
 | refine Call0 (c_spec_l6FrameW (entB (newE h.Group r)) (by have := t.e7; omega)) rfl rfl ?_
 | refine Call0 (c_spec_l1In ..) rfl rfl ?_
 | refine CallT (c_spec_CrashRep h.Group h.Group.Lead hok.1 hb.gb) rfl rfl rfl rfl (nbT rfl) ?_
 | refine CallD0 (c_spec_FallDisk_ok ⟨d.Kept, tearB h r⟩ k torn (hf.trans hk)) rfl rfl rfl ?_
 | refine sdA ⟨nbT rfl, rfl⟩ ?_
 | refine sdA (by first | exact nbT rfl | exact rfl | omega | fail) ?_
 | refine sdA (by first | (and_intros <;> first | rfl | omega | exact nbT rfl) | fail) ?_
 | refine sdA (by first | (and_intros <;> first | exact nbT rfl | rfl | omega | (simp only [lensB, lensC]; omega) | exact bytes_ok (nbT rfl) (by omega) (by simp only [lensB, lensC]; omega) | exact bytes_okN (nbT rfl) (by simp only [lensB, lensC]; omega)) | fail) ?_
 | refine side_and (side_of (map_len (fun _ => rfl))) ?_
 | refine side_and (side_of (map_one (fun _ => rfl) _)) ?_
 | refine side_and ?_ ?_
 | refine LoadK_of rfl rfl ?_
 | fail
  all_goals
    conv => whnf
    first
    | (obtain ⟨e1, e2⟩ := tearI_no (torn := torn) (.inr (a := okPut h.Group r = false) ‹_›)
       rw [e1, e2]
       refine OutA_nilB 32 1 60 3 0 rfl rfl rfl (by decide) ?_
       refine OutA_nilB 32 2 67 2 3 rfl rfl rfl (by decide) ?_
       refine OutA_frz [1, 2] ?_
       conv => whnf
       exact OutA_plain rfl rfl rfl)
    | (obtain ⟨e1, e2⟩ := tearI_yes (torn := torn) hp ‹_›
       rw [e1, e2]
       refine OutA_frz [45120] ?_
       conv => whnf
       exact OutA_plain rfl rfl (congrArg (fun e => AV.tup [.agg [.sl ((crashR h.Group h.Group.Lead).Reps.map ReplicaT.cells), .int .i64 (crashR h.Group h.Group.Lead).Term, .int .i64 (crashR h.Group h.Group.Lead).Lead, .sl e], .bool true]) (set_dsk (d := tearD h r k torn) (by unfold tearD; rw [dskOf_of t.hd]; rfl))))
theorem c_spec_TearHouse (h : HouseT) (r : RecT) (k : Int) (torn : Bool) (hok : h.ok) (hb : HB h) (rok : r.ok) (hrw : r.w <= 1048576) :
    PC Tryz.prog true 31 [.agg h.cells, .agg r.cells, .int .i64 k, .bool torn] (.tup [.agg (tearA h r k torn).cells, .bool (okTear h r k)]) [] := by
  cases hh : okHouse h with
  | false =>
    obtain ⟨e1, e2⟩ := tearA_no (r := r) (k := k) (torn := torn) hh
    rw [e1, e2]
    exact c_spec_TearHouse_bad h r k torn hok hb hh
  | true =>
    obtain ⟨e1, e2⟩ := tearA_yes (r := r) (k := k) (torn := torn) hh
    rw [e1, e2]
    cases hp : okPut h.Group r with
    | false =>
      obtain ⟨e1, e2⟩ := tearI_no (k := k) (torn := torn) (.inl hp)
      rw [e1, e2]
      exact c_spec_TearHouse_no h r k torn hok hb rok hrw hh hp
    | true =>
      obtain ⟨d, y, t⟩ := tear_ok (okH_of hh) hrw hp
      exact c_spec_TearHouse_yes h r k torn d y hok hb rok hrw hh hp t
namespace Go.Safe
open Classical
theorem both_half {α : Type} {p q : α -> Bool} : ∀ (l : List α), l.length < l.countP p + l.countP q -> ∃ x ∈ l, p x = true /\ q x = true
  | [], h => by simp at h
  | x :: l, h => by
    by_cases hp : p x = true
    · by_cases hq : q x = true
      · exact ⟨x, by simp, hp, hq⟩
      · rw [List.countP_cons_of_pos hp, List.countP_cons_of_neg hq, List.length_cons] at h
        obtain ⟨y, hy, h2⟩ := both_half (p := p) (q := q) l (by omega)
        exact ⟨y, by simp [hy], h2⟩
    · have h1 : (x :: l).countP q <= l.countP q + 1 := by
        by_cases hq : q x = true
        · rw [List.countP_cons_of_pos hq]; exact Nat.le_refl _
        · rw [List.countP_cons_of_neg hq]; omega
      rw [List.countP_cons_of_neg hp, List.length_cons] at h
      obtain ⟨y, hy, h2⟩ := both_half (p := p) (q := q) l (by omega)
      exact ⟨y, by simp [hy], h2⟩
section
variable {E : Type} (tm : E -> Int)
def lst (l : List E) : Int := match l.getLast? with | some e => tm e | none => 0
def beats (a b : List E) : Prop := lst tm a > lst tm b \/ (lst tm a = lst tm b /\ a.length > b.length)
def Maj (n : Nat) (D : Nat -> List E) (C : List E) : Prop := n < 2 * (List.range n).countP (fun i => decide (C <+: D i))
structure Com (n : Nat) (D : Nat -> List E) (S : Nat -> Nat) (lead : Option Nat) (C : List E) : Prop where
  maj : Maj n D C
  later : ∀ i, i < n -> ∀ c, C.getLast? = some c -> ∀ d, (D i).getLast? = some d -> tm c < tm d -> C <+: D i
  led : ∀ l, lead = some l -> C <+: D l
  sure : ∀ i, i < n -> (D i).take (S i) <+: C /\ S i <= (D i).length
structure Inv (n : Nat) (D : Nat -> List E) (S : Nat -> Nat) (T : Int) (lead : Option Nat) : Prop where
  terms : ∀ i, i < n -> ∀ e ∈ D i, 0 <= tm e /\ tm e <= T
  mono : ∀ i, i < n -> ∀ (p q : Nat) (e f : E), (D i)[p]? = some e -> (D i)[q]? = some f -> p <= q -> tm e <= tm f
  mtch : ∀ i, i < n -> ∀ k, k < n -> ∀ (p q : Nat) (e f : E), (D i)[p]? = some e -> (D k)[q]? = some f -> tm e = tm f -> q <= p -> (D i).take (q + 1) = (D k).take (q + 1)
  own : ∀ l, lead = some l -> l < n /\ ∀ i, i < n -> ∀ (p : Nat) (e : E), (D i)[p]? = some e -> tm e = T -> (D i).take (p + 1) <+: D l
  com : ∃ C, Com tm n D S lead C
variable {tm} {n : Nat} {D : Nat -> List E} {S : Nat -> Nat} {T : Int} {lead : Option Nat}
theorem last_at {l : List E} {e : E} (h : l.getLast? = some e) : l[l.length - 1]? = some e := by rw [List.getLast?_eq_getElem?] at h; exact h
theorem lst_some {l : List E} {e : E} (h : l.getLast? = some e) : lst tm l = tm e := by unfold lst; rw [h]
theorem pre_take {a b : List E} (h : a <+: b) : b.take a.length = a := (List.prefix_iff_eq_take.1 h).symm
theorem take_pre {a b : List E} {k : Nat} (h : a <+: b) (hk : k <= a.length) : a.take k = b.take k := by
  obtain ⟨t, rfl⟩ := h
  rw [List.take_append_of_le_length hk]
theorem pre_len {a b : List E} {k : Nat} (h : a.take k <+: b) (hk : k <= a.length) : k <= b.length := by
  have := h.length_le
  rw [List.length_take] at this
  omega
theorem maj_mono {D' : Nat -> List E} {C C' : List E} (h : Maj n D C) (hm : ∀ i, i < n -> C <+: D i -> C' <+: D' i) : Maj n D' C' := by
  unfold Maj at h ⊢
  refine Nat.lt_of_lt_of_le h (Nat.mul_le_mul_left 2 (List.countP_mono_left fun i hi hp => ?_))
  exact decide_eq_true (hm i (List.mem_range.1 hi) (of_decide_eq_true hp))
theorem maj_of {q : Nat -> Bool} {C : List E} (h : n < 2 * (List.range n).countP q) (hq : ∀ i, i < n -> q i = true -> C <+: D i) : Maj n D C := by
  unfold Maj
  refine Nat.lt_of_lt_of_le h (Nat.mul_le_mul_left 2 (List.countP_mono_left fun i hi hp => ?_))
  exact decide_eq_true (hq i (List.mem_range.1 hi) hp)
theorem maj_nil (hn : 0 < n) : Maj n D [] := by
  unfold Maj
  rw [List.countP_eq_length.2 (fun i _ => decide_eq_true (List.nil_prefix)), List.length_range]
  omega
theorem Inv.start (hn : 0 < n) (hD : ∀ i, i < n -> D i = []) (hS : ∀ i, i < n -> S i = 0) (hl : lead = none) : Inv tm n D S T lead where
  terms i hi e he := by rw [hD i hi] at he; cases he
  mono i hi p q e f h := by rw [hD i hi] at h; simp at h
  mtch i hi k hk p q e f h := by rw [hD i hi] at h; simp at h
  own l h := by rw [hl] at h; cases h
  com := ⟨[], maj_nil hn, fun i hi c hc => (by cases hc), fun l h => List.nil_prefix, fun i hi => by rw [hD i hi, hS i hi]; exact ⟨List.nil_prefix, Nat.le_refl _⟩⟩
theorem Inv.congr {D' : Nat -> List E} {S' : Nat -> Nat} (h : Inv tm n D S T lead) (hD : ∀ i, i < n -> D' i = D i) (hS : ∀ i, i < n -> S' i = S i) : Inv tm n D' S' T lead where
  terms i hi := by rw [hD i hi]; exact h.terms i hi
  mono i hi := by rw [hD i hi]; exact h.mono i hi
  mtch i hi k hk := by rw [hD i hi, hD k hk]; exact h.mtch i hi k hk
  own l hl := ⟨(h.own l hl).1, fun i hi => by rw [hD i hi, hD l (h.own l hl).1]; exact (h.own l hl).2 i hi⟩
  com := by
    obtain ⟨C, c⟩ := h.com
    exact ⟨C, maj_mono c.maj (fun i hi hp => by rw [hD i hi]; exact hp), fun i hi => by rw [hD i hi]; exact c.later i hi, fun l hl => by rw [hD l (h.own l hl).1]; exact c.led l hl, fun i hi => by rw [hD i hi, hS i hi]; exact c.sure i hi⟩
theorem Inv.drop (h : Inv tm n D S T lead) : Inv tm n D S T none where
  terms := h.terms
  mono := h.mono
  mtch := h.mtch
  own l hl := by cases hl
  com := by
    obtain ⟨C, c⟩ := h.com
    exact ⟨C, c.maj, c.later, fun l hl => (by cases hl), c.sure⟩
theorem Inv.less {S' : Nat -> Nat} (h : Inv tm n D S T lead) (hs : ∀ i, i < n -> S' i <= S i) : Inv tm n D S' T lead where
  terms := h.terms
  mono := h.mono
  mtch := h.mtch
  own := h.own
  com := by
    obtain ⟨C, c⟩ := h.com
    exact ⟨C, c.maj, c.later, c.led, fun i hi => ⟨(List.take_prefix_take_left (hs i hi)).trans (c.sure i hi).1, Nat.le_trans (hs i hi) (c.sure i hi).2⟩⟩
theorem Inv.elect {r : Nat} {V : Nat -> Bool} (h : Inv tm n D S T lead) (hr : r < n) (hV : n < 2 * (List.range n).countP V) (hb : ∀ i, i < n -> V i = true -> ¬ beats tm (D i) (D r)) : Inv tm n D S (T + 1) (some r) where
  terms i hi e he := by have := h.terms i hi e he; omega
  mono := h.mono
  mtch := h.mtch
  own l hl := ⟨by cases hl; exact hr, fun i hi p e he ht => by have := (h.terms i hi e (mgE he)).2; omega⟩
  com := by
    obtain ⟨C, c⟩ := h.com
    refine ⟨C, c.maj, c.later, fun l hl => ?_, c.sure⟩
    cases hl
    cases hc : C.getLast? with
    | none => rw [List.getLast?_eq_none_iff.1 hc]; exact List.nil_prefix
    | some cl =>
      have hm := c.maj
      unfold Maj at hm
      obtain ⟨v, hv, hvV, hvC⟩ := both_half (p := V) (q := fun i => decide (C <+: D i)) (List.range n) (by rw [List.length_range]; omega)
      have hv := List.mem_range.1 hv
      replace hvC := of_decide_eq_true hvC
      have hcl : (D v)[C.length - 1]? = some cl := by
        obtain ⟨t, ht⟩ := hvC
        have h1 := last_at hc
        have h2 := (List.getElem?_eq_some_iff.1 h1).1
        rw [<- ht, List.getElem?_append_left h2]; exact h1
      have hcl2 := (List.getElem?_eq_some_iff.1 hcl).1
      cases hdv : (D v).getLast? with
      | none => rw [List.getLast?_eq_none_iff.1 hdv] at hcl2; simp at hcl2
      | some dv =>
        have hdv2 := last_at hdv
        have hle := h.mono v hv _ _ _ _ hcl hdv2 (by omega)
        have hn := hb v hv hvV
        unfold beats at hn
        rw [lst_some hdv] at hn
        cases hdr : (D r).getLast? with
        | none =>
          exfalso
          have e1 := List.getLast?_eq_none_iff.1 hdr
          have e2 : lst tm (D r) = 0 := by unfold lst; rw [hdr]
          have h0 := (h.terms v hv cl (mgE hcl)).1
          rw [e2, e1] at hn
          simp only [List.length_nil] at hn
          omega
        | some dr =>
          rw [lst_some hdr] at hn
          by_cases hlt : tm cl < tm dr
          · exact c.later r hr cl hc dr hdr hlt
          · have hdr2 := last_at hdr
            have hlr := (List.getElem?_eq_some_iff.1 hdr2).1
            have := h.mtch r hr v hv _ _ dr cl hdr2 hcl (by omega) (by omega)
            rw [show C.length - 1 + 1 = C.length by
              have := List.length_pos_iff.2 (show C ≠ [] from fun e => by rw [e] at hc; cases hc)
              omega, pre_take hvC] at this
            rw [<- this]
            exact List.take_prefix _ _
theorem Inv.put {l : Nat} {e : E} {D' : Nat -> List E} (h : Inv tm n D S T (some l)) (h0 : 0 <= T) (he : tm e = T) (hl : D' l = D l ++ [e]) (ho : ∀ i, i ≠ l -> D' i = D i) : Inv tm n D' S T (some l) := by
  obtain ⟨hln, hown⟩ := h.own l rfl
  have hpre : ∀ i, D i <+: D' i := fun i => by
    by_cases hi : i = l
    · rw [hi, hl]; exact List.prefix_append _ _
    · rw [ho i hi]; exact List.prefix_refl _
  have hat : ∀ (i p : Nat) (x : E), (D' i)[p]? = some x -> (D i)[p]? = some x \/ (i = l /\ p = (D l).length /\ x = e) := fun i p x hx => by
    by_cases hi : i = l
    · subst hi
      rw [hl] at hx
      by_cases hp : p < (D i).length
      · rw [List.getElem?_append_left hp] at hx; exact .inl hx
      · rw [List.getElem?_append_right (by omega)] at hx
        obtain ⟨hq, hx2⟩ := List.getElem?_eq_some_iff.1 hx
        simp only [List.length_singleton] at hq
        have : p = (D i).length := by omega
        subst this
        simp at hx
        exact .inr ⟨rfl, rfl, hx.symm⟩
    · rw [ho i hi] at hx; exact .inl hx
  have htk : ∀ (i q : Nat) (x : E), (D i)[q]? = some x -> (D' i).take (q + 1) = (D i).take (q + 1) := fun i q x hx => by
    have := (List.getElem?_eq_some_iff.1 hx).1
    exact (take_pre (hpre i) (by omega)).symm
  refine ⟨fun i hi x hx => ?_, fun i hi p q x y hx hy hpq => ?_, fun i hi k hk p q x y hx hy hxy hpq => ?_, fun l2 hl2 => ?_, ?_⟩
  · obtain ⟨p, hp⟩ := List.getElem?_of_mem hx
    rcases hat i p x hp with h1 | ⟨_, _, rfl⟩
    · exact h.terms i hi x (mgE h1)
    · omega
  · rcases hat i p x hx with h1 | ⟨e1, e2, e3⟩
    · rcases hat i q y hy with h2 | ⟨f1, f2, f3⟩
      · exact h.mono i hi p q x y h1 h2 hpq
      · have := (h.terms i hi x (mgE h1)).2
        rw [f3]; omega
    · rcases hat i q y hy with h2 | ⟨f1, f2, f3⟩
      · have := (List.getElem?_eq_some_iff.1 h2).1
        subst e1; omega
      · rw [e3, f3]; exact Int.le_refl _
  · rcases hat i p x hx with h1 | ⟨e1, e2, e3⟩
    · rcases hat k q y hy with h2 | ⟨f1, f2, f3⟩
      · rw [htk i q _ (List.getElem?_eq_getElem (show q < (D i).length by have := (List.getElem?_eq_some_iff.1 h1).1; omega)), htk k q y h2]
        exact h.mtch i hi k hk p q x y h1 h2 hxy hpq
      · exfalso
        have h3 := (hown i hi p x h1 (by rw [hxy, f3, he])).length_le
        have h4 := (List.getElem?_eq_some_iff.1 h1).1
        rw [List.length_take] at h3
        omega
    · rcases hat k q y hy with h2 | ⟨f1, f2, f3⟩
      · have h3 := hown k hk q y h2 (by rw [<- hxy, e3, he])
        have h4 := (List.getElem?_eq_some_iff.1 h2).1
        have h5 := h3.length_le
        rw [List.length_take] at h5
        rw [htk k q y h2, e1, <- take_pre (hpre l) (by omega)]
        have := take_pre (k := q + 1) h3 (by rw [List.length_take]; omega)
        rw [List.take_take, Nat.min_self] at this
        exact this.symm
      · rw [e1, f1]
  · cases hl2
    refine ⟨hln, fun i hi p x hx ht => ?_⟩
    rcases hat i p x hx with h1 | ⟨e1, e2, e3⟩
    · rw [htk i p x h1]; exact (hown i hi p x h1 ht).trans (hpre l)
    · rw [e1]; exact List.take_prefix _ _
  · obtain ⟨C, c⟩ := h.com
    refine ⟨C, maj_mono c.maj (fun i _ hp => hp.trans (hpre i)), fun i hi cl hc d hd hlt => ?_, fun l2 hl2 => ?_, fun i hi => ?_⟩
    · by_cases hil : i = l
      · rw [hil]; exact (c.led l rfl).trans (hpre l)
      · rw [ho i hil] at hd ⊢
        exact c.later i hi cl hc d hd hlt
    · cases hl2; exact (c.led l rfl).trans (hpre l)
    · have h1 := c.sure i hi
      refine ⟨?_, Nat.le_trans h1.2 (hpre i).length_le⟩
      rw [<- take_pre (hpre i) h1.2]; exact h1.1
theorem Inv.copy {l r : Nat} {D' : Nat -> List E} {S' : Nat -> Nat} (h : Inv tm n D S T (some l)) (hrn : r < n) (hr : D' r = D l) (ho : ∀ i, i ≠ r -> D' i = D i) (hs : S' r <= max (S l) (S r) /\ S' r <= (D l).length) (hso : ∀ i, i ≠ r -> S' i = S i) : Inv tm n D' S' T (some l) := by
  obtain ⟨hln, hown⟩ := h.own l rfl
  have hD : ∀ i, i < n -> ∃ k, k < n /\ D' i = D k := fun i hi => by
    by_cases hir : i = r
    · exact ⟨l, hln, by rw [hir]; exact hr⟩
    · exact ⟨i, hi, ho i hir⟩
  have hDl : D' l = D l := by
    by_cases hlr : l = r
    · rw [hlr, hr, hlr]
    · exact ho l hlr
  refine ⟨fun i hi => ?_, fun i hi => ?_, fun i hi k hk => ?_, fun l2 hl2 => ?_, ?_⟩
  · obtain ⟨a, ha, e⟩ := hD i hi
    rw [e]; exact h.terms a ha
  · obtain ⟨a, ha, e⟩ := hD i hi
    rw [e]; exact h.mono a ha
  · obtain ⟨a, ha, e⟩ := hD i hi
    obtain ⟨b, hb, f⟩ := hD k hk
    rw [e, f]; exact h.mtch a ha b hb
  · cases hl2
    refine ⟨hln, fun i hi => ?_⟩
    obtain ⟨a, ha, e⟩ := hD i hi
    rw [e, hDl]; exact hown a ha
  · obtain ⟨C, c⟩ := h.com
    refine ⟨C, maj_mono c.maj (fun i _ hp => ?_), fun i hi cl hc d hd hlt => ?_, fun l2 hl2 => ?_, fun i hi => ?_⟩
    · by_cases hir : i = r
      · rw [hir, hr]; exact c.led l rfl
      · rw [ho i hir]; exact hp
    · by_cases hir : i = r
      · rw [hir, hr]; exact c.led l rfl
      · rw [ho i hir] at hd ⊢
        exact c.later i hi cl hc d hd hlt
    · cases hl2; rw [hDl]; exact c.led l rfl
    · by_cases hir : i = r
      · have h1 := pre_len (c.sure l hln).1 (c.sure l hln).2
        have h2 := pre_len (c.sure r hrn).1 (c.sure r hrn).2
        have h3 : S' r <= C.length := by omega
        rw [hir, hr]
        refine ⟨?_, hs.2⟩
        rw [<- take_pre (c.led l rfl) h3]
        exact List.take_prefix _ _
      · rw [ho i hir, hso i hir]; exact c.sure i hi
theorem Inv.adv {l m : Nat} {e : E} {S' : Nat -> Nat} (h : Inv tm n D S T (some l)) (hm : m < (D l).length) (hat : (D l)[m]? = some e) (he : tm e = T) (hmaj : Maj n D ((D l).take (m + 1))) (hs : S' l = m + 1) (hso : ∀ i, i ≠ l -> S' i = S i) : Inv tm n D S' T (some l) := by
  obtain ⟨hln, hown⟩ := h.own l rfl
  refine ⟨h.terms, h.mono, h.mtch, h.own, ?_⟩
  obtain ⟨C, c⟩ := h.com
  have hlen : ((D l).take (m + 1)).length = m + 1 := by rw [List.length_take]; omega
  by_cases hC : m + 1 <= C.length
  · refine ⟨C, c.maj, c.later, c.led, fun i hi => ?_⟩
    by_cases hil : i = l
    · rw [hil, hs]
      refine ⟨?_, hm⟩
      rw [<- take_pre (c.led l rfl) hC]
      exact List.take_prefix _ _
    · rw [hso i hil]; exact c.sure i hi
  · have hCp : C <+: (D l).take (m + 1) := by
      rw [<- pre_take (c.led l rfl)]
      exact List.take_prefix_take_left (by omega)
    refine ⟨(D l).take (m + 1), hmaj, fun i hi cl hc d hd hlt => ?_, fun l2 hl2 => ?_, fun i hi => ?_⟩
    · exfalso
      have h1 := last_at hc
      rw [hlen, List.getElem?_take_of_lt (by omega), Nat.add_sub_cancel, hat] at h1
      cases h1
      have := (h.terms i hi d (List.mem_of_getLast? hd)).2
      omega
    · cases hl2; exact List.take_prefix _ _
    · by_cases hil : i = l
      · rw [hil, hs]; exact ⟨List.prefix_refl _, hm⟩
      · rw [hso i hil]; exact ⟨(c.sure i hi).1.trans hCp, (c.sure i hi).2⟩
theorem Inv.safe (h : Inv tm n D S T lead) {i k m : Nat} (hi : i < n) (hk : k < n) (h1 : m <= S i) (h2 : m <= S k) : (D i).take m = (D k).take m := by
  obtain ⟨C, c⟩ := h.com
  have a := c.sure i hi
  have b := c.sure k hk
  have hm := Nat.le_trans h1 (pre_len a.1 a.2)
  have e1 := take_pre (k := m) a.1 (by rw [List.length_take]; omega)
  have e2 := take_pre (k := m) b.1 (by rw [List.length_take]; omega)
  rw [List.take_take, Nat.min_eq_left h1] at e1
  rw [List.take_take, Nat.min_eq_left h2] at e2
  rw [e1, e2]
theorem Inv.led {l : Nat} (h : Inv tm n D S T (some l)) {i : Nat} (hi : i < n) : (D i).take (S i) <+: D l := by
  obtain ⟨C, c⟩ := h.com
  exact (c.sure i hi).1.trans (c.led l rfl)
end
end Go.Safe
theorem entAt_all {t : Int} : ∀ (l pre : List EntryT), allPre (entAt t) pre l = true ↔ (∀ e ∈ l, okRec e.Rec = true /\ 1 <= e.Term /\ e.Term <= t) /\ (∀ y, pre.getLast? = some y -> ∀ e ∈ l, y.Term <= e.Term) /\ l.Pairwise (fun a b => a.Term <= b.Term)
  | [], pre => by simp [allPre]
  | x :: xs, pre => by
    have ih := entAt_all (t := t) xs (pre ++ [x])
    simp only [allPre, baT]
    rw [ih]
    have h1 : entAt t pre x = true ↔ (okRec x.Rec = true /\ 1 <= x.Term /\ x.Term <= t) /\ ∀ y, pre.getLast? = some y -> y.Term <= x.Term := by
      unfold entAt inB prevB
      cases hl : pre.getLast? with
      | none => simp; exact and_comm
      | some z => simp only [baT, decide_eq_true_eq, Option.some.injEq, forall_eq']; constructor
                  · rintro ⟨⟨⟨a, b⟩, c⟩, d⟩; exact ⟨⟨c, a, b⟩, d⟩
                  · rintro ⟨⟨c, a, b⟩, d⟩; exact ⟨⟨⟨a, b⟩, c⟩, d⟩
    rw [h1]
    simp only [List.getLast?_concat, Option.some.injEq, List.mem_cons, List.pairwise_cons]
    constructor
    · rintro ⟨⟨a, b⟩, c, d, e⟩
      refine ⟨?_, ?_, ?_, e⟩
      · rintro w (rfl | hw)
        · exact a
        · exact c w hw
      · rintro y hy w (rfl | hw)
        · exact b y hy
        · exact Int.le_trans (b y hy) (d x rfl w hw)
      · exact fun w hw => d x rfl w hw
    · rintro ⟨a, b, c, d⟩
      exact ⟨⟨a x (.inl rfl), fun y hy => b y hy x (.inl rfl)⟩, fun w hw => a w (.inr hw), fun y hy w hw => by subst hy; exact c w hw, d⟩
structure LogOk (l : List EntryT) (t : Int) : Prop where
  len : l.length <= 60
  ent : ∀ e ∈ l, okRec e.Rec = true /\ 1 <= e.Term /\ e.Term <= t
  mono : l.Pairwise (fun a b => a.Term <= b.Term)
theorem okLog_iff {l : List EntryT} {t : Int} : okLog l t = true ↔ LogOk l t := by
  unfold okLog
  rw [baT, entAt_all, decide_eq_true_eq]
  exact ⟨fun h => ⟨by omega, h.1.1, h.1.2.2⟩, fun h => ⟨⟨h.ent, fun y hy => (by cases hy), h.mono⟩, by have := h.len; omega⟩⟩
theorem LogOk.le {l : List EntryT} {s t : Int} (h : LogOk l s) (hst : s <= t) : LogOk l t := ⟨h.len, fun e he => ⟨(h.ent e he).1, (h.ent e he).2.1, Int.le_trans (h.ent e he).2.2 hst⟩, h.mono⟩
theorem okRep_iff {r : ReplicaT} {t : Int} : okRep t r = true ↔ LogOk r.Log t /\ 0 <= r.Sure /\ r.Sure <= (r.Log.length : Int) := by
  unfold okRep inB
  rw [baT, okLog_iff]
  simp
structure Fit (t : Int) (x : ReplicaT) (d : DiskT) : Prop where
  mend : mendB d = true
  all : (frames d.Kept 0).1.all okE = true
  pre : x.Log <+: onK d
  up : x.Up = true -> onK d = x.Log /\ (frames d.Kept 0).2 = d.Kept.length
  down : x.Up = false -> onK d = x.Log \/ (onK d).length = x.Log.length + 1 /\ lastE x.Log <= lastE (onK d) /\ lastE (onK d) <= t
theorem preE_iff {a b : List EntryT} : preE a b = true ↔ b <+: a := by
  unfold preE
  rw [decide_eq_true_eq, List.prefix_iff_eq_take]
  exact eq_comm
theorem fit_iff {t : Int} {x : ReplicaT} {d : DiskT} : fitsD t x d = true ↔ Fit t x d := by
  unfold fitsD
  change ((mendB d && (frames d.Kept 0).1.all okE) && fitsL t x (onK d) (frames d.Kept 0).2 d.Kept.length) = true ↔ _
  rw [baT, baT]
  unfold fitsL
  cases hu : x.Up with
  | true =>
    simp only [baT, decide_eq_true_eq]
    constructor
    · rintro ⟨⟨a, b⟩, c, d'⟩
      exact ⟨a, b, by rw [c]; exact List.prefix_refl _, fun _ => ⟨c, by omega⟩, fun e => by rw [hu] at e; cases e⟩
    · intro f
      have := f.up hu
      exact ⟨⟨f.mend, f.all⟩, this.1, by omega⟩
  | false =>
    simp only [baT, Bool.or_eq_true, decide_eq_true_eq, preE_iff, inB]
    constructor
    · rintro ⟨⟨a, b⟩, c, d'⟩
      refine ⟨a, b, c, fun e => (by rw [hu] at e; cases e), fun _ => ?_⟩
      rcases d' with d' | d'
      · exact .inl (c.eq_of_length (by omega)).symm
      · exact .inr ⟨by omega, d'.2⟩
    · intro f
      refine ⟨⟨f.mend, f.all⟩, f.pre, ?_⟩
      rcases f.down hu with e | e
      · rw [e]; exact .inl rfl
      · exact .inr ⟨by omega, e.2⟩
theorem Fit.le {s t : Int} {x : ReplicaT} {d : DiskT} (h : Fit s x d) (hst : s <= t) : Fit t x d := ⟨h.mend, h.all, h.pre, h.up, fun hu => (h.down hu).imp id fun e => ⟨e.1, e.2.1, Int.le_trans e.2.2 hst⟩⟩
theorem okG_iff {g : GroupT} : okGroup g = true ↔ OkG g := by
  refine ⟨okG_of, fun h => ?_⟩
  unfold okGroup inB
  simp only [baT, List.all_eq_true, decide_eq_true_eq]
  exact ⟨⟨⟨h.many, h.term⟩, h.lead⟩, h.rep⟩
theorem okH_iff {h : HouseT} : okHouse h = true ↔ OkH h := by
  refine ⟨okH_of, fun o => ?_⟩
  unfold okHouse
  simp only [baT, decide_eq_true_eq, List.all_eq_true]
  refine ⟨⟨o.g, by rw [o.len]⟩, fun p hp => ?_⟩
  obtain ⟨n, hn⟩ := List.getElem?_of_mem hp
  rw [List.getElem?_zip_eq_some] at hn
  exact o.pair n _ _ hn.1 hn.2
def sysD (ds : List DiskT) (i : Nat) : List EntryT := match ds[i]? with | some d => onK d | none => []
def sysS (rs : List ReplicaT) (i : Nat) : Nat := match rs[i]? with | some r => r.Sure.toNat | none => 0
def leadN (L : Int) : Option Nat := if L < 0 then none else some L.toNat
theorem sysD_of {ds : List DiskT} {i : Nat} {d : DiskT} (h : ds[i]? = some d) : sysD ds i = onK d := by unfold sysD; rw [h]
theorem sysS_of {rs : List ReplicaT} {i : Nat} {r : ReplicaT} (h : rs[i]? = some r) : sysS rs i = r.Sure.toNat := by unfold sysS; rw [h]
structure Fine (h : HouseT) : Prop where
  oh : OkH h
  one : 0 <= h.Group.Lead -> 1 <= h.Group.Term
  inv : Go.Safe.Inv EntryT.Term h.Group.Reps.length (sysD h.Disks) (sysS h.Group.Reps) h.Group.Term (leadN h.Group.Lead)
section
variable {h : HouseT}
theorem Fine.log (f : Fine h) {n : Nat} {x : ReplicaT} (hx : h.Group.Reps[n]? = some x) : LogOk x.Log h.Group.Term /\ 0 <= x.Sure /\ x.Sure <= (x.Log.length : Int) := okRep_iff.1 ((okG_iff.1 f.oh.g).rep x (mgE hx))
theorem Fine.fit (f : Fine h) {n : Nat} {x : ReplicaT} {d : DiskT} (hx : h.Group.Reps[n]? = some x) (hd : h.Disks[n]? = some d) : Fit h.Group.Term x d := fit_iff.1 (f.oh.pair n x d hx hd)
theorem Fine.disk (f : Fine h) {n : Nat} (hn : n < h.Group.Reps.length) : ∃ x d, h.Group.Reps[n]? = some x /\ h.Disks[n]? = some d := ⟨_, _, List.getElem?_eq_getElem hn, List.getElem?_eq_getElem (show n < h.Disks.length by rw [f.oh.len]; exact hn)⟩
theorem set_at {α : Type} {l : List α} {k n : Nat} {y : α} (hk : k < l.length) : (l.set k y)[n]? = if n = k then some y else l[n]? := by
  rw [List.getElem?_set]
  by_cases e : k = n
  · subst e; simp [hk]
  · rw [if_neg e, if_neg (fun e2 => e e2.symm)]
theorem set_same {α : Type} {l : List α} {k : Nat} {y : α} (h : l[k]? = some y) : l.set k y = l := by
  obtain ⟨hk, rfl⟩ := List.getElem?_eq_some_iff.1 h
  exact List.set_getElem_self hk
theorem Fine.set {k : Nat} {y : ReplicaT} {d : DiskT} {T L : Int} (f : Fine h) (hk : k < h.Group.Reps.length) (hT : h.Group.Term <= T /\ T <= 200) (hr : okRep T y = true) (hf : Fit T y d)
    (hl : okLead ⟨h.Group.Reps.set k y, T, L⟩ = true) (one : 0 <= L -> 1 <= T) (hi : Go.Safe.Inv EntryT.Term h.Group.Reps.length (fun i => if i = k then onK d else sysD h.Disks i) (fun i => if i = k then y.Sure.toNat else sysS h.Group.Reps i) T (leadN L)) : Fine ⟨⟨h.Group.Reps.set k y, T, L⟩, h.Disks.set k d⟩ := by
  have og := okG_iff.1 f.oh.g
  have hkd : k < h.Disks.length := by rw [f.oh.len]; exact hk
  refine ⟨⟨okG_iff.2 ⟨by show okMany ((h.Group.Reps.set k y).length : Int) = true; rw [List.length_set]; exact og.many, ⟨by show 0 <= T; have := og.term; omega, hT.2⟩, hl, fun x hx => ?_⟩, by show (h.Disks.set k d).length = (h.Group.Reps.set k y).length; rw [List.length_set, List.length_set]; exact f.oh.len, fun n x d2 hx hd => ?_⟩, one, ?_⟩
  · rcases List.mem_or_eq_of_mem_set hx with hx | rfl
    · have := okRep_iff.1 (og.rep x hx)
      exact okRep_iff.2 ⟨this.1.le hT.1, this.2⟩
    · exact hr
  · change (h.Group.Reps.set k y)[n]? = some x at hx
    change (h.Disks.set k d)[n]? = some d2 at hd
    rw [set_at hk] at hx
    rw [set_at hkd] at hd
    by_cases e : n = k
    · rw [if_pos e] at hx hd
      cases hx; cases hd
      exact fit_iff.2 hf
    · rw [if_neg e] at hx hd
      exact fit_iff.2 ((f.fit hx hd).le hT.1)
  · show Go.Safe.Inv EntryT.Term (h.Group.Reps.set k y).length (sysD (h.Disks.set k d)) (sysS (h.Group.Reps.set k y)) T (leadN L)
    rw [List.length_set]
    refine hi.congr (fun i _ => ?_) (fun i _ => ?_)
    · unfold sysD
      rw [set_at hkd]
      by_cases e : i = k
      · rw [if_pos e, if_pos e]
      · rw [if_neg e, if_neg e]
    · unfold sysS
      rw [set_at hk]
      by_cases e : i = k
      · rw [if_pos e, if_pos e]
      · rw [if_neg e, if_neg e]
end
section
variable {h : HouseT}
theorem leadN_of {L : Int} (h : 0 <= L) : leadN L = some L.toNat := by unfold leadN; rw [if_neg (by omega)]
theorem leadN_no {L : Int} (h : L < 0) : leadN L = none := by unfold leadN; rw [if_pos h]
theorem okUp_of {g : GroupT} {r : Int} {b : Bool} (h : okUp g r b = true) : ∃ y, g.Reps[r.toNat]? = some y /\ y.Up = b /\ 0 <= r /\ r.toNat < g.Reps.length := by
  have h2 := okUp_lt h
  unfold okUp at h
  simp only [baT] at h
  have hy := List.getElem?_eq_getElem h2.2
  refine ⟨_, hy, ?_, h2.1, h2.2⟩
  have := h.2.2
  rw [upAt_of hy] at this
  simpa using this
theorem upI' {g : GroupT} {r : Int} {y : ReplicaT} (h0 : 0 <= r) (hy : g.Reps[r.toNat]? = some y) (hu : y.Up = true) : isRep g r = true /\ upAt g r = true := by
  have := (List.getElem?_eq_some_iff.1 hy).1
  refine ⟨?_, by rw [upAt_of hy]; exact hu⟩
  unfold isRep inB
  simp only [baT, decide_eq_true_eq]
  omega
theorem lead_of {g : GroupT} (h : okLead g = true) (h0 : 0 <= g.Lead) : ∃ y, g.Reps[g.Lead.toNat]? = some y /\ y.Up = true /\ g.Lead.toNat < g.Reps.length := by
  unfold okLead at h
  simp only [Bool.or_eq_true, baT, decide_eq_true_eq] at h
  rcases h with h | h
  · omega
  · have h2 := isRep_lt h.1
    have hy := List.getElem?_eq_getElem h2.2
    have := h.2
    rw [upAt_of hy] at this
    exact ⟨_, hy, this, h2.2⟩
theorem okLead_lt' {g : GroupT} (h : okLead g = true) : g.Lead = -1 \/ 0 <= g.Lead := by
  unfold okLead at h
  simp only [Bool.or_eq_true, baT, decide_eq_true_eq] at h
  rcases h with h | h
  · exact .inl h
  · exact .inr (isRep_lt h.1).1
theorem okLead_set {g : GroupT} {k : Nat} {y : ReplicaT} {T : Int} (h : okLead g = true) (hk : k < g.Reps.length) (hy : k = g.Lead.toNat -> 0 <= g.Lead -> y.Up = true) : okLead ⟨g.Reps.set k y, T, g.Lead⟩ = true := by
  rcases okLead_lt' h with e | e
  · unfold okLead
    simp [e]
  · obtain ⟨z, hz, hu, hlt⟩ := lead_of h e
    have : ∃ w, (g.Reps.set k y)[g.Lead.toNat]? = some w /\ w.Up = true := by
      rw [set_at hk]
      by_cases e2 : g.Lead.toNat = k
      · rw [if_pos e2]; exact ⟨y, rfl, hy e2.symm e⟩
      · rw [if_neg e2]; exact ⟨z, hz, hu⟩
    obtain ⟨w, hw, hwu⟩ := this
    obtain ⟨a, b⟩ := upI' (g := ⟨g.Reps.set k y, T, g.Lead⟩) e hw hwu
    unfold okLead
    rw [a, b]; simp
theorem Fine.crash (f : Fine h) {r : Int} (ho : okUp h.Group r true = true) : Fine ⟨crashR h.Group r, h.Disks⟩ := by
  obtain ⟨y, hy, hu, h0, hlt⟩ := okUp_of ho
  obtain ⟨y', d, hy', hd⟩ := f.disk hlt
  rw [hy] at hy'; cases hy'
  have og := okG_iff.1 f.oh.g
  have hfit := f.fit hy hd
  have hlog := okRep_iff.1 (og.rep y (mgE hy))
  have key := f.set (k := r.toNat) (y := { y with Up := false }) (d := d) (T := h.Group.Term) (L := if h.Group.Lead = r then -1 else h.Group.Lead) hlt ⟨Int.le_refl _, og.term.2⟩ (okRep_iff.2 hlog)
    ⟨hfit.mend, hfit.all, hfit.pre, fun e => (by cases e), fun _ => .inl (hfit.up hu).1⟩ (by
      by_cases e : h.Group.Lead = r
      · rw [if_pos e]; unfold okLead; simp
      · rw [if_neg e]
        exact okLead_set og.lead hlt (fun e2 e3 => absurd (show h.Group.Lead = r by omega) e)) (fun hL => f.one (by
      by_cases e : h.Group.Lead = r
      · rw [if_pos e] at hL; omega
      · rw [if_neg e] at hL; exact hL)) (by
      have hi := f.inv
      have hc : Go.Safe.Inv EntryT.Term h.Group.Reps.length (sysD h.Disks) (sysS h.Group.Reps) h.Group.Term (leadN (if h.Group.Lead = r then -1 else h.Group.Lead)) := by
        by_cases e : h.Group.Lead = r
        · rw [if_pos e]; exact hi.drop
        · rw [if_neg e]; exact hi
      refine hc.congr (fun i _ => ?_) (fun i _ => ?_)
      · by_cases e : i = r.toNat
        · rw [if_pos e, e, sysD_of hd]
        · rw [if_neg e]
      · by_cases e : i = r.toNat
        · rw [if_pos e, e, sysS_of hy]
        · rw [if_neg e])
  rw [set_same hd] at key
  have e : crashR h.Group r = ⟨h.Group.Reps.set r.toNat { y with Up := false }, h.Group.Term, if h.Group.Lead = r then -1 else h.Group.Lead⟩ := by
    rw [crashR, resG_yes ho]; unfold crashN; rw [setRep_of hy]
  rw [e]; exact key
theorem Fine.start (f : Fine h) {r : Int} (ho : okUp h.Group r false = true) (hb : okLog (onK (dskOf h.Disks r)) h.Group.Term = true) : Fine ⟨backG (startR h.Group r) r (dskOf h.Disks r), h.Disks.set r.toNat (mended (dskOf h.Disks r))⟩ := by
  obtain ⟨y, hy, hu, h0, hlt⟩ := okUp_of ho
  obtain ⟨y', d, hy', hd⟩ := f.disk hlt
  rw [hy] at hy'; cases hy'
  have og := okG_iff.1 f.oh.g
  have hfit := f.fit hy hd
  rw [dskOf_of hd] at hb ⊢
  have hfr : frames (mended d).Kept 0 = frames d.Kept 0 := frames_mend d.Kept
  have hon : onK (mended d) = onK d := by unfold onK; rw [hfr]
  have hm := mendB_of hfit.mend
  have key := f.set (k := r.toNat) (y := ⟨true, onK d, 0⟩) (d := mended d) (T := h.Group.Term) (L := h.Group.Lead) hlt ⟨Int.le_refl _, og.term.2⟩ (okRep_iff.2 ⟨okLog_iff.1 hb, Int.le_refl _, Int.natCast_nonneg _⟩)
    ⟨by
      unfold mendB
      rw [show decide ((mended d).Loose = []) = true from rfl, Bool.and_true]
      have := hm.1
      unfold okDsk at this ⊢
      rw [decide_eq_true_eq] at this ⊢
      unfold mended
      simp only [List.length_take, List.length_nil]
      omega, by rw [hfr]; exact hfit.all, by rw [hon]; exact List.prefix_refl _, fun _ => ⟨hon, by
      rw [hfr]
      have := (frames_back0 d.Kept).2.1
      unfold mended
      simp only [List.length_take]
      omega⟩, fun e => by cases e⟩ (okLead_set og.lead hlt (fun _ _ => rfl)) f.one (by
      have hs := f.inv.less (S' := fun i => if i = r.toNat then 0 else sysS h.Group.Reps i) (fun i _ => by
        by_cases e : i = r.toNat
        · simp [e]
        · simp [e])
      refine hs.congr (fun i _ => ?_) (fun i _ => ?_)
      · by_cases e : i = r.toNat
        · rw [if_pos e, e, sysD_of hd, hon]
        · rw [if_neg e]
      · by_cases e : i = r.toNat
        · simp [e]
        · simp [e])
  have e : backG (startR h.Group r) r d = ⟨h.Group.Reps.set r.toNat ⟨true, onK d, 0⟩, h.Group.Term, h.Group.Lead⟩ := by
    unfold backG
    rw [startR, resG_yes ho]
    have h1 : (⟨setRep h.Group r fun y => { y with Up := true }, h.Group.Term, h.Group.Lead⟩ : GroupT).Reps[r.toNat]? = some { y with Up := true } := setRep_at hy
    rw [setRep_of h1]
    show (⟨(setRep h.Group r _).set _ _, _, _⟩ : GroupT) = _
    rw [setRep_of hy, List.set_set]
  rw [e]; exact key
theorem cntR_range (q : ReplicaT -> Bool) : ∀ (l : List ReplicaT), cntR q l = (List.range l.length).countP (fun i => match l[i]? with | some x => q x | none => false)
  | [] => rfl
  | x :: l => by
    have ih := cntR_range q l
    unfold cntR at ih ⊢
    rw [List.length_cons, List.range_succ_eq_map, List.countP_cons, List.countP_map, List.filter_cons]
    have h1 : ((fun i => match (x :: l)[i]? with | some x => q x | none => false) ∘ Nat.succ) = (fun i => match l[i]? with | some x => q x | none => false) := by
      funext i
      simp
    rw [h1, <- ih]
    by_cases hq : q x = true <;> simp [hq]
theorem most_range {g : GroupT} {q : ReplicaT -> Bool} (h : most g q = true) : g.Reps.length < 2 * (List.range g.Reps.length).countP (fun i => match g.Reps[i]? with | some x => q x | none => false) := by
  unfold most at h
  rw [decide_eq_true_eq, cntR_range] at h
  omega
theorem lst_last (l : List EntryT) : Go.Safe.lst EntryT.Term l = lastE l := by
  unfold Go.Safe.lst lastE
  cases l.getLast? <;> rfl
theorem newer_iff {a b : List EntryT} : newer a b = true ↔ Go.Safe.beats EntryT.Term a b := by
  unfold newer Go.Safe.beats
  rw [lst_last, lst_last]
  simp only [Bool.or_eq_true, baT, decide_eq_true_eq]
  constructor
  · rintro (a | a)
    · exact .inl a
    · exact .inr ⟨a.1, by omega⟩
  · rintro (a | a)
    · exact .inl a
    · exact .inr ⟨a.1, by omega⟩
theorem Fine.elect (f : Fine h) {r : Int} (ho : okElect h.Group r = true) : Fine ⟨electR h.Group r, h.Disks⟩ := by
  have ho' := ho
  unfold okElect at ho
  simp only [baT, Bool.not_eq_true', decide_eq_false_iff_not] at ho
  obtain ⟨h1, h2, h3⟩ := ho
  obtain ⟨y, hy, hu, h0, hlt⟩ := okUp_of h1
  obtain ⟨y', d, hy', hd⟩ := f.disk hlt
  rw [hy] at hy'; cases hy'
  have og := okG_iff.1 f.oh.g
  have hfit := f.fit hy hd
  have hT := og.term
  have hlog := okRep_iff.1 (og.rep y (mgE hy))
  have key := f.set (k := r.toNat) (y := y) (d := d) (T := h.Group.Term + 1) (L := r) hlt ⟨by omega, by omega⟩ (okRep_iff.2 ⟨hlog.1.le (by omega), hlog.2⟩) (hfit.le (by omega)) (by
      obtain ⟨a, b⟩ := upI' (g := ⟨h.Group.Reps.set r.toNat y, h.Group.Term + 1, r⟩) h0 (by show (h.Group.Reps.set r.toNat y)[r.toNat]? = some y; rw [set_same hy]; exact hy) hu
      unfold okLead
      rw [a, b]; simp) (fun _ => by omega) (by
      rw [leadN_of h0]
      refine (f.inv.elect hlt (most_range h3) (fun i hi hv => ?_)).congr (fun i _ => ?_) (fun i _ => ?_)
      · obtain ⟨x, dx, hx, hdx⟩ := f.disk hi
        simp only [hx] at hv
        unfold votes at hv
        rw [baT, Bool.not_eq_true', logAt_of hy] at hv
        rw [sysD_of hdx, sysD_of hd, ((f.fit hx hdx).up hv.1).1, (hfit.up hu).1]
        intro hb
        rw [newer_iff.2 hb] at hv
        exact absurd hv.2 (by simp)
      · by_cases e : i = r.toNat
        · rw [if_pos e, e, sysD_of hd]
        · rw [if_neg e]
      · by_cases e : i = r.toNat
        · rw [if_pos e, e, sysS_of hy]
        · rw [if_neg e])
  rw [set_same hd, set_same hy] at key
  rw [electR_yes ho', i64_wrap (by omega) (by omega)]
  exact key
end
theorem snoc_log {l : List EntryT} {e : EntryT} {t : Int} (h : LogOk l t) (hl : l.length < 60) (hr : okRec e.Rec = true) (ht : e.Term = t) (h1 : 1 <= t) : LogOk (l ++ [e]) t := by
  refine ⟨by rw [laT, List.length_singleton]; omega, fun x hx => ?_, ?_⟩
  · rcases List.mem_append.1 hx with hx | hx
    · exact h.ent x hx
    · rw [List.mem_singleton.1 hx]; exact ⟨hr, by omega, by omega⟩
  · rw [List.pairwise_append]
    refine ⟨h.mono, List.pairwise_singleton _ _, fun a ha b hb => ?_⟩
    rw [List.mem_singleton.1 hb, ht]; exact (h.ent a ha).2.2
theorem LogOk.good {l : List EntryT} {t : Int} (h : LogOk l t) (ht : t <= 200) : ∀ e ∈ l, goodE e := fun e he => ⟨(h.ent e he).1, (h.ent e he).2.1, Int.le_trans (h.ent e he).2.2 ht⟩
theorem kept_fit {l : List EntryT} {t u : Int} {x : ReplicaT} (h : LogOk l t) (ht : t <= 200) (hx : x.Log = l) : Fit u x ⟨keptB l, []⟩ /\ onK ⟨keptB l, []⟩ = l := by
  have hg := h.good ht
  have h7 := ents_700 hg
  have hf := frames_all h7
  have ho := ents_out hg
  have hs := flat_size h7
  rw [List.length_map] at hs
  have hl := h.len
  have hon : onK ⟨keptB l, []⟩ = l := by
    unfold onK
    show (frames (keptB l) 0).1.map outE = l
    rw [keptB_eq, hf]; exact ho.1
  refine ⟨⟨?_, ?_, by rw [hon, hx]; exact List.prefix_refl _, fun _ => ⟨by rw [hon, hx], ?_⟩, fun _ => .inl (by rw [hon, hx])⟩, hon⟩
  · unfold mendB okDsk
    simp only [baT, decide_eq_true_eq, List.length_nil, keptB_eq]
    exact ⟨by omega, trivial⟩
  · show (frames (keptB l) 0).1.all okE = true
    rw [keptB_eq, hf]; exact ho.2
  · show (frames (keptB l) 0).2 = (keptB l).length
    rw [keptB_eq, hf]
section
variable {h : HouseT}
theorem Fine.put (f : Fine h) {r : RecT} (ho : okPut h.Group r = true) : Fine (putH h (putR h.Group r)) := by
  obtain ⟨hg, h0, hlen, hr⟩ := put_group ho
  have og := okG_iff.1 f.oh.g
  obtain ⟨y, hy, hu, hlt⟩ := lead_of og.lead h0
  obtain ⟨y', d, hy', hd⟩ := f.disk hlt
  rw [hy] at hy'; cases hy'
  have hfit := f.fit hy hd
  have hT := og.term
  have h1 := f.one h0
  have hlog := okRep_iff.1 (og.rep y (mgE hy))
  have hll : y.Log.length < 60 := by
    unfold lenLead at hlen
    rw [hy] at hlen; exact hlen
  have hnew := snoc_log (e := ⟨h.Group.Term, r⟩) hlog.1 hll hr rfl h1
  obtain ⟨hkf, hko⟩ := kept_fit (u := h.Group.Term) (x := putE h.Group r y) hnew hT.2 rfl
  have key := f.set (k := h.Group.Lead.toNat) (y := putE h.Group r y) (d := ⟨keptB (y.Log ++ [⟨h.Group.Term, r⟩]), []⟩) (T := h.Group.Term) (L := h.Group.Lead) hlt ⟨Int.le_refl _, hT.2⟩ (okRep_iff.2 ⟨hnew, hlog.2.1, by
      show y.Sure <= ((y.Log ++ [_]).length : Int)
      rw [laT]
      have := hlog.2.2
      omega⟩) hkf (okLead_set og.lead hlt (fun _ _ => hu)) f.one (by
      have hi := f.inv
      rw [leadN_of h0] at hi ⊢
      refine (hi.put (e := ⟨h.Group.Term, r⟩) (D' := fun i => if i = h.Group.Lead.toNat then y.Log ++ [⟨h.Group.Term, r⟩] else sysD h.Disks i) (by omega) rfl (by rw [if_pos rfl, sysD_of hd, (hfit.up hu).1]) (fun i e => by rw [if_neg e])).congr (fun i _ => ?_) (fun i _ => ?_)
      · by_cases e : i = h.Group.Lead.toNat
        · rw [if_pos e, if_pos e, hko]
        · rw [if_neg e, if_neg e]
      · by_cases e : i = h.Group.Lead.toNat
        · rw [if_pos e, e, sysS_of hy]; rfl
        · rw [if_neg e])
  have e : putR h.Group r = ⟨h.Group.Reps.set h.Group.Lead.toNat (putE h.Group r y), h.Group.Term, h.Group.Lead⟩ := by
    unfold putR
    rw [resG_yes ho]; unfold putN; rw [setRep_of hy]
  have e2 : logOf (⟨h.Group.Reps.set h.Group.Lead.toNat (putE h.Group r y), h.Group.Term, h.Group.Lead⟩ : GroupT) h.Group.Lead = y.Log ++ [⟨h.Group.Term, r⟩] :=
    logOf_of (y := putE h.Group r y) (by show (h.Group.Reps.set _ _)[_]? = _; rw [set_at hlt, if_pos rfl])
  rw [e]
  unfold putH
  rw [show (⟨h.Group.Reps.set h.Group.Lead.toNat (putE h.Group r y), h.Group.Term, h.Group.Lead⟩ : GroupT).Lead = h.Group.Lead from rfl, e2]
  exact key
theorem mn_mx {a b c : Int} : mn (mx a b) c <= max a b /\ mn (mx a b) c <= c /\ (0 <= a -> 0 <= b -> 0 <= c -> 0 <= mn (mx a b) c) := by
  unfold mn mx
  refine ⟨?_, ?_, ?_⟩ <;> (repeat' split) <;> omega
theorem Fine.copy (f : Fine h) {r : Int} (ho : okCopy h.Group r = true) : Fine (copyH h (copyR h.Group r) r) := by
  have ho' := ho
  unfold okCopy at ho
  simp only [baT, Bool.not_eq_true', decide_eq_false_iff_not] at ho
  obtain ⟨hup, hL, hrl⟩ := ho
  have h0 : 0 <= h.Group.Lead := by omega
  obtain ⟨y, hy, hu, hr0, hlt⟩ := okUp_of hup
  have og := okG_iff.1 f.oh.g
  obtain ⟨l, hl, hlu, hllt⟩ := lead_of og.lead h0
  obtain ⟨l', dl, hl', hdl⟩ := f.disk hllt
  rw [hl] at hl'; cases hl'
  have hlfit := f.fit hl hdl
  have hT := og.term
  have hlog := okRep_iff.1 (og.rep y (mgE hy))
  have hllog := okRep_iff.1 (og.rep l (mgE hl))
  have hcf : copyF h.Group y = ⟨true, l.Log, mn (mx l.Sure y.Sure) (l.Log.length : Int)⟩ := by unfold copyF; rw [logOf_of hl, sureOf_of hl]
  obtain ⟨m1, m2, m3⟩ := mn_mx (a := l.Sure) (b := y.Sure) (c := (l.Log.length : Int))
  have m4 := m3 hllog.2.1 hlog.2.1 (Int.natCast_nonneg _)
  obtain ⟨hkf, hko⟩ := kept_fit (u := h.Group.Term) (x := copyF h.Group y) hllog.1 hT.2 (by rw [hcf])
  have key := f.set (k := r.toNat) (y := copyF h.Group y) (d := ⟨keptB l.Log, []⟩) (T := h.Group.Term) (L := h.Group.Lead) hlt ⟨Int.le_refl _, hT.2⟩ (okRep_iff.2 (by rw [hcf]; exact ⟨hllog.1, m4, m2⟩)) hkf (okLead_set og.lead hlt (fun _ _ => by rw [hcf])) f.one (by
      have hi := f.inv
      rw [leadN_of h0] at hi ⊢
      refine (hi.copy (r := r.toNat) (D' := fun i => if i = r.toNat then sysD h.Disks h.Group.Lead.toNat else sysD h.Disks i) (S' := fun i => if i = r.toNat then (copyF h.Group y).Sure.toNat else sysS h.Group.Reps i) hlt (by rw [if_pos rfl]) (fun i e => by rw [if_neg e]) (by
        rw [if_pos rfl, hcf, sysS_of hl, sysS_of hy, sysD_of hdl, (hlfit.up hlu).1]
        show (mn _ _).toNat <= _ /\ (mn _ _).toNat <= _
        omega) (fun i e => by rw [if_neg e])).congr (fun i _ => ?_) (fun i _ => ?_)
      · by_cases e : i = r.toNat
        · rw [if_pos e, if_pos e, hko, sysD_of hdl, (hlfit.up hlu).1]
        · rw [if_neg e, if_neg e]
      · rfl)
  have e : copyR h.Group r = ⟨h.Group.Reps.set r.toNat (copyF h.Group y), h.Group.Term, h.Group.Lead⟩ := by rw [copyR_yes ho', setRep_of hy]
  have e2 : logOf (⟨h.Group.Reps.set r.toNat (copyF h.Group y), h.Group.Term, h.Group.Lead⟩ : GroupT) r = l.Log := by
    rw [logOf_of (y := copyF h.Group y) (by show (h.Group.Reps.set _ _)[_]? = _; rw [set_at hlt, if_pos rfl]), hcf]
  rw [e]
  unfold copyH
  rw [e2]
  exact key
theorem adv_spec {g : GroupT} {l : ReplicaT} (h0 : 0 <= l.Sure) : ∀ m : Nat, l.Sure <= (m : Int) -> adv g l m = l.Sure \/ ∃ k : Nat, k < m /\ adv g l m = ((k + 1 : Nat) : Int) /\ hit g l (k + 1) = true /\ l.Sure < ((k + 1 : Nat) : Int)
  | 0, h => .inl rfl
  | m + 1, h => by
    unfold adv
    by_cases h1 : ((m + 1 : Nat) : Int) > l.Sure
    · rw [if_pos h1]
      by_cases h2 : hit g l (m + 1) = true
      · rw [if_pos h2]; exact .inr ⟨m, by omega, rfl, h2, h1⟩
      · rw [if_neg h2]
        rcases adv_spec h0 m (by omega) with e | ⟨k, hk, e⟩
        · exact .inl e
        · exact .inr ⟨k, by omega, e⟩
    · rw [if_neg h1]; exact .inl rfl
theorem Fine.adv (f : Fine h) (ho : okAdv h.Group = true) : Fine ⟨advR h.Group, h.Disks⟩ := by
  have ho' := ho
  unfold okAdv at ho
  simp only [baT, Bool.not_eq_true', decide_eq_false_iff_not] at ho
  have h0 : 0 <= h.Group.Lead := by omega
  have og := okG_iff.1 f.oh.g
  obtain ⟨l, hl, hlu, hlt⟩ := lead_of og.lead h0
  obtain ⟨l', d, hl', hd⟩ := f.disk hlt
  rw [hl] at hl'; cases hl'
  have hfit := f.fit hl hd
  have hT := og.term
  have hlog := okRep_iff.1 (og.rep l (mgE hl))
  have hdl := (hfit.up hlu).1
  have hspec := adv_spec (g := h.Group) hlog.2.1 l.Log.length hlog.2.2
  rw [<- advS_of hl] at hspec
  have hrange : 0 <= advS h.Group /\ advS h.Group <= (l.Log.length : Int) := by
    have := hlog.2
    rcases hspec with e | ⟨k, hk, e, _⟩ <;> rw [e] <;> omega
  have key := f.set (k := h.Group.Lead.toNat) (y := { l with Sure := advS h.Group }) (d := d) (T := h.Group.Term) (L := h.Group.Lead) hlt ⟨Int.le_refl _, hT.2⟩ (okRep_iff.2 ⟨hlog.1, hrange⟩) ⟨hfit.mend, hfit.all, hfit.pre, hfit.up, hfit.down⟩ (okLead_set og.lead hlt (fun _ _ => hlu)) f.one (by
      have hi := f.inv
      rw [leadN_of h0] at hi ⊢
      have hdd : ∀ i, (if i = h.Group.Lead.toNat then onK d else sysD h.Disks i) = sysD h.Disks i := fun i => by
        by_cases e : i = h.Group.Lead.toNat
        · rw [if_pos e, e, sysD_of hd]
        · rw [if_neg e]
      rcases hspec with e | ⟨k, hk, e, hhit, hgt⟩
      · refine hi.congr (fun i _ => hdd i) (fun i _ => ?_)
        by_cases e2 : i = h.Group.Lead.toNat
        · rw [if_pos e2, e2, sysS_of hl]
          show (advS h.Group).toNat = _
          rw [e]
        · rw [if_neg e2]
      · unfold hit at hhit
        rw [baT, decide_eq_true_eq] at hhit
        have hx := List.getElem?_eq_getElem hk
        rw [show k + 1 - 1 = k by omega, termAt_of hx] at hhit
        refine (hi.adv (m := k) (e := l.Log[k]) (S' := fun i => if i = h.Group.Lead.toNat then (advS h.Group).toNat else sysS h.Group.Reps i) (by rw [sysD_of hd, hdl]; exact hk) (by rw [sysD_of hd, hdl]; exact hx) hhit.1 ?_ (by rw [if_pos rfl, e]; omega) (fun i e2 => by rw [if_neg e2])).congr (fun i _ => hdd i) (fun i _ => rfl)
        refine Go.Safe.maj_of (most_range hhit.2) (fun i hi2 hp => ?_)
        obtain ⟨x, dx, hx2, hdx⟩ := f.disk hi2
        simp only [hx2] at hp
        rw [sysD_of hd, hdl, sysD_of hdx]
        exact (preE_iff.1 hp).trans (f.fit hx2 hdx).pre)
  rw [set_same hd] at key
  rw [advR_yes ho', setRep_of hl]
  exact key
end
section
variable {h : HouseT}
theorem lastE_le {l : List EntryT} {t : Int} (hl : LogOk l t) (ht : 0 <= t) : lastE l <= t := by
  unfold lastE
  cases hg : l.getLast? with
  | none => exact ht
  | some e => exact (hl.ent e (List.mem_of_getLast? hg)).2.2
theorem lastE_snoc {l : List EntryT} {e : EntryT} : lastE (l ++ [e]) = e.Term := by
  unfold lastE
  rw [List.getLast?_concat]
theorem torn_frames {b s X : List UInt8} {k : Nat} {torn : Bool} (hb : (frames b 0).2 = b.length) (hs : s.length <= 700) (hk : k <= (frB s).length) :
    (k = (frB s).length /\ torn = false -> frames (b ++ tornB (frB s) k torn) 0 = ((frames b 0).1 ++ [s], (b ++ tornB (frB s) k torn).length)) /\ (¬ (k = (frB s).length /\ torn = false) -> frames (b ++ tornB (frB s) k torn) 0 = ((frames b 0).1, b.length)) := by
  obtain ⟨h1, h2, h3⟩ := frames_back0 b
  rw [hb, List.take_length] at h1
  generalize hl : (frames b 0).1 = l at h1 h3 ⊢
  refine ⟨fun ⟨e1, e2⟩ => ?_, fun hn => ?_⟩
  · rw [e1, e2, tornB_all]
    have : b ++ frB s = ((l ++ [s]).map frB).flatten := by
      rw [List.map_append, List.flatten_append, h1]; simp
    rw [this]
    refine frames_all fun x hx => ?_
    rcases List.mem_append.1 hx with hx | hx
    · exact h3 x hx
    · rw [List.mem_singleton.1 hx]; exact hs
  · have hno := torn_no (A := b) (torn := torn) hs hk (by
      rcases Nat.lt_or_ge k (frB s).length with h4 | h4
      · exact .inl h4
      · refine .inr ?_
        cases torn with
        | true => rfl
        | false => exact absurd ⟨by omega, rfl⟩ hn)
    have hc := frames_cat l [] (tornB (frB s) k torn) h3
    rw [List.nil_append, h1, List.length_nil, Nat.zero_add, frames_no hno] at hc
    exact Prod.ext (by rw [hc.1, List.append_nil]) hc.2
theorem Fine.tear (f : Fine h) {r : RecT} {k : Int} {torn : Bool} (ho : okTearI h r k = true) : Fine (tearI h r k torn) := by
  have ho' := ho
  unfold okTearI at ho
  rw [baT] at ho
  obtain ⟨hp, hk⟩ := ho
  have hk := inB_le' hk
  obtain ⟨hg, h0, hlen, hr⟩ := put_group hp
  have og := okG_iff.1 f.oh.g
  obtain ⟨y, hy, hu, hlt⟩ := lead_of og.lead h0
  obtain ⟨y', d, hy', hd⟩ := f.disk hlt
  rw [hy] at hy'; cases hy'
  have hfit := f.fit hy hd
  have hT := og.term
  have h1 := f.one h0
  have hlog := okRep_iff.1 (og.rep y (mgE hy))
  obtain ⟨hon, hend⟩ := hfit.up hu
  have hge : goodE (newE h.Group r) := ⟨hr, h1, hT.2⟩
  have h7 := entB_700 hge
  have hout := outE_at (e := newE h.Group r) hr h1 hT.2
  have hfb := frB_700 h7
  have hkn : k.toNat <= (frB (entB (newE h.Group r))).length := by
    have : tearB h r = frB (entB (newE h.Group r)) := rfl
    rw [this] at hk
    omega
  obtain ⟨fa, fb⟩ := torn_frames (X := []) (torn := torn) hend h7 hkn
  have hkl := (kept_len hend).2
  rw [hon] at hkl
  have hll := hlog.1.len
  have htl := tornB_len (torn := torn) hkn
  have hm := mendB_of hfit.mend
  have htd : tearD h r k torn = ⟨d.Kept ++ tornB (frB (entB (newE h.Group r))) k.toNat torn, []⟩ := by unfold tearD; rw [dskOf_of hd]; rfl
  have hmend : mendB (tearD h r k torn) = true := by
    rw [htd]
    unfold mendB okDsk
    simp only [baT, decide_eq_true_eq, List.length_nil, laT, htl]
    exact ⟨by omega, trivial⟩
  have hup : okUp h.Group h.Group.Lead true = true := by
    obtain ⟨a, b⟩ := upI' h0 hy hu
    unfold okUp
    rw [hg, a, b]; rfl
  have hcr : crashR h.Group h.Group.Lead = ⟨h.Group.Reps.set h.Group.Lead.toNat { y with Up := false }, h.Group.Term, -1⟩ := by
    rw [crashR, resG_yes hup]; unfold crashN; rw [setRep_of hy, if_pos rfl]
  have hll2 : y.Log.length < 60 := by
    unfold lenLead at hlen
    rw [hy] at hlen; exact hlen
  have hi := f.inv
  rw [leadN_of h0] at hi
  have fin : ∀ (hF : Fit h.Group.Term { y with Up := false } (tearD h r k torn)) (hI : Go.Safe.Inv EntryT.Term h.Group.Reps.length (fun i => if i = h.Group.Lead.toNat then onK (tearD h r k torn) else sysD h.Disks i) (fun i => if i = h.Group.Lead.toNat then y.Sure.toNat else sysS h.Group.Reps i) h.Group.Term none), Fine (tearI h r k torn) := fun hF hI => by
    have key := f.set (k := h.Group.Lead.toNat) (y := { y with Up := false }) (d := tearD h r k torn) (T := h.Group.Term) (L := -1) hlt ⟨Int.le_refl _, hT.2⟩ (okRep_iff.2 hlog) hF (by unfold okLead; simp) (fun e => by omega) (by rw [leadN_no (by decide)]; exact hI)
    unfold tearI
    rw [resH_yes ho']
    unfold tearH
    rw [hcr]
    exact key
  by_cases hc : k.toNat = (frB (entB (newE h.Group r))).length /\ torn = false
  · have hfr := fa hc
    have hon2 : onK (tearD h r k torn) = y.Log ++ [newE h.Group r] := by
      unfold onK
      rw [htd]
      show (frames (d.Kept ++ _) 0).1.map outE = _
      rw [hfr, List.map_append]
      show onK d ++ [outE _] = _
      rw [hon, hout.2]
    refine fin ⟨hmend, ?_, by rw [hon2]; exact List.prefix_append _ _, fun e => (by cases e), fun _ => .inr ⟨by rw [hon2, laT]; rfl, ?_, ?_⟩⟩ ?_
    · rw [htd]
      show (frames (d.Kept ++ _) 0).1.all okE = true
      rw [hfr, List.all_append, hfit.all]
      simp [hout.1]
    · rw [hon2, lastE_snoc]; exact lastE_le hlog.1 hT.1
    · rw [hon2, lastE_snoc]; exact Int.le_refl _
    · refine ((hi.put (e := newE h.Group r) (D' := fun i => if i = h.Group.Lead.toNat then y.Log ++ [newE h.Group r] else sysD h.Disks i) (by omega) rfl (by rw [if_pos rfl, sysD_of hd, hon]) (fun i e => by rw [if_neg e])).drop).congr (fun i _ => ?_) (fun i _ => ?_)
      · by_cases e : i = h.Group.Lead.toNat
        · rw [if_pos e, if_pos e, hon2]
        · rw [if_neg e, if_neg e]
      · by_cases e : i = h.Group.Lead.toNat
        · rw [if_pos e, e, sysS_of hy]
        · rw [if_neg e]
  · have hfr := fb hc
    have hon2 : onK (tearD h r k torn) = y.Log := by
      unfold onK
      rw [htd]
      show (frames (d.Kept ++ _) 0).1.map outE = _
      rw [hfr]
      exact hon
    refine fin ⟨hmend, ?_, by rw [hon2]; exact List.prefix_refl _, fun e => (by cases e), fun _ => .inl hon2⟩ ?_
    · rw [htd]
      show (frames (d.Kept ++ _) 0).1.all okE = true
      rw [hfr]; exact hfit.all
    · refine hi.drop.congr (fun i _ => ?_) (fun i _ => ?_)
      · by_cases e : i = h.Group.Lead.toNat
        · rw [if_pos e, hon2, e, sysD_of hd, hon]
        · rw [if_neg e]
      · by_cases e : i = h.Group.Lead.toNat
        · rw [if_pos e, e, sysS_of hy]
        · rw [if_neg e]
theorem Fine.act (f : Fine h) {a : GroupActT} (ho : okActI h a = true) : Fine (actI h a) := by
  have ho' := ho
  unfold okActI at ho
  rw [baT] at ho
  obtain ⟨h1, h2⟩ := ho
  unfold actI
  rw [resH_yes ho']
  unfold actH
  by_cases k4 : a.Kind = 4
  · rw [if_pos k4, (act4 k4).1]
    exact f.put (by rw [<- (act4 k4).2]; exact h1)
  rw [if_neg k4]
  by_cases k5 : a.Kind = 5
  · rw [if_pos k5, (act5 k5).1]
    exact f.copy (by rw [<- (act5 k5).2]; exact h1)
  rw [if_neg k5]
  by_cases k2 : a.Kind = 2
  · rw [if_pos k2, (act2 k2).1]
    have h3 : okUp h.Group a.Rep false = true := by rw [<- (act2 k2).2]; exact h1
    refine f.start h3 ?_
    unfold okBack at h2
    rw [k2, (act2 k2).1, startR, resG_yes h3] at h2
    simpa using h2
  rw [if_neg k2]
  by_cases k1 : a.Kind = 1
  · rw [(act1 k1).1]; exact f.crash (by rw [<- (act1 k1).2]; exact h1)
  by_cases k3 : a.Kind = 3
  · rw [(act3 k3).1]; exact f.elect (by rw [<- (act3 k3).2]; exact h1)
  by_cases k6 : a.Kind = 6
  · rw [(act6 k6).1]; exact f.adv (by rw [<- (act6 k6).2]; exact h1)
  rw [(act0 k1 k2 k3 k4 k5 k6).2] at h1
  cases h1
theorem Fine.agree (f : Fine h) {i k m : Nat} {x y : ReplicaT} (hx : h.Group.Reps[i]? = some x) (hy : h.Group.Reps[k]? = some y) (h1 : (m : Int) <= x.Sure) (h2 : (m : Int) <= y.Sure) : x.Log.take m = y.Log.take m /\ m <= x.Log.length /\ m <= y.Log.length := by
  have hi := (List.getElem?_eq_some_iff.1 hx).1
  have hk := (List.getElem?_eq_some_iff.1 hy).1
  obtain ⟨_, dx, hx', hdx⟩ := f.disk hi
  rw [hx] at hx'; cases hx'
  obtain ⟨_, dy, hy', hdy⟩ := f.disk hk
  rw [hy] at hy'; cases hy'
  have lx := (f.log hx).2
  have ly := (f.log hy).2
  have := f.inv.safe hi hk (m := m) (by rw [sysS_of hx]; omega) (by rw [sysS_of hy]; omega)
  rw [sysD_of hdx, sysD_of hdy] at this
  rw [Go.Safe.take_pre (f.fit hx hdx).pre (by omega), Go.Safe.take_pre (f.fit hy hdy).pre (by omega)]
  exact ⟨this, by omega, by omega⟩
theorem Fine.led (f : Fine h) {i : Nat} {x l : ReplicaT} (h0 : 0 <= h.Group.Lead) (hx : h.Group.Reps[i]? = some x) (hl : h.Group.Reps[h.Group.Lead.toNat]? = some l) : x.Log.take x.Sure.toNat <+: l.Log := by
  have hi := (List.getElem?_eq_some_iff.1 hx).1
  have hk := (List.getElem?_eq_some_iff.1 hl).1
  obtain ⟨_, dx, hx', hdx⟩ := f.disk hi
  rw [hx] at hx'; cases hx'
  obtain ⟨_, dl, hl', hdl⟩ := f.disk hk
  rw [hl] at hl'; cases hl'
  obtain ⟨l2, hl2, hlu, _⟩ := lead_of (okG_iff.1 f.oh.g).lead h0
  rw [hl] at hl2; cases hl2
  have lx := (f.log hx).2
  have hi2 := f.inv
  rw [leadN_of h0] at hi2
  have := hi2.led hi
  rw [sysD_of hdx, sysD_of hdl, ((f.fit hl hdl).up hlu).1, sysS_of hx] at this
  rw [Go.Safe.take_pre (f.fit hx hdx).pre (by omega)]
  exact this
end
def sureL (x : ReplicaT) : List EntryT := x.Log.take x.Sure.toNat
def pairS (x y : ReplicaT) : Bool := preE (sureL x) (sureL y) || preE (sureL y) (sureL x)
def ledS (g : GroupT) (x : ReplicaT) : Bool := !decide (0 <= g.Lead) || preE (logOf g g.Lead) (sureL x)
def safeB (g : GroupT) : Bool := okGroup g && g.Reps.all fun x => g.Reps.all (pairS x) && ledS g x
end Go.Proofs.YtjjjalcmcifncaaGreat
