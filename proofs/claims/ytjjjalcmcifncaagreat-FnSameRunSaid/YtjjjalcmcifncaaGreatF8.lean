/- Part 8 of one proof: lemmas and contracts, laid one behind the other. No condition. -/
import Derived.Test.YtjjjalcmcifncaaGreatF7
namespace Go.Proofs.YtjjjalcmcifncaaGreat
open Go.Ab
set_option linter.unusedSimpArgs false
set_option maxRecDepth 20000
set_option maxHeartbeats 40000000
set_option linter.unusedVariables false
end Go.Proofs.YtjjjalcmcifncaaGreat
set_option maxHeartbeats 40000000
set_option linter.unusedVariables false
namespace Go.Ab
theorem Loop_at2 {body : (Exit -> St -> Prop) -> St -> Prop} {K : Exit -> St -> Prop} {s : St} (z n : Nat) (g : List AV) (el : List (Nat × AV)) (ol : List (Nat × AObj)) (J : Type) (p : J -> Prop) (mods : J -> List (Nat × AV)) (omods : J -> List (Nat × AObj)) (m : J -> Nat) (j0 : J)
    (hz : s.sz = z) (hn : s.nxt = n) (hg : s.gh = g) (he : EnvAll s el) (ho : ObjAll s ol) (h0 : EnvAll s (mods j0)) (h1 : ObjAll s (omods j0)) (h2 : p j0) (hcl : ∀ j, headOk mods omods el ol g j = true)
    (h : ∀ j, p j -> body (fun ex s' => match ex with
        | .normal => Again p mods omods m j el ol z n g s'
        | ex => K ex s') ⟨envOf (mods j ++ el), z, objsOf (omods j ++ ol), n, g⟩) : Loop body K s := by
  subst hz hn hg
  refine Loop_intro {j : J // p j} (fun j => headS mods omods el ol s.sz s.nxt s.gh j.1) (fun j => m j.1) ⟨j0, h2⟩ (St.le_list (s := s) (h0.append he) (h1.append ho) (hcl j0)) fun j => ?_
  have hb := h j.1 j.2
  have e0 : (fun (ex : Exit) (s' : St) => match ex with
    | .normal => ∃ j' : {j : J // p j}, m j'.1 < m j.1 /\ s'.le (headS mods omods el ol s.sz s.nxt s.gh j'.1)
    | ex => K ex s') = (fun ex s' => match ex with
        | .normal => Again p mods omods m j.1 el ol s.sz s.nxt s.gh s'
        | ex => K ex s') := by
    funext ex s'
    cases ex
    case normal => exact propext ⟨fun h => by unfold Again; exact fun _ => h, fun h => by unfold Again at h; exact h hcl⟩
    all_goals rfl
  show body (fun (ex : Exit) (s' : St) => match ex with
    | .normal => ∃ j' : {j : J // p j}, m j'.1 < m j.1 /\ s'.le (headS mods omods el ol s.sz s.nxt s.gh j'.1)
    | ex => K ex s') _
  rw [e0]
  exact hb
theorem share {A B : Type} {R Q : A -> B -> Prop} {C : Prop} (k : (∀ x y, R x y -> Q x y) -> C) (h : ∀ x y, R x y -> Q x y) : C := k h
end Go.Ab
namespace Go.Proofs.YtjjjalcmcifncaaGreat
open Go.Ab
set_option linter.unusedSimpArgs false
set_option maxRecDepth 20000
set_option maxHeartbeats 40000000
set_option linter.unusedVariables false
theorem act_ex (code : List Int) (i : Nat) (hu : okL okU code) (hi : i <= 40) (hc : code.length <= 65536) : ∃ a : HouseActT, NilR a.Rec /\ 0 <= a.Keep /\ PC Tryz.prog false 8 [.sl (code.map u8C), .int .i64 ((4 * i + 1 : Nat) : Int), .int .i64 (manyN code)] (.agg (actC a)) [] := by
  refine ⟨actV code (4 * i + 1) (manyN code), actV_nil, ?_, c_laws_vHouseAct code (4 * i + 1) (manyN code) (manyI_or code) hu (by omega) hc⟩
  unfold actV
  split
  · exact (tmod_in (vA_in hu).1 (by decide)).1
  · exact Int.le_refl _
theorem play_ex {H : HouseT} (a : HouseActT) (f : Fine H) (n : NilR a.Rec) : ∃ X : HouseT, X = playH H [a] /\ Fine X /\ PC Tryz.prog false 9 [.agg H.cells, .sl [actC a]] (.tup [.agg [.own 0, .int .i64 X.Group.Term, .int .i64 X.Group.Lead, .own 1], .bool true]) [⟨.deep ReplicaT.shp, 60, 3, X.Group.Reps.map ReplicaT.cells⟩, ⟨.deep DiskT.shp, 67, 2, X.Disks.map DiskT.cells⟩] /\ PC Tryz.prog true 10 [.agg H.cells, .sl [actC a]] (.tup [.agg X.cells, .bool true]) [] :=
  ⟨_, rfl, f.play, c_impl_PlayOne H a f n, c_spec_PlayOne H a f n⟩
theorem grp_ex {H X : HouseT} {g : GroupT} {a : HouseActT} {acts : List GroupActT} (al : Alike H g) (f : Fine H) (q : Alike (playH H [a]) (playG g acts)) (hX : X = playH H [a]) (nn : ∀ a ∈ acts, NilR a.Rec) (hl : acts.length <= 200) : ∃ G : GroupT, Alike X G /\ X.Group.Term = G.Term /\ X.Group.Lead = G.Lead /\ X.Group.Reps.length = G.Reps.length /\ G.Reps.length <= 5 /\ PC Tryz.prog false 18 [.agg g.cells, .sl (acts.map gaC)] (.tup [.agg [.own 0, .int .i64 G.Term, .int .i64 G.Lead], .bool true]) [⟨.deep ReplicaT.shp, 60, 3, G.Reps.map ReplicaT.cells⟩] /\ PC Tryz.prog true 19 [.agg g.cells, .sl (acts.map gaC)] (.tup [.agg G.cells, .bool true]) [] := by
  subst hX
  exact ⟨_, q, q.term.symm, q.lead.symm, q.len.symm, okG_len (q.og f.play), c_impl_PlayG g acts (al.og f) nn hl, c_spec_PlayG g acts (al.og f) nn hl⟩
theorem grp_ex0 {H X : HouseT} {g : GroupT} {a : HouseActT} (al : Alike H g) (f : Fine H) (q : Alike (playH H [a]) (playG g [])) (hX : X = playH H [a]) : ∃ G : GroupT, Alike X G /\ X.Group.Term = G.Term /\ X.Group.Lead = G.Lead /\ X.Group.Reps.length = G.Reps.length /\ G.Reps.length <= 5 /\ PC Tryz.prog false 18 [.agg g.cells, .nil] (.tup [.agg [.own 0, .int .i64 G.Term, .int .i64 G.Lead], .bool true]) [⟨.deep ReplicaT.shp, 60, 3, G.Reps.map ReplicaT.cells⟩] /\ PC Tryz.prog true 19 [.agg g.cells, .nil] (.tup [.agg G.cells, .bool true]) [] := by
  subst hX
  exact ⟨_, q, q.term.symm, q.lead.symm, q.len.symm, okG_len (q.og f.play), c_impl_PlayG0 g (al.og f), c_spec_PlayG0 g (al.og f)⟩
theorem nn1 {a : HouseActT} (n : NilR a.Rec) : ∀ b ∈ [gaOf a], NilR b.Rec := fun b hb => by rw [List.mem_singleton.1 hb]; exact n
theorem nnc {g : GroupT} : ∀ b ∈ [caG g], NilR b.Rec := fun b hb => by rw [List.mem_singleton.1 hb]; exact ⟨rfl, rfl⟩
theorem nnp {g : GroupT} {r : RecT} (n : NilR r) : ∀ b ∈ [paG r, caG g], NilR b.Rec := fun b hb => by
  rcases List.mem_cons.1 hb with e | hb
  · rw [e]; exact n
  · exact nnc b hb
theorem group_ok {X : HouseT} {G : GroupT} (al : Alike X G) (f : Fine X) : G.ok /\ ∀ x ∈ G.Reps, x.Log.length <= 1048576 := by
  obtain ⟨g1, g2, g3⟩ := okG_small (al.og f)
  exact ⟨g1, fun x hx => Nat.le_trans (wL_len (w := EntryT.w)) (Nat.le_trans (g3 x hx) (by decide))⟩
theorem c_vGroup_of {X : HouseT} {G : GroupT} (al : Alike X G) (f : Fine X) : PC Tryz.prog false 20 [.agg G.cells, .agg G.cells] (.bool true) [] := c_laws_vGroup G (group_ok al f).1 (group_ok al f).2
theorem c_vHouse_of {X : HouseT} (f : Fine X) : PC Tryz.prog false 11 [.agg X.cells, .agg X.cells] (.bool true) [] := c_laws_vHouse X f.small.1 (fine_logs f)
theorem c_vLog_of {X : HouseT} {x : ReplicaT} {l : List EntryT} (f : Fine X) (hx : x ∈ X.Group.Reps) (hl : l.length <= 1048576) : PC Tryz.prog false 21 [.sl (x.Log.map EntryT.cells), .sl (l.map EntryT.cells)] (.bool (decide (x.Log = l))) [] := c_laws_vLog x.Log l (f.small.1.1.1.2 x hx).2.1 hl
theorem c_vBegins_of {G : GroupT} {y : ReplicaT} {l : List EntryT} (g : G.ok) (hy : y ∈ G.Reps) (hl : l.length <= 1048576) : PC Tryz.prog false 22 [.sl (y.Log.map EntryT.cells), .sl (l.map EntryT.cells)] (.bool (preE y.Log l)) [] := c_laws_vBegins y.Log l (g.1.2 y hy).2.1 hl
theorem four0_eq {i : Nat} (h : i <= 40) : IntKind.i64.wrap (4 * (i : Int)) = ((4 * i : Nat) : Int) := by
  rw [i64_wrap (by omega) (by omega)]; omega
theorem alike_upY {H : HouseT} {g : GroupT} {k : Nat} {x y : ReplicaT} (al : Alike H g) (f : Fine H) (hx : H.Group.Reps[k]? = some x) (hy : g.Reps[k]? = some y) (u : x.Up = true) : y.Up = true := (alike_two al f hx hy).1.trans u
theorem alike_upF {H : HouseT} {g : GroupT} {k : Nat} {x y : ReplicaT} (al : Alike H g) (f : Fine H) (hx : H.Group.Reps[k]? = some x) (hy : g.Reps[k]? = some y) (u : x.Up = false) : y.Up = false := (alike_two al f hx hy).1.trans u
theorem ne_I {a b : Int} (e : a = b) : (a != b) = false := by rw [e]; simp
theorem ne_L {xs ys : List ReplicaT} (e : xs.length = ys.length) : ((((xs.map ReplicaT.cells).length : Nat) : Int) != (((ys.map ReplicaT.cells).length : Nat) : Int)) = false := ne_I (by rw [List.length_map, List.length_map, e])
theorem c_laws_FnSameRun (code : List Int) (hu : okL okU code) : PC Tryz.prog false 4 [.sl (code.map u8C)] (.bool true) [] := by
  refine pc_at Tryz.func4 rfl (by kernel_rfl) 252 [.tmp 2] rfl rfl ?_
  repeat' (conv => whnf); first
    | (show Go.Ab.drawA _ _ _ _ _; refine draw_exp (.take 0 (.take 1 (.take 3 (.take 6 (.take 8 (.late 13 [7, 9, 10] [2, 4, 5, 11, 12] (.lend 7 (.lend 9 (.lend 10 (.lstop (.fork 13 (.fork 14 (.done) (.stop)) (.stop))) (.lstop (.fork 10 (.fork 13 (.fork 14 (.done) (.stop)) (.stop)) (.fork 13 (.fork 10 (.fork 14 (.done) (.stop)) (.stop)) (.stop))))) (.lwait (.lstop (.fork 9 (.fork 10 (.fork 13 (.fork 14 (.done) (.stop)) (.stop)) (.fork 13 (.fork 10 (.fork 14 (.done) (.stop)) (.stop)) (.stop))) (.fork 13 (.fork 9 (.fork 10 (.fork 14 (.done) (.stop)) (.stop)) (.stop)) (.stop)))))) (.lwait (.lwait (.lstop (.fork 7 (.fork 9 (.fork 10 (.fork 13 (.fork 14 (.done) (.stop)) (.stop)) (.fork 13 (.fork 10 (.fork 14 (.done) (.stop)) (.stop)) (.stop))) (.fork 13 (.fork 9 (.fork 10 (.fork 14 (.done) (.stop)) (.stop)) (.stop)) (.stop))) (.fork 13 (.fork 7 (.fork 9 (.fork 10 (.fork 14 (.done) (.stop)) (.stop)) (.stop)) (.stop)) (.stop))))))))))))) (by kernel_rfl) (by kernel_rfl) (by kernel_rfl) ?_)
    | (show Go.Ab.Loop _ _ _; have hnx := nx; refine Loop_frz [65584, 65585, 114720] ?_; refine Loop_at2 252 0 [] [(0, .sl (code.map u8C)), (3, .int .i64 (IntKind.i64.wrap (3 + IntKind.i64.wrap (2 * (vA code 0).tmod 2)))), (4, .ptr 16464 0 0), (6, .ptr 20560 0 0), (8, .int .i64 (i : Nat))] [(16464, ⟨true, 30, 4, [X.cells]⟩), (20560, ⟨true, 27, 3, [G.cells]⟩)] Nat (fun k => k <= G.Reps.length) (fun k => [(25, .int .i64 (k : Nat))]) (fun k => []) (fun k => G.Reps.length - k) 0 (by kernel_rfl) (by kernel_rfl) (by kernel_rfl) ⟨by kernel_rfl, by kernel_rfl, by kernel_rfl, by kernel_rfl, by kernel_rfl, trivial⟩ ⟨by kernel_rfl, by kernel_rfl, trivial⟩ ⟨by kernel_rfl, trivial⟩ trivial (Nat.zero_le _) (fun k => rfl) ?_; exact inner X G ⟨fx, nx, et, el, en, e5⟩)
    | (refine fun (X : HouseT) (G : GroupT) hr k hK => ?_; obtain ⟨fx, nx, et, el, en, e5⟩ := hr; try dsimp only at hK)
    | refine ix_as (f := ReplicaT.cells) (xs := X.Group.Reps) (m := k) rfl (by omega) (fun x hx => ?_)
    | refine ix_as (f := ReplicaT.cells) (xs := G.Reps) (m := k) rfl (by omega) (fun y hy => ?_)
    | refine nameB_no (ne_L en) ?_
    | refine nameB_no (ne_I et) ?_
    | refine nameB_no (ne_I el) ?_
    | refine nameB_dno (alike_sure nx fx hx hy) ?_
    | refine nameB_yes (b := decide (x.Log = y.Log)) (alike_log nx fx hx hy ‹_›) ?_
    | refine nameB_yes (b := preE y.Log x.Log) (alike_pre nx fx hx hy) ?_
    | refine nameB_yes (b := y.Up) (alike_upY nx fx hx hy ‹_›) ?_
    | refine nameB_no (b := y.Up) (alike_upF nx fx hx hy ‹_›) ?_
    | (refine nameB_cases (b := x.Up) (fun h => ?_) (fun h => ?_))
    | refine nameB_self (b := a.Torn) ?_
    | refine nameB_self (b := okEnt ⟨g.Term, a.Rec⟩) ?_
    | refine nameB_self (b := !decide (((entR ⟨g.Term, a.Rec⟩).length : Int) > 700)) ?_
    | (have hno := (by assumption : ¬ a.Kind = 7); refine nameB_self (b := okPut g a.Rec) ?_)
    | (refine nameB_cases (b := okPut g a.Rec) (fun h => ?_) (fun h => ?_))
    | refine nameB_dyes (Int.le_refl _) ?_
    | refine nameB_dyes rfl ?_
    | refine nameB_true ?_
    | refine nameB_false ?_
    | refine nameB_dyes ‹_› ?_
    | refine nameB_dno ‹_› ?_
    | (refine nameB_dec (fun h => ?_) (fun h => ?_) <;> try simp only [lensB] at h)
    | (refine nameB_cases (fun h => ?_) (fun h => ?_) <;> try simp only [nmL, lensB] at h)
    | refine splitB_true ?_
    | refine splitB_false ?_
    | refine both_intro ?_ ?_
    | exact True.intro
    | (show Go.Ab.Loop _ _ _; (refine Loop_frz [16400, 16401, 20496] ?_; refine Loop_at [0, 3, 4, 6] [] (Nat × HouseT × GroupT) (fun j => match j with | (i, H, g) => (Fine H /\ Alike H g) /\ i <= 30) (fun j => match j with | (i, H, g) => [(8, .int .i64 (i : Nat))]) (fun j => match j with | (i, H, g) => [(16464, ⟨true, 30, 4, [H.cells]⟩), (20560, ⟨true, 27, 3, [g.cells]⟩)]) (fun j => match j with | (i, H, g) => 30 - i) (0, newHouseN (manyN code), (newHouseN (manyN code)).Group) ⟨by first | rfl | rfl | fail, trivial⟩ ⟨by first | rfl | exact congrArg (fun e => some (AObj.mk _ _ _ e)) (set_rep hx) | exact congrArg (fun e => some (AObj.mk _ _ _ e)) start_rep | fail | fail, by first | rfl | exact congrArg (fun e => some (AObj.mk _ _ _ e)) (set_rep hx) | exact congrArg (fun e => some (AObj.mk _ _ _ e)) start_rep | fail | fail, trivial⟩ (by (try dsimp only); first | (exact ⟨⟨Fine.new (manyN_or code), alike_new (manyN_or code)⟩, Nat.zero_le _⟩) | fail) ?_; (conv => whnf); refine side_and (side_of (by first | exact fun ⟨i, H, g⟩ => rfl | exact fun ⟨i, H, g⟩ => by simp [headOk, closedE, closedO, closedL, AV.closed, hcap.closed, hasId, AObj.box, BK.ofB])) ?_; rintro ⟨i, H, g⟩ hI; try dsimp only at hI))
    | (show Go.Ab.Again _ _ _ _ _ _ _ _ _ _ _; first
        | refine Again_of (i + 1, X, G) ⟨by first | rfl | exact i64_next (by omega) | rfl | fail, trivial⟩ ⟨by first | rfl | exact congrArg (fun e => some (AObj.mk _ _ _ e)) (set_rep hx) | exact congrArg (fun e => some (AObj.mk _ _ _ e)) start_rep | fail | fail, by first | rfl | exact congrArg (fun e => some (AObj.mk _ _ _ e)) (set_rep hx) | exact congrArg (fun e => some (AObj.mk _ _ _ e)) start_rep | fail | fail, trivial⟩ (by first | (and_intros <;> first | rfl | trivial) | fail) (by first | (and_intros <;> first | rfl | trivial) | fail) rfl rfl rfl (by (try dsimp only); first | (exact ⟨⟨fx, nx⟩, by omega⟩) | fail) (show _ < _ by (try dsimp only); omega)
        | refine Again_of (k + 1) ⟨by first | rfl | exact i64_next (by omega) | rfl | fail, trivial⟩ trivial (by first | (and_intros <;> first | rfl | trivial) | fail) (by first | (and_intros <;> first | rfl | trivial) | fail) rfl rfl rfl (by (try dsimp only); first | ((show k + 1 <= _; omega)) | fail) (show _ < _ by (try dsimp only); omega))
    | (show Go.Ab.CallA _ _ _ _ _ _ _; first
        | refine Call0 (c_laws_vBig code) rfl rfl ?_
        | refine Call0 (c_laws_vAt code 0 hu (by omega) (by omega)) rfl rfl ?_
        | refine CallF (c_impl_NewHouse_n (manyN code) (manyN_or code)) (congrArg (fun x => [AV.int .i64 x]) (many_eq hu)) rfl rfl (nbT rfl) ?_
        | refine CallF (c_impl_NewGroup_D (manyN code) (manyN_or code)) (congrArg (fun x => [AV.int .i64 x]) (many_eq hu)) rfl rfl (nbT rfl) ?_
        | (obtain ⟨a, hn, hk, hc⟩ := act_ex code i hu (by omega) (by omega); apply share (R := fun (X : HouseT) (G : GroupT) => Fine X /\ Alike X G /\ X.Group.Term = G.Term /\ X.Group.Lead = G.Lead /\ X.Group.Reps.length = G.Reps.length /\ G.Reps.length <= 5); intro inner; refine Call0 hc (act_args hu (by omega)) rfl ?_)
        | refine Call0 (c_laws_vAt code (4 * i) hu (by omega) (by omega)) (congrArg (fun x => [AV.sl (code.map u8C), AV.int .i64 x]) (four0_eq (by omega))) rfl ?_
        | refine Call0 (c_spec_EntryBytesC g.Term a.Rec hn) rfl rfl ?_
        | refine Call0 (c_spec_FrameBytes (entR ⟨g.Term, a.Rec⟩)) rfl rfl ?_
        | (obtain ⟨X, hX, fx, c1, c2⟩ := play_ex a hI.1.1 hn; refine CallF c1 rfl rfl rfl (nbT rfl) ?_)
        | (obtain ⟨X, hX, fx, c1, c2⟩ := play_ex { a with Keep := (nF g a.Rec : Int) } hI.1.1 hn; refine CallF c1 rfl rfl rfl (nbT rfl) ?_)
        | refine Call0 (c_vHouse_of fx) rfl rfl ?_
        | refine CallF (c_spec_PutEntryC g a.Rec hn (hI.1.2.og hI.1.1)) rfl rfl rfl (nbT rfl) ?_
        | (obtain ⟨G, nx, et, el, en, e5, c3, c4⟩ := grp_ex hI.1.2 hI.1.1 (alike1 (a := a) hI.1.2 hI.1.1 hk ‹_›) hX (nn1 hn) (nbT rfl); refine CallF c3 rfl rfl rfl (nbT rfl) ?_)
        | (obtain ⟨G, nx, et, el, en, e5, c3, c4⟩ := grp_ex hI.1.2 hI.1.1 (alike2 (a := a) hI.1.2 hI.1.1 hk ‹_› ‹_› ‹_› ‹_›) hX (nnp hn) (nbT rfl); refine CallF c3 rfl rfl rfl (nbT rfl) ?_)
        | (obtain ⟨G, nx, et, el, en, e5, c3, c4⟩ := grp_ex hI.1.2 hI.1.1 (alike2 (a := { a with Keep := (nF g a.Rec : Int) }) hI.1.2 hI.1.1 (Int.natCast_nonneg _) ‹_› ‹_› rfl ‹_›) hX (nnp hn) (nbT rfl); refine CallF c3 rfl rfl rfl (nbT rfl) ?_)
        | (obtain ⟨G, nx, et, el, en, e5, c3, c4⟩ := grp_ex hI.1.2 hI.1.1 (alike3 (a := a) hI.1.2 hI.1.1 hk ‹_› ‹_› ‹_› (by first | exact .inl ‹_› | exact .inr ‹_›)) hX nnc (nbT rfl); refine CallF c3 rfl rfl rfl (nbT rfl) ?_)
        | (obtain ⟨G, nx, et, el, en, e5, c3, c4⟩ := grp_ex hI.1.2 hI.1.1 (alike3 (a := { a with Keep := (nF g a.Rec : Int) }) hI.1.2 hI.1.1 (Int.natCast_nonneg _) ‹_› ‹_› (Int.le_refl _) (.inr ‹_›)) hX nnc (nbT rfl); refine CallF c3 rfl rfl rfl (nbT rfl) ?_)
        | (obtain ⟨G, nx, et, el, en, e5, c3, c4⟩ := grp_ex0 hI.1.2 hI.1.1 (alike4 (a := a) hI.1.2 hI.1.1 hk ‹_› (by first | exact .inl ‹_› | exact .inr ‹_›)) hX; refine CallF c3 rfl rfl rfl (nbT rfl) ?_)
        | (obtain ⟨G, nx, et, el, en, e5, c3, c4⟩ := grp_ex0 hI.1.2 hI.1.1 (alike4 (a := { a with Keep := (nF g a.Rec : Int) }) hI.1.2 hI.1.1 (Int.natCast_nonneg _) ‹_› (.inl ‹_›)) hX; refine CallF c3 rfl rfl rfl (nbT rfl) ?_)
        | refine CallT (c4) rfl rfl rfl rfl (nbT rfl) ?_
        | refine Call0 (c_vGroup_of nx fx) rfl rfl ?_
        | refine Call0 (c_vLog_of fx (mgE hx) ((group_ok nx fx).2 y (mgE hy))) rfl rfl ?_
        | refine Call0 (c_vBegins_of (group_ok nx fx).1 (mgE hy) (fine_logs fx x (mgE hx))) rfl rfl ?_)
    | refine side_and (side_of (by first | (and_intros <;> first | exact nbT rfl | rfl | omega | (simp only [lensB, lensC]; omega) | exact bytes_ok (nbT rfl) (by omega) (by simp only [lensB, lensC]; omega) | exact bytes_okN (nbT rfl) (by simp only [lensB, lensC]; omega)) | fail)) ?_
    | refine LoadK_of rfl rfl ?_
    | (show Go.Ab.CallA _ _ [_, .own _] _ _ _ _; refine CallTo c2 rfl rfl rfl rfl ?_)
    | (show Go.Ab.CallA _ _ [_, .own _] _ _ _ _; refine CallTo c4 rfl rfl rfl rfl ?_)
  all_goals
    conv => whnf
    first
    | exact OutA_plain rfl rfl rfl
    | (exfalso; omega)
end Go.Proofs.YtjjjalcmcifncaaGreat
