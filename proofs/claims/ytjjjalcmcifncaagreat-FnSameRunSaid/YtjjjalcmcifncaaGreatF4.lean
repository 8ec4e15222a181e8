/- Part 4 of one proof: lemmas and contracts, laid one behind the other. No condition. -/
import Derived.Test.YtjjjalcmcifncaaGreatF3
import Derived.Test.YtjjjalcmcifncaaGreatM4
import Derived.Test.YtjjjalcmcifncaaGreatF1
import Derived.Test.YtjjjalcmcifncaaGreatF2
namespace Go.Proofs.YtjjjalcmcifncaaGreat
open Go.Ab
set_option linter.unusedSimpArgs false
set_option maxRecDepth 20000
set_option maxHeartbeats 4000000
set_option linter.unusedVariables false
def frQ (b : List UInt8) (a : Nat) : Nat := match frOk b a with | true => frE b a | false => 0
def frT (b : List UInt8) (a : Nat) : Int := match frOk b a with | true => (frE b a : Int) | false => -1
theorem fr_no {b : List UInt8} {a : Nat} (h : frOk b a = false) : frR b a = [] /\ frQ b a = 0 /\ frT b a = -1 := by unfold frR frQ frT; rw [h]; exact ⟨rfl, rfl, rfl⟩
theorem fr_yes {b : List UInt8} {a : Nat} (h : frOk b a = true) : frR b a = frS b a /\ frQ b a = frE b a /\ frT b a = (frE b a : Int) := by unfold frR frQ frT; rw [h]; exact ⟨rfl, rfl, rfl⟩
theorem fY_len {b : List UInt8} {a : Nat} (ha : a <= b.length) : (fY b a).1.length <= 1000000000 := by
  have h1 := takeF_len (b := b) (a := (fX b a).2.1) (f := (fX b a).2.2) (fX_ok ha).nn
  have h2 := (fX_ok ha).le
  have h3 : ((fY b a).1.length : Int) <= (fX b a).1 := h1
  omega
theorem fr_side {b : List UInt8} {a : Nat} (ha : a <= b.length) : (takeF b (fX b a).2.1 (fX b a).2.2 (fX b a).1).1.length + (takeF b (fY b a).2.1 (fY b a).2.2 3).1.length <= 4611686018427387904 := by
  have h1 : (takeF b (fX b a).2.1 (fX b a).2.2 (fX b a).1).1.length <= 1000000000 := fY_len ha
  have h2 := takeF_len (b := b) (a := (fY b a).2.1) (f := (fY b a).2.2) (n := 3) (by omega)
  omega
theorem fr_bad {b : List UInt8} {a : Nat} (ha : a <= b.length) (h : (numFI b a false).1 > 700 \/ (fZ b a).2.2 = true \/ ¬ sealB (fY b a).1 = (takeF b (fX b a).2.1 (fX b a).2.2 (fX b a).1).1 ++ (takeF b (fY b a).2.1 (fY b a).2.2 3).1) : frOk b a = false := by
  rw [<- (fr_impl ha).1]
  rcases h with h | h | h
  · replace h : (fX b a).1 > 700 := h
    rw [decide_eq_false (show ¬ (fX b a).1 <= 700 by omega)]
    simp
  · rw [h]
    simp
  · replace h : ¬ sealB (fY b a).1 = (fY b a).1 ++ (fZ b a).1 := h
    rw [decide_eq_false h]
    simp
theorem fr_good {b : List UInt8} {a : Nat} (ha : a <= b.length) (h1 : ¬ (numFI b a false).1 > 700) (h2 : (fZ b a).2.2 = false) (h3 : sealB (fY b a).1 = (takeF b (fX b a).2.1 (fX b a).2.2 (fX b a).1).1 ++ (takeF b (fY b a).2.1 (fY b a).2.2 3).1) : frOk b a = true := by
  rw [<- (fr_impl ha).1]
  replace h1 : ¬ (fX b a).1 > 700 := h1
  replace h3 : sealB (fY b a).1 = (fY b a).1 ++ (fZ b a).1 := h3
  rw [decide_eq_true (show (fX b a).1 <= 700 by omega), h2, decide_eq_true h3]
  rfl
theorem fr_out {b : List UInt8} {a : Nat} (ha : a <= b.length) (e : frOk b a = true) : AV.tup [.str (takeF b (fX b a).2.1 (fX b a).2.2 (fX b a).1).1, .int .i64 ((takeF b (fY b a).2.1 (fY b a).2.2 3).2.1 : Nat), .bool true] = .tup [.str (frR b a), .int .i64 (frQ b a : Nat), .bool (frOk b a)] := by
  obtain ⟨q1, q2⟩ := (fr_impl ha).2 e
  have q := fr_yes e
  rw [q.1, q.2.1, e, <- q1, <- q2]
  rfl
theorem fs_bad {b : List UInt8} {a : Nat} (ha : a <= b.length) (h : (numFS b a false).2.2 = true \/ (numFS b a false).1 > 700 \/ (numFS b a false).1 + 3 > (b.length : Int) - ((numFS b a false).2.1 : Int)) : frOk b a = false := by
  unfold frOk frN frM
  rcases h with h | h | h
  · rw [h]; simp
  · rw [decide_eq_false (show ¬ (numFS b a false).1 <= 700 by omega)]; simp
  · rw [decide_eq_false (show ¬ (numFS b a false).1 + 3 <= (b.length : Int) - ((numFS b a false).2.1 : Int) by omega)]; simp
theorem fs_seal {b : List UInt8} {a : Nat} (ha : a <= b.length) (h1 : (numFS b a false).2.2 = false) (h2 : ¬ (numFS b a false).1 > 700) (h3 : ¬ (numFS b a false).1 + 3 > (b.length : Int) - ((numFS b a false).2.1 : Int)) {L : List UInt8} (hL : L = (b.take (frE b a)).drop a) : (frOk b a = true ↔ numB ((frS b a).length : Nat) ++ sealB (frS b a) = L) := by
  rw [hL, fr_spec ha h1 (by show (numFS b a false).1 + 3 <= (b.length : Int) - ((numFS b a false).2.1 : Int); omega)]
  unfold frOk
  rw [h1, decide_eq_true (show frN b a <= 700 by show (numFS b a false).1 <= 700; omega), decide_eq_true (show frN b a + 3 <= (b.length : Int) - frM b a by show (numFS b a false).1 + 3 <= (b.length : Int) - ((numFS b a false).2.1 : Int); omega)]
  simp
theorem iff_no {b : Bool} {p : Prop} (h : b = true ↔ p) (hn : ¬ p) : b = false := by
  cases b with
  | false => rfl
  | true => exact absurd (h.1 rfl) hn
theorem c_impl_readFrame (b : List UInt8) (a : Nat) (ha : a <= b.length) (hb : b.length <= 100000) : PC Tryz.prog false 135 [.str b, .int .i64 (a : Nat)] (.tup [.str (frR b a), .int .i64 (frQ b a : Nat), .bool (frOk b a)]) [] := by
  have hi := fr_impl ha
  have hy := fY_len ha
  refine pc_at Tryz.func135 rfl (by kernel_rfl) 41 [.tmp 4, .tmp 5, .tmp 6] rfl rfl ?_
  repeat' (conv => whnf); first
 | (refine nameB_cases (b := (fZ b a).2.2) (fun h => ?_) (fun h => ?_))
 | exact side_of (fr_side ha)
 | (refine nameB_dec (fun h => ?_) (fun h => ?_) <;> try simp only [lensB] at h)
 | (refine nameB_cases (fun h => ?_) (fun h => ?_) <;> try simp only [nmL, lensB] at h)
 | refine splitB_true ?_
 | refine splitB_false ?_
 | refine draw_text (by kernel_rfl) (by kernel_rfl) (by kernel_rfl) ?_
 | refine CallB (c_impl_num b a false ha (by omega)) rfl rfl rfl rfl rfl rfl ?_
 | refine CallB (c_impl_take b (fX b a).2.1 (fX b a).2.2 (fX b a).1 (fX_ok ha).hi (by omega) (fX_ok ha).nn (fX_ok ha).le) rfl rfl rfl rfl rfl rfl ?_
 | refine CallB (c_impl_take b (fY b a).2.1 (fY b a).2.2 3 (fY_ok ha).hi (by omega) (by omega) (by omega)) rfl rfl rfl rfl rfl rfl ?_
 | refine Call0 (c_impl_seal (fY b a).1 (by omega)) rfl rfl ?_
 | refine sdA (by first | exact nbT rfl | exact rfl | omega | fail) ?_
 | refine side_and ?_ ?_
 | fail
  all_goals
    conv => whnf
    first
    | (have e := fr_bad ha (by first | exact .inl ‹_› | exact .inr (.inl ‹_›) | exact .inr (.inr ‹_›)); have q := fr_no e; rw [q.1, q.2.1, e]; exact OutA_plain rfl rfl rfl)
    | (have e := fr_good ha ‹_› ‹_› ‹_›; exact OutA_plain rfl rfl (fr_out ha e))
theorem c_spec_l6Frame (s : List UInt8) (h : s.length <= 1048576) : PC Tryz.prog false 41 [.str s] (.str (numB (s.length : Nat) ++ sealB s)) [] := by
  refine pc_at Tryz.func41 rfl (by kernel_rfl) 9 [.tmp 2] rfl rfl ?_
  repeat' (conv => whnf); first
 | exact side_of (by have h1 := numB_len (s.length : Nat); have h2 : (sealB s).length = s.length + 3 := (by unfold sealB threeB; simp); omega)
 | refine Call0 (c_spec_l1NumB9 (s.length : Nat) (by omega) (by omega)) rfl rfl ?_
 | refine Call0 (c_spec_l1Seal s (by omega)) rfl rfl ?_
 | refine side_and ?_ ?_
 | fail
  all_goals
    conv => whnf
    exact OutA_plain rfl rfl rfl
theorem frS_700 {b : List UInt8} {a : Nat} : (frS b a).length <= b.length := by
  unfold frS
  rw [List.length_drop, List.length_take]
  omega
theorem c_spec_l6Read (b : List UInt8) (a : Nat) (ha : a <= b.length) (hb : b.length <= 100000) : PC Tryz.prog false 138 [.str b, .int .i64 (a : Nat)] (.tup [.str (frR b a), .int .i64 (frT b a)]) [] := by
  have ok := numFS_ok (f := false) ha
  have o1 := ok.nn
  have o2 := ok.le
  have o3 := ok.hi
  have o4 := ok.lo
  have hw1 : IntKind.i64.wrap ((numFS b a false).1 + 3) = (numFS b a false).1 + 3 := i64w (by omega) (by omega)
  have hw2 : IntKind.i64.wrap ((b.length : Int) - ((numFS b a false).2.1 : Int)) = (b.length : Int) - ((numFS b a false).2.1 : Int) := i64w (by omega) (by omega)
  have hw3 : IntKind.i64.wrap (((numFS b a false).2.1 : Int) + (numFS b a false).1) = ((numFS b a false).2.1 : Int) + (numFS b a false).1 := i64w (by omega) (by omega)
  have hw4 : IntKind.i64.wrap (((numFS b a false).2.1 : Int) + (numFS b a false).1 + 3) = ((numFS b a false).2.1 : Int) + (numFS b a false).1 + 3 := i64w (by omega) (by omega)
  have hsE : (b.take (IntKind.i64.wrap (((numFS b a false).2.1 : Int) + (numFS b a false).1)).toNat).drop ((numFS b a false).2.1 : Int).toNat = frS b a := by
    rw [hw3]
    unfold frS frM frN
    congr 2
    omega
  have hsG : IntKind.i64.wrap (IntKind.i64.wrap (((numFS b a false).2.1 : Int) + (numFS b a false).1) + 3) = (frE b a : Nat) := by
    rw [hw3, hw4]
    unfold frE frM frN
    omega
  have hsF : (b.take (IntKind.i64.wrap (IntKind.i64.wrap (((numFS b a false).2.1 : Int) + (numFS b a false).1) + 3)).toNat).drop a = (b.take (frE b a)).drop a := by
    rw [hsG]
    rfl
  refine pc_at Tryz.func138 rfl (by kernel_rfl) 64 [.tmp 4, .tmp 5] rfl rfl ?_
  repeat' (conv => whnf); first
 | (refine nameB_cases (b := (numFS b a false).2.2) (fun h => ?_) (fun h => ?_))
 | rw [hw1, hw2] at h
 | refine side_and (side_of (by (try simp only [hw3, hw4]); omega)) ?_
 | (refine nameB_dec (fun h => ?_) (fun h => ?_) <;> try simp only [lensB] at h)
 | (refine nameB_cases (fun h => ?_) (fun h => ?_) <;> try simp only [nmL, lensB] at h)
 | refine splitB_true ?_
 | refine splitB_false ?_
 | refine draw_text (by kernel_rfl) (by kernel_rfl) (by kernel_rfl) ?_
 | refine CallB (c_spec_num b a false ha (by omega)) rfl rfl rfl rfl rfl rfl ?_
 | (refine CallD0 (c_spec_l6Frame (frS b a) (by have := frS_700 (b := b) (a := a); omega)) (congrArg (fun z => [AV.str z]) hsE) rfl rfl ?_)
 | refine sdA (by first | exact nbT rfl | exact rfl | omega | fail) ?_
 | fail
  all_goals
    conv => whnf
    first
    | (have e := fs_bad ha (by first | exact .inl ‹_› | exact .inr (.inl ‹_›) | exact .inr (.inr ‹_›)); have q := fr_no e; rw [q.1, q.2.2]; exact OutA_plain rfl rfl rfl)
    | (have hq := fs_seal ha ‹_› ‹_› ‹_› hsF
       first
       | (have e := hq.2 ‹_›; have q := fr_yes e; rw [q.1, q.2.2]; exact OutA_plain rfl rfl (by rw [<- hsE, <- hsG]; rfl))
       | (have e := iff_no hq ‹_›; have q := fr_no e; rw [q.1, q.2.2]; exact OutA_plain rfl rfl rfl))
end Go.Proofs.YtjjjalcmcifncaaGreat
set_option maxHeartbeats 4000000
set_option linter.unusedVariables false
namespace Go.Ab
theorem Ans_mono {P : Program} {f : Nat} {args : Array Value} {w : World} {R S : Value -> World -> Prop} (h : Ans P f args w R) (hrs : ∀ v w', R v w' -> S v w') : Ans P f args w S := by
  unfold Ans at h ⊢
  split at h
  · exact hrs _ _ h
  · exact h.mono fun e w' ⟨v, e1, e2⟩ => ⟨v, e1, hrs _ _ e2⟩
  · exact h.elim
theorem CallTo {P : Program} {f : Nat} {x : AV} {id nid : Nat} {s : St} {d : Option Nat} {K : St -> Prop} {r : AV} {ob : AObj} {args' : List AV} (hpc : PC P true f args' r []) (ho : s.objs id = some ob) (hb : ob.box = false) (he : [rf s x, .sl ob.elems] = args') (hx : x.ro2 = true)
    (h : (frzIds s [id]).putN d (r.shift nid) K) : CallA P f [x, .own id] s nid d K := by
  subst he
  unfold CallA
  refine .inl fun F w0 gv a w hdr hs vals hargs => ?_
  obtain ⟨v1, v2, rfl, hv1, hv2⟩ : ∃ v1 v2, vals = [v1, v2] /\ VR (s.ctx F w hdr) x v1 /\ VL (s.ctx F w hdr) [.own id] [v2] := by
    match vals, hargs with
    | [v, u], h => unfold VL at h; exact ⟨v, u, rfl, h.1, h.2⟩
    | [], h => unfold VL at h; exact h.elim
    | [_], h => unfold VL at h; have := h.2; unfold VL at this; exact this.elim
    | _ :: _ :: _ :: _, h => unfold VL at h; have := h.2; unfold VL at this; have := this.2; unfold VL at this; exact this.elim
  obtain ⟨hs', h2⟩ := frzIds_ok [id] s hs
  have hro : ∀ b, roOf F w hdr s.objs b -> roOf F w hdr (frzIds s [id]).objs b := by
    intro b ⟨k0, k1, k2⟩
    refine ⟨k0, k1, fun i oi hi => ?_⟩
    obtain ⟨o, q1, _⟩ := h2 i oi hi
    exact k2 i o q1
  have hf := frz_vals hs [id] [.own id] [v2] (by simp) (fun q hq hm => by rw [List.mem_singleton.1 hm] at hq; cases hq) hv2
  have hrf : rf0 s (.own id) = .sl ob.elems := by simp only [rf0, ho, hb]; rfl
  simp only [List.map_cons, List.map_nil, hrf] at hf
  unfold VL at hf
  have h1 := ro2s_ok (s := s) (c := s.ctx F w hdr) (VL.cons hv1 VL.nil) (show [x].all AV.ro2 = true by simp [hx])
  obtain ⟨k1, k2⟩ := putK_elim (putN_elim h)
  have hc := hpc.run w (roOf F w hdr (frzIds s [id]).objs) [v1, v2] ⟨fun b hb => hb.2.1, hs.news⟩ (by
    unfold LR
    refine ⟨?_, ?_⟩
    · have := LR.mono (fun _ _ _ => rfl) hro _ _ h1
      unfold LR at this
      exact this.1
    · unfold LR
      exact ⟨hf.1.readOnly rfl, by unfold LR; trivial⟩)
  refine Ans_mono hc fun v w' hq => ?_
  obtain ⟨hdr1, hb', hres⟩ := hq
  obtain ⟨hdr', q1, q2⟩ := hs'.called (nid := nid) (fun _ b hb => hb) hb' hres rfl
  exact ⟨_, k2, hdr', q1.put k1 q2⟩
def PromO : List AObj -> List AObj -> Prop
  | [], os' => os' = []
  | o :: os, os' => ∃ o' l, os' = o' :: l /\ (o' = o \/ ∃ shp, o.kind = .slc /\ o' = { o with kind := .deep shp } /\ ∀ e ∈ o.elems, flatFit shp e = true) /\ PromO os l
theorem PromO.at : ∀ {os os' : List AObj}, PromO os os' -> ∀ i : Nat, (os[i]? = none /\ os'[i]? = none) \/ ∃ o o', os[i]? = some o /\ os'[i]? = some o' /\ (o' = o \/ ∃ shp, o.kind = .slc /\ o' = { o with kind := .deep shp } /\ ∀ e ∈ o.elems, flatFit shp e = true)
  | [], os', h, i => by
    unfold PromO at h
    subst h
    exact .inl ⟨by simp, by simp⟩
  | o :: os, os', h, i => by
    unfold PromO at h
    obtain ⟨o', l, rfl, h1, h2⟩ := h
    cases i with
    | zero => exact .inr ⟨o, o', rfl, rfl, h1⟩
    | succ i => simpa using PromO.at h2 i
theorem PC.prom {P : Program} {sh : Bool} {f : Nat} {args : List AV} {r : AV} {os os' : List AObj} (h : PC P sh f args r os) (hp : PromO os os') : PC P sh f args r os' := by
  refine ⟨fun w R vals hR hv => Ans_mono (h.run w R vals hR hv) fun v w' hq => ?_⟩
  obtain ⟨hdr, hb, hval, hslc, hobj, hdis⟩ := hq
  have back : ∀ (i : Nat) (o' : AObj), os'[i]? = some o' -> ∃ o, os[i]? = some o /\ (o' = o \/ ∃ shp, o.kind = .slc /\ o' = { o with kind := .deep shp } /\ ∀ e ∈ o.elems, flatFit shp e = true) := by
    intro i o' hi
    rcases hp.at i with ⟨_, h2⟩ | ⟨o, o2, h1, h2, h3⟩
    · rw [h2] at hi; cases hi
    · rw [h2] at hi; cases hi; exact ⟨o, h1, h3⟩
  have forth : ∀ (i : Nat) (o : AObj), os[i]? = some o -> ∃ o', os'[i]? = some o' /\ (o' = o \/ ∃ shp, o.kind = .slc /\ o' = { o with kind := .deep shp } /\ ∀ e ∈ o.elems, flatFit shp e = true) := by
    intro i o hi
    rcases hp.at i with ⟨h1, _⟩ | ⟨o1, o2, h1, h2, h3⟩
    · rw [h1] at hi; cases hi
    · rw [h1] at hi; cases hi; exact ⟨o2, h2, h3⟩
  generalize hc : resCtx R sh w w' hdr os = c at hval hobj
  generalize hc' : resCtx R sh w w' hdr os' = c'
  have eo : ∀ i, c.objs i = os[i]? := fun i => by rw [<- hc]; rfl
  have eo' : ∀ i, c'.objs i = os'[i]? := fun i => by rw [<- hc']; rfl
  have ew : c'.w = c.w := by rw [<- hc, <- hc']; rfl
  have eh : c'.hdr = c.hdr := by rw [<- hc, <- hc']; rfl
  have hro : ∀ b, c.ro b -> c'.ro b := by
    intro b q
    rw [<- hc] at q
    rw [<- hc']
    obtain ⟨q1, q2, q3⟩ := q
    refine ⟨q1, q2, fun i o' hi => ?_⟩
    obtain ⟨o, h1, _⟩ := back i o' hi
    exact q3 i o h1
  have hR : ∀ x u, RR c.w c.ro x u -> RR c'.w c'.ro x u := fun x u => by rw [ew]; exact RR.mono (fun _ _ _ => rfl) hro x u
  have hO : ∀ i o, c.objs i = some o -> ∃ o', c'.objs i = some o' /\ o'.esz = o.esz /\ (c'.hdr i).v = (c.hdr i).v := by
    intro i o hi
    rw [eo] at hi
    obtain ⟨o', h1, h2⟩ := forth i o hi
    refine ⟨o', by rw [eo']; exact h1, ?_, by rw [eh]⟩
    rcases h2 with rfl | ⟨shp, _, rfl, _⟩ <;> rfl
  have hQ : ∀ i o, c.objs i = some o -> ∃ o', c'.objs i = some o' /\ o'.esz = o.esz /\ (c'.hdr i).v = (c.hdr i).v /\ o'.box = o.box := by
    intro i o hi
    rw [eo] at hi
    obtain ⟨o', h1, h2⟩ := forth i o hi
    refine ⟨o', by rw [eo']; exact h1, ?_, by rw [eh], ?_⟩
    · rcases h2 with rfl | ⟨shp, _, rfl, _⟩ <;> rfl
    · rcases h2 with rfl | ⟨shp, hk, rfl, _⟩
      · rfl
      · unfold AObj.box; rw [hk]
  have hC := cel_keep (c := c) (c' := c') hO (fun i o o' shp q1 q2 q3 => by
    rw [eo] at q1
    rw [eo'] at q2
    obtain ⟨o2, h1, h2⟩ := forth i o q1
    rw [q2] at h1
    cases h1
    rcases h2 with rfl | ⟨shp', e2, _⟩
    · rfl
    · rw [e2] at q3; cases q3) (fun i o b j _ _ => by rw [ew])
  refine ⟨hdr, hb, ?_, ?_, ?_, ?_⟩
  · rw [hc']
    exact VR.mono hR hC (prt_keep hQ) hO _ _ hval
  · intro o' ho'
    obtain ⟨i, hi⟩ := List.getElem?_of_mem ho'
    obtain ⟨o, h1, h2⟩ := back i o' hi
    have hb0 := hslc o (mgE h1)
    rcases h2 with rfl | ⟨shp, hk, rfl, _⟩
    · exact hb0
    · rfl
  · intro i o' hi
    rw [hc']
    obtain ⟨o, h1, h2⟩ := back i o' hi
    obtain ⟨k2, k3, kn, cs, k4, k5, k6⟩ := hobj i o h1
    rcases h2 with rfl | ⟨shp, hk, rfl, hf⟩
    · refine ⟨k2, k3, by rw [ew]; exact kn, cs, by rw [ew]; exact k4, k5, ?_⟩
      cases hk : o'.kind with
      | box =>
        obtain ⟨q1, q2⟩ := k6.box hk
        rw [q2]
        exact CellsR_box hk (VL.mono hR hC (prt_keep hQ) hO _ _ q1)
      | slc =>
        obtain ⟨q1, q2⟩ := k6.slc hk
        rw [q2]
        exact CellsR_slc hk (LR.ofR hR _ _ q1)
      | deep shp =>
        have := k6.deep hk
        rw [<- ew] at this
        exact CellsR_deep hk this
    · obtain ⟨q1, q2⟩ := k6.slc hk
      refine ⟨k2, k3, by rw [ew]; exact kn, cs, by rw [ew]; exact k4, k5, ?_⟩
      rw [q2]
      have := flat_TEs k3 hf q1
      rw [<- ew] at this
      exact CellsR_deep (sh := shp) rfl this
  · intro i j o o' b hi hj
    obtain ⟨o1, h1, _⟩ := back i o hi
    obtain ⟨o2, h2, _⟩ := back j o' hj
    exact hdis i j o1 o2 b h1 h2
end Go.Ab
namespace Go.Proofs.YtjjjalcmcifncaaGreat
open Go.Ab
set_option linter.unusedSimpArgs false
set_option maxRecDepth 20000
set_option maxHeartbeats 4000000
set_option linter.unusedVariables false
theorem c_impl_readFrame_no (b : List UInt8) (a : Nat) (ha : a <= b.length) (hb : b.length <= 100000) (h : frOk b a = false) : PC Tryz.prog false 135 [.str b, .int .i64 (a : Nat)] (.tup [.str [], .int .i64 0, .bool false]) [] := by
  have := c_impl_readFrame b a ha hb
  have q := fr_no h
  rw [q.1, q.2.1, h] at this
  exact this
theorem c_impl_readFrame_yes (b : List UInt8) (a : Nat) (ha : a <= b.length) (hb : b.length <= 100000) (h : frOk b a = true) : PC Tryz.prog false 135 [.str b, .int .i64 (a : Nat)] (.tup [.str (frS b a), .int .i64 (frE b a : Nat), .bool true]) [] := by
  have := c_impl_readFrame b a ha hb
  have q := fr_yes h
  rw [q.1, q.2.1, h] at this
  exact this
theorem c_spec_l6Read_no (b : List UInt8) (a : Nat) (ha : a <= b.length) (hb : b.length <= 100000) (h : frOk b a = false) : PC Tryz.prog false 138 [.str b, .int .i64 (a : Nat)] (.tup [.str [], .int .i64 (-1)]) [] := by
  have := c_spec_l6Read b a ha hb
  have q := fr_no h
  rw [q.1, q.2.2] at this
  exact this
theorem c_spec_l6Read_yes (b : List UInt8) (a : Nat) (ha : a <= b.length) (hb : b.length <= 100000) (h : frOk b a = true) : PC Tryz.prog false 138 [.str b, .int .i64 (a : Nat)] (.tup [.str (frS b a), .int .i64 (frE b a : Nat)]) [] := by
  have := c_spec_l6Read b a ha hb
  have q := fr_yes h
  rw [q.1, q.2.2] at this
  exact this
def FrInv (b : List UInt8) (a : Nat) (acc : List (List UInt8)) : Prop := (a <= b.length /\ acc.length <= a) /\ acc ++ (frames b a).1 = (frames b 0).1 /\ (frames b a).2 = (frames b 0).2
theorem FrInv.start (b : List UInt8) : FrInv b 0 [] := ⟨⟨Nat.zero_le _, Nat.zero_le _⟩, rfl, rfl⟩
theorem FrInv.next {b : List UInt8} {a : Nat} {acc : List (List UInt8)} (h : FrInv b a acc) (hf : frOk b a = true) : FrInv b (frE b a) (acc ++ [frS b a]) := by
  have he := frE_lt hf
  obtain ⟨⟨h1, h2⟩, h3, h4⟩ := h
  rw [frames_yes hf] at h3 h4
  refine ⟨⟨he.2, ?_⟩, ?_, h4⟩
  · rw [laT]
    simp only [List.length_cons, List.length_nil]
    omega
  · rw [List.append_assoc]
    exact h3
theorem FrInv.stop {b : List UInt8} {a : Nat} {acc : List (List UInt8)} (h : FrInv b a acc) (hf : frOk b a = false) : (frames b 0).1 = acc /\ (frames b 0).2 = a := by
  obtain ⟨_, h3, h4⟩ := h
  rw [frames_no hf] at h3 h4
  exact ⟨by rw [<- h3, List.append_nil], h4.symm⟩
theorem c_impl_framesOf (b : List UInt8) (hb : b.length <= 100000) : PC Tryz.prog false 97 [.str b] (.tup [.own 0, .int .i64 ((frames b 0).2 : Nat)]) [⟨false, 9, 1, (frames b 0).1.map strC⟩] := by
  refine pc_at Tryz.func97 rfl (by kernel_rfl) 26 [.tmp 2, .tmp 3] rfl rfl ?_
  repeat' (conv => whnf); first
 | refine side_and (side_of (one_lenC rfl rfl)) ?_
 | refine sdA (by first | (and_intros <;> first | exact nbT rfl | rfl | (intro e; exact absurd (AV.own.inj e) (by decide)) | (intro e; exact AV.noConfusion e)) | fail) ?_
 | refine side_and (side_of (app_boundC (L := acc.map strC) rfl (by (rw [List.length_map]; omega)) (nbT rfl))) ?_
 | refine nameB_true ?_
 | refine nameB_false ?_
 | refine splitB_true ?_
 | refine splitB_false ?_
 | ((refine Loop_nil 4 1 9 1 rfl rfl (by decide) ?_; refine Loop_at [0] [] (Nat × List (List UInt8)) (fun j => match j with | (a, acc) => (a <= b.length /\ acc.length <= a) /\ FrInv b a acc) (fun j => match j with | (a, acc) => [(5, .int .i64 (a : Nat)), (4, .own 1)]) (fun j => match j with | (a, acc) => [(1, ⟨false, 9, 1, acc.map strC⟩)]) (fun j => match j with | (a, acc) => b.length - a) (0, []) ⟨by first | (simp_all <;> fail) | rfl | fail, by first | rfl | (simp_all <;> fail) | fail, trivial⟩ ⟨by first | rfl | exact congrArg (fun e => some (AObj.mk _ _ _ e)) (by rw [List.map_append]; rfl) | fail | fail, trivial⟩ (by (try dsimp only); first | (exact ⟨(FrInv.start b).1, FrInv.start b⟩) | fail) ?_; (conv => whnf); refine side_and (side_of (by first | exact fun ⟨a, acc⟩ => rfl | exact fun ⟨a, acc⟩ => by simp [headOk, closedE, closedO, closedL, AV.closed, hcap.closed, hasId, AObj.box, BK.ofB])) ?_; rintro ⟨a, acc⟩ hT; try dsimp only at hT))
 | (refine Again_of (frE b a, acc ++ [frS b a]) ⟨by first | rfl | exact i64_next (by omega) | (simp_all <;> fail) | fail, by first | rfl | (simp_all <;> fail) | fail, trivial⟩ ⟨by first | rfl | exact congrArg (fun e => some (AObj.mk _ _ _ e)) (by rw [List.map_append]; rfl) | fail | fail, trivial⟩ (by first | (and_intros <;> first | rfl | trivial) | fail) (by first | (and_intros <;> first | rfl | trivial) | fail) rfl rfl rfl (by (try dsimp only); first | (exact ⟨(hT.2.next hf).1, hT.2.next hf⟩) | fail) (show _ < _ by (try dsimp only); omega))
 | ((rcases hf : frOk b a with _ | _ <;> first | refine Call0 (c_impl_readFrame_no b a hT.1.1 hb hf) rfl rfl ?_ | (have he := frE_lt hf; refine Call0 (c_impl_readFrame_yes b a hT.1.1 hb hf) rfl rfl ?_)))
 | fail
  all_goals
    conv => whnf
    first
    | (have q := hT.2.stop hf; rw [q.1, q.2]; exact OutA_ids rfl rfl rfl ⟨⟨_, _, _, rfl, rfl⟩, trivial⟩ rfl (.inr (flat_one (flat_map (fun _ => rfl) _))))
theorem c_spec_l6Frames (b : List UInt8) (hb : b.length <= 100000) : PC Tryz.prog false 99 [.str b] (.tup [.own 0, .int .i64 ((frames b 0).2 : Nat)]) [⟨false, 9, 1, (frames b 0).1.map strC⟩] := by
  refine pc_at Tryz.func99 rfl (by kernel_rfl) 24 [.tmp 2, .tmp 3] rfl rfl ?_
  repeat' (conv => whnf); first
 | refine side_and (side_of (one_lenC rfl rfl)) ?_
 | refine sdA (by first | (and_intros <;> first | exact nbT rfl | rfl | (intro e; exact absurd (AV.own.inj e) (by decide)) | (intro e; exact AV.noConfusion e)) | fail) ?_
 | refine side_and (side_of (app_boundC (L := acc.map strC) rfl (by (rw [List.length_map]; omega)) (nbT rfl))) ?_
 | refine nameB_true ?_
 | refine nameB_false ?_
 | refine splitB_true ?_
 | refine splitB_false ?_
 | ((refine Loop_nil 4 1 9 1 rfl rfl (by decide) ?_; refine Loop_at [0] [] (Nat × List (List UInt8)) (fun j => match j with | (a, acc) => (a <= b.length /\ acc.length <= a) /\ FrInv b a acc) (fun j => match j with | (a, acc) => [(5, .int .i64 (a : Nat)), (4, .own 1)]) (fun j => match j with | (a, acc) => [(1, ⟨false, 9, 1, acc.map strC⟩)]) (fun j => match j with | (a, acc) => b.length - a) (0, []) ⟨by first | (simp_all <;> fail) | rfl | fail, by first | rfl | (simp_all <;> fail) | fail, trivial⟩ ⟨by first | rfl | exact congrArg (fun e => some (AObj.mk _ _ _ e)) (by rw [List.map_append]; rfl) | fail | fail, trivial⟩ (by (try dsimp only); first | (exact ⟨(FrInv.start b).1, FrInv.start b⟩) | fail) ?_; (conv => whnf); refine side_and (side_of (by first | exact fun ⟨a, acc⟩ => rfl | exact fun ⟨a, acc⟩ => by simp [headOk, closedE, closedO, closedL, AV.closed, hcap.closed, hasId, AObj.box, BK.ofB])) ?_; rintro ⟨a, acc⟩ hT; try dsimp only at hT))
 | (refine Again_of (frE b a, acc ++ [frS b a]) ⟨by first | rfl | exact i64_next (by omega) | (simp_all <;> fail) | fail, by first | rfl | (simp_all <;> fail) | fail, trivial⟩ ⟨by first | rfl | exact congrArg (fun e => some (AObj.mk _ _ _ e)) (by rw [List.map_append]; rfl) | fail | fail, trivial⟩ (by first | (and_intros <;> first | rfl | trivial) | fail) (by first | (and_intros <;> first | rfl | trivial) | fail) rfl rfl rfl (by (try dsimp only); first | (exact ⟨(hT.2.next hf).1, hT.2.next hf⟩) | fail) (show _ < _ by (try dsimp only); omega))
 | ((rcases hf : frOk b a with _ | _ <;> first | refine Call0 (c_spec_l6Read_no b a hT.1.1 hb hf) rfl rfl ?_ | (have he := frE_lt hf; refine Call0 (c_spec_l6Read_yes b a hT.1.1 hb hf) rfl rfl ?_)))
 | fail
  all_goals
    conv => whnf
    first
    | (exfalso; omega)
    | (have q := hT.2.stop hf; rw [q.1, q.2]; exact OutA_ids rfl rfl rfl ⟨⟨_, _, _, rfl, rfl⟩, trivial⟩ rfl (.inr (flat_one (flat_map (fun _ => rfl) _))))
def okDsk (d : DiskT) : Bool := decide ((d.Kept.length : Int) + d.Loose.length <= 50000)
theorem c_impl_GoodDisk (d : DiskT) (hw : d.w <= 1048576) : PC Tryz.prog false 92 [.agg d.cells] (.bool (okDsk d)) [] := by
  have h0 : d.w = d.Kept.length + d.Loose.length := rfl
  have h1 : IntKind.i64.wrap ((d.Kept.length : Int) + d.Loose.length) = (d.Kept.length : Int) + d.Loose.length := i64w (by omega) (by omega)
  refine pc_at Tryz.func92 rfl (by kernel_rfl) 11 [.tmp 2] rfl rfl ?_
  repeat' (conv => whnf); first
 | (refine nameB_dec (fun h => ?_) (fun h => ?_) <;> try simp only [lensB] at h)
 | refine sdA (by first | exact nbT rfl | exact rfl | omega | fail) ?_
 | fail
  all_goals
    conv => whnf
    refine OutA_plain rfl rfl ?_
    unfold okDsk
    rw [<- h1]
    first | (rw [decide_eq_true ‹_›]; rfl) | (rw [decide_eq_false ‹_›]; rfl)
theorem c_spec_GoodDisk (d : DiskT) (hw : d.w <= 1048576) : PC Tryz.prog false 58 [.agg d.cells] (.bool (okDsk d)) [] := by
  have h0 : d.w = d.Kept.length + d.Loose.length := rfl
  have h1 : IntKind.i64.wrap ((d.Kept.length : Int) + d.Loose.length) = (d.Kept.length : Int) + d.Loose.length := i64w (by omega) (by omega)
  refine pc_at Tryz.func58 rfl (by kernel_rfl) 11 [.tmp 2] rfl rfl ?_
  repeat' (conv => whnf); first
 | (refine nameB_dec (fun h => ?_) (fun h => ?_) <;> try simp only [lensB] at h)
 | refine sdA (by first | exact nbT rfl | exact rfl | omega | fail) ?_
 | fail
  all_goals
    conv => whnf
    refine OutA_plain rfl rfl ?_
    unfold okDsk
    rw [<- h1]
    first | (rw [decide_eq_true ‹_›]; rfl) | (rw [decide_eq_false ‹_›]; rfl)
theorem app_S {L M : List (List AV)} {b : Nat} (hM : M.length = 1) (hL : L.length <= 1048576) (hb : b <= 4096) : L.length + M.length <= 70368744177664 /\ (L.length + M.length) * b <= 140737488355328 := by
  rw [hM]
  exact ⟨by omega, Nat.le_trans (Nat.mul_le_mul (Nat.succ_le_succ hL) hb) (nbT rfl)⟩
def dskB (d : DiskT) : List UInt8 := d.Kept ++ d.Loose
def entC (s : List UInt8) : List AV := (outE s).cells
theorem entC_map {fs : List (List UInt8)} : fs.map entC = (fs.map outE).map EntryT.cells := by
  rw [List.map_map]
  rfl
theorem dskB_len (d : DiskT) : (dskB d).length = d.w := laT
theorem c_impl_ReadEntry_deep (b : List UInt8) (hb : b.length <= 1073741824) : PC Tryz.prog false 98 [.str b] (.tup [.agg [.int .i64 (outE b).Term, .int .i64 (outE b).Rec.Kind, .int .i64 (outE b).Rec.Txn, .int .i64 (outE b).Rec.Time, .int .i64 (outE b).Rec.Lead, .own 0, .own 1, .bool (outE b).Rec.Yes], .bool (okE b)]) [⟨.deep [.leaf], 9, 1, (outE b).Rec.Reads.map strC⟩, ⟨.deep WriteT.shp, 131, 3, (outE b).Rec.Writes.map WriteT.cells⟩] :=
  (c_impl_ReadEntry b hb).prom ⟨_, _, rfl, .inr ⟨[.leaf], rfl, rfl, prom_map (fun _ => rfl)⟩, _, _, rfl, .inr ⟨WriteT.shp, rfl, rfl, prom_map (fun _ => rfl)⟩, rfl⟩
theorem ix_strs {fs : List (List UInt8)} {n : Nat} {Q : List AV -> Prop} (h : n < fs.length) (hQ : ∀ x, fs[n]? = some x -> Q (strC x)) : ∃ e, (fs.map strC)[n]? = some e /\ Q e := ⟨strC fs[n], by simp [h], hQ _ (by simp [h])⟩
theorem okAll_next {fs : List (List UInt8)} {k : Nat} {x : List UInt8} (h : ∀ s ∈ fs.take k, okE s = true) (hx : fs[k]? = some x) (hq : okE x = true) : ∀ s ∈ fs.take (k + 1), okE s = true := by
  rw [take_get hx]
  intro s hs
  rcases List.mem_append.1 hs with hs | hs
  · exact h s hs
  · rw [List.mem_singleton.1 hs]; exact hq
theorem all_bad' {fs : List (List UInt8)} {k : Nat} {x : List UInt8} (hx : fs[k]? = some x) (hq : okE x = false) : fs.all okE = false := by
  cases h : fs.all okE with
  | false => rfl
  | true =>
    rw [List.all_eq_true] at h
    rw [h x (mgE hx)] at hq
    cases hq
theorem all_good' {fs : List (List UInt8)} {k : Nat} (h : ∀ s ∈ fs.take k, okE s = true) (hk : fs.length <= k) : fs.all okE = true := by
  rw [List.take_of_length_le hk] at h
  exact List.all_eq_true.2 h
theorem c_impl_onDisk_yes (d : DiskT) (hw : d.w <= 100000) (hall : (frames (dskB d) 0).1.all okE = true) : PC Tryz.prog false 56 [.agg d.cells] (.tup [.own 0, .int .i64 ((frames (dskB d) 0).2 : Nat), .bool true]) [⟨.deep EntryT.shp, 50, 8, ((frames (dskB d) 0).1.map outE).map EntryT.cells⟩] := by
  have h0 : d.w = d.Kept.length + d.Loose.length := rfl
  have hl := dskB_len d
  obtain ⟨f1, f2, f3⟩ := frames_ok (b := dskB d)
  refine pc_at Tryz.func56 rfl (by kernel_rfl) 42 [.tmp 2, .tmp 3, .tmp 4] rfl rfl ?_
  repeat' (conv => whnf); first
 | (refine ix_strs (fs := (frames (dskB d) 0).1) (by omega) (fun x hx => ?_))
 | (refine nameB_cases (b := okE x) (fun h => ?_) (fun h => ?_))
 | refine nameB_true ?_
 | refine nameB_false ?_
 | (refine nameB_dec (fun h => ?_) (fun h => ?_) <;> try simp only [lensB] at h)
 | refine splitB_true ?_
 | refine splitB_false ?_
 | ((refine Loop_nil 7 1 50 8 rfl rfl (by decide) ?_; refine Loop_prom [(1, EntryT.shp)] ⟨⟨_, _, _, rfl, by first | exact prom_nil | exact prom_rep rfl | exact prom_map (fun _ => rfl) | exact prom_one rfl⟩, trivial⟩ ?_; refine Loop_at [6, 22, 23] [0, 4176] (Nat) (fun k => (∀ s ∈ (frames (dskB d) 0).1.take k, okE s = true) /\ k <= (frames (dskB d) 0).1.length) (fun k => [(24, .int .i64 (k : Nat)), (7, .own 1)]) (fun k => [(1, ⟨.deep EntryT.shp, 50, 8, ((frames (dskB d) 0).1.take k).map entC⟩)]) (fun k => (frames (dskB d) 0).1.length - k) 0 ⟨by first | (simp_all <;> fail) | rfl | fail, by first | rfl | (simp_all <;> fail) | fail, trivial⟩ ⟨by first | rfl | exact congrArg (fun e => some (AObj.mk _ _ _ e)) (app_snoc hx rfl) | fail | fail, trivial⟩ (by (try dsimp only); first | (exact ⟨fun s hs => by simp at hs, Nat.zero_le _⟩) | fail) ?_; (conv => whnf); refine side_and (side_of (by first | exact fun k => rfl | exact fun k => by simp [headOk, closedE, closedO, closedL, AV.closed, hcap.closed, hasId, AObj.box, BK.ofB])) ?_; rintro k hT; try dsimp only at hT))
 | (refine Again_of (k + 1) ⟨by first | rfl | exact i64_next (by omega) | (simp_all <;> fail) | fail, by first | rfl | (simp_all <;> fail) | fail, trivial⟩ ⟨by first | rfl | exact congrArg (fun e => some (AObj.mk _ _ _ e)) (app_snoc hx rfl) | fail | fail, trivial⟩ (by first | (and_intros <;> first | rfl | trivial) | fail) (by first | (and_intros <;> first | rfl | trivial) | fail) rfl rfl rfl (by (try dsimp only); first | (exact ⟨okAll_next hT.1 hx ‹_›, by omega⟩) | fail) (show _ < _ by (try dsimp only); omega))
 | refine CallF (c_impl_framesOf (dskB d) (by omega)) rfl rfl rfl (nbT rfl) ?_
 | refine CallF (c_impl_ReadEntry_deep x (by have := f3 x (mgE hx); omega)) rfl rfl rfl (nbT rfl) ?_
 | refine sdA ⟨nbT rfl, rfl⟩ ?_
 | refine sdA (by first | exact nbT rfl | exact rfl | omega | fail) ?_
 | refine sdA (by first | (and_intros <;> first | rfl | omega | exact nbT rfl) | fail) ?_
 | refine sdA (by first | (and_intros <;> first | exact nbT rfl | rfl | omega | (simp only [lensB, lensC]; omega) | exact bytes_ok (nbT rfl) (by omega) (by simp only [lensB, lensC]; omega) | exact bytes_okN (nbT rfl) (by simp only [lensB, lensC]; omega)) | fail) ?_
 | refine LoadK_of rfl rfl ?_
 | refine BuildD_of EntryT.shp rfl rfl rfl ?_
 | refine AppD_of rfl (by and_intros <;> first | rfl | decide) (deep_app (L := ((frames (dskB d) 0).1.take k).map entC) rfl rfl (by rw [List.length_map, List.length_take]; omega) (nbT rfl)) ?_
 | fail
  all_goals
    conv => whnf
    first
    | (exfalso; have q := all_bad' hx ‹_›; rw [q] at hall; cases hall)
    | exact OutA_deep rfl rfl rfl ⟨⟨congrArg (fun e => some (AObj.mk _ _ _ e)) ((congrArg (List.map entC) (List.take_of_length_le (by omega))).trans entC_map), rfl⟩, trivial⟩ rfl
theorem c_impl_onDisk_no (d : DiskT) (hw : d.w <= 100000) (hall : (frames (dskB d) 0).1.all okE = false) : PC Tryz.prog false 56 [.agg d.cells] (.tup [.nil, .int .i64 0, .bool false]) [] := by
  have h0 : d.w = d.Kept.length + d.Loose.length := rfl
  have hl := dskB_len d
  obtain ⟨f1, f2, f3⟩ := frames_ok (b := dskB d)
  refine pc_at Tryz.func56 rfl (by kernel_rfl) 42 [.tmp 2, .tmp 3, .tmp 4] rfl rfl ?_
  repeat' (conv => whnf); first
 | (refine ix_strs (fs := (frames (dskB d) 0).1) (by omega) (fun x hx => ?_))
 | (refine nameB_cases (b := okE x) (fun h => ?_) (fun h => ?_))
 | refine nameB_true ?_
 | refine nameB_false ?_
 | (refine nameB_dec (fun h => ?_) (fun h => ?_) <;> try simp only [lensB] at h)
 | refine splitB_true ?_
 | refine splitB_false ?_
 | ((refine Loop_nil 7 1 50 8 rfl rfl (by decide) ?_; refine Loop_prom [(1, EntryT.shp)] ⟨⟨_, _, _, rfl, by first | exact prom_nil | exact prom_rep rfl | exact prom_map (fun _ => rfl) | exact prom_one rfl⟩, trivial⟩ ?_; refine Loop_at [6, 22, 23] [0, 4176] (Nat) (fun k => (∀ s ∈ (frames (dskB d) 0).1.take k, okE s = true) /\ k <= (frames (dskB d) 0).1.length) (fun k => [(24, .int .i64 (k : Nat)), (7, .own 1)]) (fun k => [(1, ⟨.deep EntryT.shp, 50, 8, ((frames (dskB d) 0).1.take k).map entC⟩)]) (fun k => (frames (dskB d) 0).1.length - k) 0 ⟨by first | (simp_all <;> fail) | rfl | fail, by first | rfl | (simp_all <;> fail) | fail, trivial⟩ ⟨by first | rfl | exact congrArg (fun e => some (AObj.mk _ _ _ e)) (app_snoc hx rfl) | fail | fail, trivial⟩ (by (try dsimp only); first | (exact ⟨fun s hs => by simp at hs, Nat.zero_le _⟩) | fail) ?_; (conv => whnf); refine side_and (side_of (by first | exact fun k => rfl | exact fun k => by simp [headOk, closedE, closedO, closedL, AV.closed, hcap.closed, hasId, AObj.box, BK.ofB])) ?_; rintro k hT; try dsimp only at hT))
 | (refine Again_of (k + 1) ⟨by first | rfl | exact i64_next (by omega) | (simp_all <;> fail) | fail, by first | rfl | (simp_all <;> fail) | fail, trivial⟩ ⟨by first | rfl | exact congrArg (fun e => some (AObj.mk _ _ _ e)) (app_snoc hx rfl) | fail | fail, trivial⟩ (by first | (and_intros <;> first | rfl | trivial) | fail) (by first | (and_intros <;> first | rfl | trivial) | fail) rfl rfl rfl (by (try dsimp only); first | (exact ⟨okAll_next hT.1 hx ‹_›, by omega⟩) | fail) (show _ < _ by (try dsimp only); omega))
 | refine CallF (c_impl_framesOf (dskB d) (by omega)) rfl rfl rfl (nbT rfl) ?_
 | refine CallF (c_impl_ReadEntry_deep x (by have := f3 x (mgE hx); omega)) rfl rfl rfl (nbT rfl) ?_
 | refine sdA ⟨nbT rfl, rfl⟩ ?_
 | refine sdA (by first | exact nbT rfl | exact rfl | omega | fail) ?_
 | refine sdA (by first | (and_intros <;> first | rfl | omega | exact nbT rfl) | fail) ?_
 | refine sdA (by first | (and_intros <;> first | exact nbT rfl | rfl | omega | (simp only [lensB, lensC]; omega) | exact bytes_ok (nbT rfl) (by omega) (by simp only [lensB, lensC]; omega) | exact bytes_okN (nbT rfl) (by simp only [lensB, lensC]; omega)) | fail) ?_
 | refine LoadK_of rfl rfl ?_
 | refine BuildD_of EntryT.shp rfl rfl rfl ?_
 | refine AppD_of rfl (by and_intros <;> first | rfl | decide) (deep_app (L := ((frames (dskB d) 0).1.take k).map entC) rfl rfl (by rw [List.length_map, List.length_take]; omega) (nbT rfl)) ?_
 | fail
  all_goals
    conv => whnf
    first
    | (exfalso; have q := all_good' hT.1 (by omega); rw [q] at hall; cases hall)
    | exact OutA_plain rfl rfl rfl
def dskL (d : DiskT) : List (List UInt8) := match okDsk d with | true => (frames (dskB d) 0).1 | false => []
def dskN (d : DiskT) : Nat := match okDsk d with | true => (frames (dskB d) 0).2 | false => 0
def okOnD (d : DiskT) : Bool := okDsk d && (frames (dskB d) 0).1.all okE
def onD (d : DiskT) : List EntryT := match okOnD d with | true => (frames (dskB d) 0).1.map outE | false => []
theorem onD_yes {d : DiskT} (h : okOnD d = true) : onD d = (frames (dskB d) 0).1.map outE := by unfold onD; rw [h]
theorem onD_no {d : DiskT} (h : okOnD d = false) : onD d = [] := by unfold onD; rw [h]
theorem okDsk_w {d : DiskT} (h : okDsk d = true) : d.w <= 50000 := by
  unfold okDsk at h
  have := of_decide_eq_true h
  show d.Kept.length + d.Loose.length <= 50000
  omega
theorem dskL_yes {d : DiskT} (h : okDsk d = true) : dskL d = (frames (dskB d) 0).1 /\ dskN d = (frames (dskB d) 0).2 := by unfold dskL dskN; rw [h]; exact ⟨rfl, rfl⟩
theorem dskL_no {d : DiskT} (h : okDsk d = false) : dskL d = [] /\ dskN d = 0 := by unfold dskL dskN; rw [h]; exact ⟨rfl, rfl⟩
theorem c_spec_FramesOn (d : DiskT) (hw : d.w <= 1048576) : PC Tryz.prog false 102 [.agg d.cells] (.tup [.own 0, .int .i64 (dskN d : Nat), .bool (okDsk d)]) [⟨false, 9, 1, (dskL d).map strC⟩] := by
  have h0 : d.w = d.Kept.length + d.Loose.length := rfl
  have hl := dskB_len d
  cases h1 : okDsk d with
  | false =>
    rw [(dskL_no h1).1, (dskL_no h1).2]
    refine pc_at Tryz.func102 rfl (by kernel_rfl) 22 [.tmp 2, .tmp 3, .tmp 4] rfl rfl ?_
    repeat' (conv => whnf); first
 | refine nameB_no (b := okDsk d) h1 ?_
 | refine nameB_true ?_
 | refine splitB_true ?_
 | refine Call0 (c_spec_GoodDisk d hw) rfl rfl ?_
 | refine sdA ⟨nbT rfl, rfl⟩ ?_
 | refine sdA (by first | exact nbT rfl | exact rfl | omega | fail) ?_
 | fail
    all_goals
      conv => whnf
      exact OutA_nil 2 1 9 1 rfl rfl (by decide) (OutA_ids rfl rfl rfl ⟨⟨_, _, _, rfl, rfl⟩, trivial⟩ rfl (.inr (flat_one rfl)))
  | true =>
    have hw2 := okDsk_w h1
    rw [(dskL_yes h1).1, (dskL_yes h1).2]
    refine pc_at Tryz.func102 rfl (by kernel_rfl) 22 [.tmp 2, .tmp 3, .tmp 4] rfl rfl ?_
    repeat' (conv => whnf); first
 | refine nameB_yes (b := okDsk d) h1 ?_
 | refine nameB_false ?_
 | refine splitB_false ?_
 | refine Call0 (c_spec_GoodDisk d hw) rfl rfl ?_
 | refine CallF (c_spec_l6Frames (dskB d) (by omega)) rfl rfl rfl (nbT rfl) ?_
 | refine sdA (by first | exact nbT rfl | exact rfl | omega | fail) ?_
 | fail
    all_goals
      conv => whnf
      exact OutA_ids rfl rfl rfl ⟨⟨_, _, _, rfl, rfl⟩, trivial⟩ rfl (.inr (flat_one (flat_map (fun _ => rfl) _)))
theorem dskL_ok (d : DiskT) : (dskL d).length <= 50000 /\ ∀ s ∈ dskL d, s.length <= 700 := by
  cases h1 : okDsk d with
  | false => rw [(dskL_no h1).1]; exact ⟨Nat.zero_le _, fun s hs => by cases hs⟩
  | true =>
    have hw2 := okDsk_w h1
    have hl := dskB_len d
    obtain ⟨f1, f2, f3⟩ := frames_ok (b := dskB d)
    rw [(dskL_yes h1).1]
    exact ⟨by omega, f3⟩
theorem okOnD_bad {d : DiskT} {k : Nat} {x : List UInt8} (hx : (dskL d)[k]? = some x) (hq : okE x = false) : okOnD d = false := by
  unfold okOnD
  cases h1 : okDsk d with
  | false => rfl
  | true =>
    rw [(dskL_yes h1).1] at hx
    rw [all_bad' hx hq]
    rfl
theorem onD_end {d : DiskT} {k : Nat} (h : ∀ s ∈ (dskL d).take k, okE s = true) (hk : (dskL d).length <= k) : AV.tup [.sl (((dskL d).take k).map entC), .bool (okDsk d)] = .tup [.sl ((onD d).map EntryT.cells), .bool (okOnD d)] := by
  have h2 := all_good' h hk
  rw [List.take_of_length_le hk, entC_map]
  cases h1 : okDsk d with
  | false =>
    have e : okOnD d = false := by unfold okOnD; rw [h1]; rfl
    rw [onD_no e, e, (dskL_no h1).1]
    rfl
  | true =>
    rw [(dskL_yes h1).1] at h2 ⊢
    have e : okOnD d = true := by unfold okOnD; rw [h1, h2]; rfl
    rw [onD_yes e, e]
theorem c_spec_OnDisk (d : DiskT) (hw : d.w <= 1048576) : PC Tryz.prog true 62 [.agg d.cells] (.tup [.sl ((onD d).map EntryT.cells), .bool (okOnD d)]) [] := by
  obtain ⟨f2, f3⟩ := dskL_ok d
  refine pc_at Tryz.func62 rfl (by kernel_rfl) 41 [.tmp 2, .tmp 3] rfl rfl ?_
  repeat' (conv => whnf); first
 | (refine ix_strs (fs := dskL d) (by omega) (fun x hx => ?_))
 | (refine nameB_cases (b := okE x) (fun h => ?_) (fun h => ?_))
 | refine side_and (side_of (app_S (L := ((dskL d).take k).map entC) rfl (by rw [List.length_map, List.length_take]; omega) (nbT rfl))) ?_
 | refine side_and (side_of (one_lenC rfl rfl)) ?_
 | refine sdA (by first | (and_intros <;> first | exact nbT rfl | rfl | (intro e; exact absurd (AV.own.inj e) (by decide)) | (intro e; exact AV.noConfusion e)) | fail) ?_
 | refine nameB_true ?_
 | refine nameB_false ?_
 | (refine nameB_dec (fun h => ?_) (fun h => ?_) <;> try simp only [lensB] at h)
 | refine splitB_true ?_
 | refine splitB_false ?_
 | refine eitherB_l ?_
 | ((refine Loop_nil 4 1 50 8 rfl rfl (by decide) ?_; refine Loop_at [5, 7] [0, 8208] (Nat) (fun k => (∀ s ∈ (dskL d).take k, okE s = true) /\ k <= (dskL d).length) (fun k => [(8, .int .i64 (k : Nat)), (4, .own 1)]) (fun k => [(1, ⟨false, 50, 8, ((dskL d).take k).map entC⟩)]) (fun k => (dskL d).length - k) 0 ⟨by first | (simp_all <;> fail) | rfl | fail, by first | rfl | (simp_all <;> fail) | fail, trivial⟩ ⟨by first | rfl | exact congrArg (fun e => some (AObj.mk _ _ _ e)) (app_snoc hx rfl) | fail | fail, trivial⟩ (by (try dsimp only); first | (exact ⟨fun s hs => by simp at hs, Nat.zero_le _⟩) | fail) ?_; (conv => whnf); refine side_and (side_of (by first | exact fun k => rfl | exact fun k => by simp [headOk, closedE, closedO, closedL, AV.closed, hcap.closed, hasId, AObj.box, BK.ofB])) ?_; rintro k hT; try dsimp only at hT))
 | (refine Again_of (k + 1) ⟨by first | rfl | exact i64_next (by omega) | (simp_all <;> fail) | fail, by first | rfl | (simp_all <;> fail) | fail, trivial⟩ ⟨by first | rfl | exact congrArg (fun e => some (AObj.mk _ _ _ e)) (app_snoc hx rfl) | fail | fail, trivial⟩ (by first | (and_intros <;> first | rfl | trivial) | fail) (by first | (and_intros <;> first | rfl | trivial) | fail) rfl rfl rfl (by (try dsimp only); first | (exact ⟨okAll_next hT.1 hx ‹_›, by omega⟩) | fail) (show _ < _ by (try dsimp only); omega))
 | refine CallF (c_spec_FramesOn d hw) rfl rfl rfl (nbT rfl) ?_
 | refine CallF (c_spec_ReadEntry x (by have := f3 x (mgE hx); omega)) rfl rfl rfl (nbT rfl) ?_
 | refine sdA (by first | (and_intros <;> first | exact nbT rfl | rfl | omega | (simp only [lensB, lensC]; omega) | exact bytes_ok (nbT rfl) (by omega) (by simp only [lensB, lensC]; omega) | exact bytes_okN (nbT rfl) (by simp only [lensB, lensC]; omega)) | fail) ?_
 | refine LoadK_of rfl rfl ?_
 | fail
  all_goals
    conv => whnf
    first
    | (have e := okOnD_bad hx ‹_›; rw [onD_no e, e]; exact OutA_nilS 2 rfl (by (conv => whnf); exact OutA_plain rfl rfl rfl))
    | (refine OutA_frz [1] ?_
       conv => whnf
       exact OutA_plain rfl rfl (onD_end hT.1 (by omega)))
theorem onD_ok (d : DiskT) : okL EntryT.ok (onD d) /\ cntL EntryT.cnt (onD d) <= 1000000000000000 := by
  cases h : okOnD d with
  | false => rw [onD_no h]; exact ⟨⟨Nat.zero_le _, fun _ h => by cases h⟩, Nat.zero_le _⟩
  | true =>
    have h1 : okDsk d = true := by unfold okOnD at h; rw [baT] at h; exact h.1
    have hw2 := okDsk_w h1
    have hl := dskB_len d
    obtain ⟨f1, f2, f3⟩ := frames_ok (b := dskB d)
    rw [onD_yes h]
    generalize (frames (dskB d) 0).1 = fs at f2
    refine ⟨⟨by rw [List.length_map]; omega, fun x hx => ?_⟩, ?_⟩
    · obtain ⟨y, _, rfl⟩ := List.mem_map.1 hx
      exact small_ok outE_small
    · have key : ∀ fs : List (List UInt8), cntL EntryT.cnt (fs.map outE) <= fs.length * 200000000 := by
        intro fs
        induction fs with
        | nil => exact Nat.zero_le _
        | cons x xs ih =>
          have h3 := EntryT.cnt_w (outE x)
          have h4 : EntryT.w (outE x) <= 1048576 := outE_small.w
          simp only [cntL, List.map_cons, List.sum_cons, List.length_cons] at ih ⊢
          omega
      have := key fs
      have : fs.length * 200000000 <= 50000 * 200000000 := Nat.mul_le_mul_right _ (by omega)
      omega
def fitsL (term : Int) (r : ReplicaT) (L : List EntryT) (n k : Nat) : Bool :=
  match r.Up with
  | true => decide (L = r.Log) && decide ((n : Int) = (k : Int))
  | false => preE L r.Log && (decide ((L.length : Int) = (r.Log.length : Int)) || (decide ((L.length : Int) = (r.Log.length : Int) + 1) && inB (lastE r.Log) (lastE L) term))
def mendB (d : DiskT) : Bool := okDsk d && decide (d.Loose = [])
def fitsD (term : Int) (r : ReplicaT) (d : DiskT) : Bool := (mendB d && (frames d.Kept 0).1.all okE) && fitsL term r ((frames d.Kept 0).1.map outE) (frames d.Kept 0).2 d.Kept.length
theorem mendB_of {d : DiskT} (h : mendB d = true) : okDsk d = true /\ d.Loose = [] /\ dskB d = d.Kept := by
  unfold mendB at h
  rw [baT, decide_eq_true_eq] at h
  exact ⟨h.1, h.2, by unfold dskB; rw [h.2, List.append_nil]⟩
theorem c_impl_isMendable (d : DiskT) (hw : d.w <= 1048576) : PC Tryz.prog false 70 [.agg d.cells] (.bool (mendB d)) [] := by
  refine pc_at Tryz.func70 rfl (by kernel_rfl) 10 [.tmp 2] rfl rfl ?_
  repeat' (conv => whnf); first
 | (refine nameB_cases (b := okDsk d) (fun h => ?_) (fun h => ?_))
 | (refine nameB_cases (fun h => ?_) (fun h => ?_) <;> try simp only [nmL, lensB] at h)
 | refine splitB_true ?_
 | refine splitB_false ?_
 | refine Call0 (c_impl_GoodDisk d hw) rfl rfl ?_
 | refine sdA (by first | exact nbT rfl | exact rfl | omega | fail) ?_
 | fail
  all_goals
    conv => whnf
    refine OutA_plain rfl rfl ?_
    first
    | (rw [mendB, (by assumption : okDsk d = true), decide_eq_true ‹_›]; rfl)
    | (rw [mendB, (by assumption : okDsk d = true), decide_eq_false ‹_›]; rfl)
    | (rw [mendB, (by assumption : okDsk d = false)]; rfl)
theorem preE_le {a b : List EntryT} (h : preE a b = true) : b.length <= a.length := by
  unfold preE at h
  have := of_decide_eq_true h
  have h2 := congrArg List.length this
  rw [List.length_take] at h2
  omega
theorem c_impl_fits_no (g : GroupT) (r : ReplicaT) (d : DiskT) (hd : d.w <= 1048576) (hm : mendB d = false) : PC Tryz.prog false 33 [.agg g.cells, .agg r.cells, .agg d.cells] (.bool false) [] := by
  refine pc_at Tryz.func33 rfl (by kernel_rfl) 64 [.tmp 6] rfl rfl ?_
  repeat' (conv => whnf); first
 | refine nameB_no (b := mendB d) hm ?_
 | refine nameB_true ?_
 | refine splitB_true ?_
 | refine Call0 (c_impl_isMendable d hd) rfl rfl ?_
 | refine sdA (by first | exact nbT rfl | exact rfl | omega | fail) ?_
 | fail
  all_goals
    conv => whnf
    exact OutA_plain rfl rfl rfl
theorem c_impl_fits_bad (g : GroupT) (r : ReplicaT) (d : DiskT) (hd : d.w <= 1048576) (hm : mendB d = true) (hb : PC Tryz.prog false 56 [.agg d.cells] (.tup [.nil, .int .i64 0, .bool false]) []) : PC Tryz.prog false 33 [.agg g.cells, .agg r.cells, .agg d.cells] (.bool false) [] := by
  refine pc_at Tryz.func33 rfl (by kernel_rfl) 64 [.tmp 6] rfl rfl ?_
  repeat' (conv => whnf); first
 | refine nameB_yes (b := mendB d) hm ?_
 | refine nameB_true ?_
 | refine nameB_false ?_
 | refine splitB_true ?_
 | refine splitB_false ?_
 | refine Call0 (c_impl_isMendable d hd) rfl rfl ?_
 | refine Call0 (hb) rfl rfl ?_
 | refine sdA (by first | exact nbT rfl | exact rfl | omega | fail) ?_
 | fail
  all_goals
    conv => whnf
    exact OutA_plain rfl rfl rfl
theorem c_impl_fits_up (g : GroupT) (r : ReplicaT) (d : DiskT) (L : List EntryT) (n : Nat) (hu : r.Up = true) (hL : okL EntryT.ok L) (hd : d.w <= 1048576) (hm : mendB d = true) (hb : PC Tryz.prog false 56 [.agg d.cells] (.tup [.own 0, .int .i64 (n : Nat), .bool true]) [⟨.deep EntryT.shp, 50, 8, L.map EntryT.cells⟩]) : PC Tryz.prog false 33 [.agg g.cells, .agg r.cells, .agg d.cells] (.bool (fitsL g.Term r L n d.Kept.length)) [] := by
  refine pc_at Tryz.func33 rfl (by kernel_rfl) 64 [.tmp 6] rfl rfl ?_
  repeat' (conv => whnf); first
 | refine nameB_yes (b := mendB d) hm ?_
 | refine nameB_yes (b := r.Up) hu ?_
 | refine nameB_false ?_
 | (refine nameB_dec (fun h => ?_) (fun h => ?_) <;> try simp only [lensB] at h)
 | refine splitB_true ?_
 | refine splitB_false ?_
 | refine Call0 (c_impl_isMendable d hd) rfl rfl ?_
 | refine CallF (hb) rfl rfl rfl (nbT rfl) ?_
 | refine Call0 (c_impl_sameEntries L r.Log hL) rfl rfl ?_
 | refine sdA (by first | exact nbT rfl | exact rfl | omega | fail) ?_
 | fail
  all_goals
    conv => whnf
    refine OutA_plain rfl rfl ?_
    unfold fitsL
    rw [hu]
    first
    | (rw [decide_eq_false (show ¬ L = r.Log by assumption)]; rfl)
    | (rw [decide_eq_true (show L = r.Log by assumption), decide_eq_true ‹_›]; rfl)
    | (rw [decide_eq_true (show L = r.Log by assumption), decide_eq_false ‹_›]; rfl)
    | rfl
theorem c_impl_fits_down (g : GroupT) (r : ReplicaT) (d : DiskT) (L : List EntryT) (n : Nat) (hu : r.Up = false) (hL : okL EntryT.ok L) (hLl : L.length <= 1048575) (hr : r.Log.length <= 1048575) (hd : d.w <= 1048576) (hm : mendB d = true) (hb : PC Tryz.prog false 56 [.agg d.cells] (.tup [.own 0, .int .i64 (n : Nat), .bool true]) [⟨.deep EntryT.shp, 50, 8, L.map EntryT.cells⟩]) : PC Tryz.prog false 33 [.agg g.cells, .agg r.cells, .agg d.cells] (.bool (fitsL g.Term r L n d.Kept.length)) [] := by
  have hw : IntKind.i64.wrap ((r.Log.length : Int) + 1) = (r.Log.length : Int) + 1 := i64w (by omega) (by omega)
  refine pc_at Tryz.func33 rfl (by kernel_rfl) 64 [.tmp 6] rfl rfl ?_
  repeat' (conv => whnf); first
 | refine nameB_yes (b := mendB d) hm ?_
 | refine nameB_no (b := r.Up) hu ?_
 | (refine nameB_cases (b := preE L r.Log) (fun h => ?_) (fun h => ?_))
 | (rw [hw] at h)
 | refine nameB_true ?_
 | refine nameB_false ?_
 | (refine nameB_dec (fun h => ?_) (fun h => ?_) <;> try simp only [lensB] at h)
 | (refine nameB_cases (fun h => ?_) (fun h => ?_) <;> try simp only [nmL, lensB] at h)
 | refine splitB_true ?_
 | refine splitB_false ?_
 | refine draw_text (by kernel_rfl) (by kernel_rfl) (by kernel_rfl) ?_
 | refine Call0 (c_impl_isMendable d hd) rfl rfl ?_
 | refine CallF (hb) rfl rfl rfl (nbT rfl) ?_
 | refine Call0 (c_impl_hasPrefix L r.Log hL (by omega)) rfl rfl ?_
 | refine CallD0 (c_impl_lastTerm L (by omega)) rfl rfl rfl ?_
 | refine CallD0 (c_impl_lastTerm r.Log (by omega)) rfl rfl rfl ?_
 | refine CallD0 (c_impl_within ..) rfl rfl rfl ?_
 | refine sdA (by first | exact nbT rfl | exact rfl | omega | fail) ?_
 | fail
  all_goals
    conv => whnf
    refine OutA_plain rfl rfl ?_
    unfold fitsL
    rw [hu]
    first
    | (rw [(by assumption : preE L r.Log = false)]; rfl)
    | (have q := preE_le (by assumption : preE L r.Log = true)
       rw [(by assumption : preE L r.Log = true)]
       first
       | (rw [decide_eq_true (by assumption : (L.length : Int) = (r.Log.length : Int))]; rfl)
       | (rw [decide_eq_false (show ¬ (L.length : Int) = (r.Log.length : Int) by omega), decide_eq_false (show ¬ (L.length : Int) = (r.Log.length : Int) + 1 by omega)]; rfl)
       | (rw [decide_eq_false (show ¬ (L.length : Int) = (r.Log.length : Int) by omega), decide_eq_true (show (L.length : Int) = (r.Log.length : Int) + 1 by omega), (by assumption : inB (lastE r.Log) (lastE L) g.Term = true)]; rfl)
       | (rw [decide_eq_false (show ¬ (L.length : Int) = (r.Log.length : Int) by omega), decide_eq_true (show (L.length : Int) = (r.Log.length : Int) + 1 by omega), (by assumption : inB (lastE r.Log) (lastE L) g.Term = false)]; rfl))
theorem c_impl_fitsDisk (g : GroupT) (r : ReplicaT) (d : DiskT) (hr : r.Log.length <= 1048575) (hd : d.w <= 1048576) : PC Tryz.prog false 33 [.agg g.cells, .agg r.cells, .agg d.cells] (.bool (fitsD g.Term r d)) [] := by
  cases hm : mendB d with
  | false =>
    have e : fitsD g.Term r d = false := by unfold fitsD; rw [hm]; rfl
    rw [e]
    exact c_impl_fits_no g r d hd hm
  | true =>
    obtain ⟨m1, m2, m3⟩ := mendB_of hm
    have hw2 := okDsk_w m1
    cases ha : (frames d.Kept 0).1.all okE with
    | false =>
      have e : fitsD g.Term r d = false := by unfold fitsD; rw [hm, ha]; rfl
      rw [e]
      exact c_impl_fits_bad g r d hd hm (c_impl_onDisk_no d (by omega) (by rw [m3]; exact ha))
    | true =>
      have e : fitsD g.Term r d = fitsL g.Term r ((frames d.Kept 0).1.map outE) (frames d.Kept 0).2 d.Kept.length := by unfold fitsD; rw [hm, ha]; rfl
      rw [e]
      have hy := c_impl_onDisk_yes d (by omega) (by rw [m3]; exact ha)
      rw [m3] at hy
      obtain ⟨f1, f2, f3⟩ := frames_ok (b := d.Kept)
      have hk : d.Kept.length <= 50000 := by have : d.w = d.Kept.length + d.Loose.length := rfl; omega
      have hL : okL EntryT.ok ((frames d.Kept 0).1.map outE) := ⟨by rw [List.length_map]; omega, fun x hx => by
        obtain ⟨z, _, rfl⟩ := List.mem_map.1 hx
        exact small_ok outE_small⟩
      cases hu : r.Up with
      | true => exact c_impl_fits_up g r d _ _ hu hL hd hm hy
      | false => exact c_impl_fits_down g r d _ _ hu hL (by rw [List.length_map]; omega) hr hd hm hy
theorem last_at {L : List EntryT} {y : EntryT} {m : Nat} (h : L[m]? = some y) (hl : L.length = m + 1) : lastE L = y.Term := by
  unfold lastE
  rw [List.getLast?_eq_getElem?, hl, Nat.add_sub_cancel, h]
def fitsS (term : Int) (r : ReplicaT) (d : DiskT) : Bool := ((okOnD d && decide (d.Loose = [])) && preE (onD d) r.Log) && fitsL term r (onD d) (frames d.Kept 0).2 d.Kept.length
theorem preE_self {a b : List EntryT} (h : a = b) : preE a b = true := by
  subst h
  unfold preE
  rw [List.take_length]
  exact decide_eq_true rfl
theorem fits_same {term : Int} {r : ReplicaT} {d : DiskT} : fitsS term r d = fitsD term r d := by
  unfold fitsS fitsD
  cases h1 : okDsk d with
  | false =>
    have e1 : okOnD d = false := by unfold okOnD; rw [h1]; rfl
    have e2 : mendB d = false := by unfold mendB; rw [h1]; rfl
    rw [e1, e2]
    rfl
  | true =>
    by_cases h2 : d.Loose = []
    · have e0 : dskB d = d.Kept := by unfold dskB; rw [h2, List.append_nil]
      have e1 : mendB d = true := by unfold mendB; rw [h1, decide_eq_true h2]; rfl
      have e2 : okOnD d = (frames d.Kept 0).1.all okE := by unfold okOnD; rw [h1, e0]; rfl
      rw [e1, e2, decide_eq_true h2]
      cases h3 : (frames d.Kept 0).1.all okE with
      | false => rfl
      | true =>
        have e3 : onD d = (frames d.Kept 0).1.map outE := by rw [onD_yes (by rw [e2]; exact h3), e0]
        rw [e3]
        generalize (frames d.Kept 0).1.map outE = L
        simp only [Bool.and_true, Bool.true_and]
        cases hp : preE L r.Log with
        | true => rfl
        | false =>
          unfold fitsL
          rw [Bool.false_and]
          cases r.Up with
          | true =>
            simp only
            rw [decide_eq_false (fun e => by rw [preE_self e] at hp; cases hp)]
            rfl
          | false =>
            simp only
            rw [hp]
            rfl
    · have e1 : mendB d = false := by unfold mendB; rw [decide_eq_false h2]; simp
      rw [e1, decide_eq_false h2]
      simp
theorem ix_ents {L : List EntryT} {n m : Nat} {Q : List AV -> Prop} (e : n = m) (h : m < L.length) (hQ : ∀ x, L[m]? = some x -> Q x.cells) : ∃ y, (L.map EntryT.cells)[n]? = some y /\ Q y := by
  subst e
  exact ⟨EntryT.cells L[n], by simp [h], hQ _ (by simp [h])⟩
theorem preE_eq {a b : List EntryT} (h : preE a b = true) (hl : (a.length : Int) = (b.length : Int)) : a = b := by
  unfold preE at h
  have := of_decide_eq_true h
  rw [List.take_of_length_le (by omega)] at this
  exact this
theorem fitsS_no {term : Int} {r : ReplicaT} {d : DiskT} (h : okOnD d = false \/ ¬ d.Loose = [] \/ preE (onD d) r.Log = false) : fitsS term r d = false := by
  unfold fitsS
  rcases h with h | h | h
  · rw [h]; rfl
  · rw [decide_eq_false h]; simp
  · rw [h]; simp
theorem fitsS_val {term : Int} {r : ReplicaT} {d : DiskT} (h1 : okOnD d = true) (h2 : d.Loose = []) (h3 : preE (onD d) r.Log = true) : fitsS term r d = fitsL term r (onD d) (frames d.Kept 0).2 d.Kept.length := by
  unfold fitsS
  rw [h1, decide_eq_true h2, h3]
  rfl
theorem fits_up {term : Int} {r : ReplicaT} {L : List EntryT} {n k : Nat} (hu : r.Up = true) (hp : preE L r.Log = true) : (¬ (L.length : Int) = (r.Log.length : Int) -> fitsL term r L n k = false) /\ ((L.length : Int) = (r.Log.length : Int) -> fitsL term r L n k = decide ((n : Int) = (k : Int))) := by
  unfold fitsL
  rw [hu]
  refine ⟨fun h => ?_, fun h => ?_⟩
  · simp only
    rw [decide_eq_false (fun e => h (by rw [e]))]
    rfl
  · simp only
    rw [decide_eq_true (preE_eq hp h)]
    rfl
theorem fits_down {term : Int} {r : ReplicaT} {L : List EntryT} {n k : Nat} (hu : r.Up = false) (hp : preE L r.Log = true) : ((L.length : Int) = (r.Log.length : Int) -> fitsL term r L n k = true) /\ (¬ (L.length : Int) = (r.Log.length : Int) -> fitsL term r L n k = (decide ((L.length : Int) = (r.Log.length : Int) + 1) && inB (lastE r.Log) (lastE L) term)) := by
  unfold fitsL
  rw [hu]
  refine ⟨fun h => ?_, fun h => ?_⟩
  · simp only
    rw [hp, decide_eq_true h]
    rfl
  · simp only
    rw [hp, decide_eq_false h]
    rfl
theorem c_spec_l11Fits (d : DiskT) (r : ReplicaT) (term : Int) (hg : okDsk d = true) (hr : r.Log.length <= 1048575) : PC Tryz.prog true 59 [.agg d.cells, .agg r.cells, .int .i64 term] (.bool (fitsS term r d)) [] := by
  have hw2 := okDsk_w hg
  have hk : d.w = d.Kept.length + d.Loose.length := rfl
  obtain ⟨o1, o2⟩ := onD_ok d
  have o3 : (onD d).length <= 50000 := by
    cases h : okOnD d with
    | false => rw [onD_no h]; exact Nat.zero_le _
    | true =>
      rw [onD_yes h, List.length_map]
      have := (frames_ok (b := dskB d)).2.1
      have := dskB_len d
      omega
  have hw : IntKind.i64.wrap ((r.Log.length : Int) + 1) = (r.Log.length : Int) + 1 := i64w (by omega) (by omega)
  have hb := c_spec_l9Begins (onD d) r.Log r.Log.length o1 (by omega) (by omega) (Nat.le_refl _)
  rw [List.take_length] at hb
  refine pc_at Tryz.func59 rfl (by kernel_rfl) 88 [.tmp 6] rfl rfl ?_
  repeat' (conv => whnf); first
 | (rw [hw] at h)
 | (refine nameB_cases (b := okOnD d) (fun h => ?_) (fun h => ?_))
 | (refine nameB_cases (b := preE (onD d) r.Log) (fun h => ?_) (fun h => ?_))
 | (refine nameB_cases (b := r.Up) (fun h => ?_) (fun h => ?_))
 | refine ix_ents (m := r.Log.length) (by simp) (by omega) (fun y hy => ?_)
 | refine nameB_true ?_
 | refine nameB_false ?_
 | (refine nameB_dec (fun h => ?_) (fun h => ?_) <;> try simp only [lensB] at h)
 | (refine nameB_cases (fun h => ?_) (fun h => ?_) <;> try simp only [nmL, lensB] at h)
 | refine splitB_true ?_
 | refine splitB_false ?_
 | refine draw_text (by kernel_rfl) (by kernel_rfl) (by kernel_rfl) ?_
 | refine CallT (c_spec_OnDisk d (by omega)) rfl rfl rfl rfl (nbT rfl) ?_
 | refine CallF (c_spec_l6Frames d.Kept (by omega)) rfl rfl rfl (nbT rfl) ?_
 | refine Call0 hb (congrArg (fun z : Nat => [AV.sl ((onD d).map EntryT.cells), AV.sl (r.Log.map EntryT.cells), AV.int .i64 (z : Int)]) (List.length_map _)) rfl ?_
 | refine CallD0 (c_spec_l9Last r.Log (by omega)) rfl rfl rfl ?_
 | refine CallD0 (c_spec_l1In ..) rfl rfl rfl ?_
 | refine sdA (by first | exact nbT rfl | exact rfl | omega | fail) ?_
 | refine LoadK_of rfl rfl ?_
 | fail
  all_goals
    conv => whnf
    refine OutA_plain rfl rfl ?_
    first
    | (rw [fitsS_no (by first | exact .inl ‹_› | exact .inr (.inl ‹_›) | exact .inr (.inr ‹_›))]; rfl)
    | (exfalso; have q1 : r.Up = true := ‹_›; have q2 : r.Up = false := ‹_›; rw [q1] at q2; cases q2)
    | (exfalso; omega)
    | (rw [fitsS_val ‹_› ‹_› ‹_›, (fits_up ‹_› ‹_›).2 ‹_›, decide_eq_true ‹_›]; rfl)
    | (rw [fitsS_val ‹_› ‹_› ‹_›, (fits_up ‹_› ‹_›).2 ‹_›, decide_eq_false ‹_›]; rfl)
    | (rw [fitsS_val ‹_› ‹_› ‹_›, (fits_up ‹_› ‹_›).1 ‹_›]; rfl)
    | (rw [fitsS_val ‹_› ‹_› ‹_›, (fits_down ‹_› ‹_›).1 ‹_›]; rfl)
    | (rw [fitsS_val ‹_› ‹_› ‹_›, (fits_down ‹_› ‹_›).2 ‹_›, decide_eq_false ‹_›]; rfl)
    | (have hla := last_at hy (by omega)
       rw [fitsS_val ‹_› ‹_› ‹_›, (fits_down ‹_› ‹_›).2 ‹_›, decide_eq_true ‹_›, hla]
       first | (rw [(by assumption : inB _ y.Term term = true)]; rfl) | (rw [(by assumption : inB _ y.Term term = false)]; rfl) | rfl)
theorem c_spec_l11Fits2 (d : DiskT) (r : ReplicaT) (term : Int) (hg : okDsk d = true) (hr : r.Log.length <= 1048575) : PC Tryz.prog true 59 [.agg d.cells, .agg r.cells, .int .i64 term] (.bool (fitsD term r d)) [] := by
  have := c_spec_l11Fits d r term hg hr
  rw [fits_same] at this
  exact this
theorem wL_memS {α : Type} {w : α -> Nat} {xs : List α} {x : α} (h : x ∈ xs) : w x + 1 <= wL w xs := by
  induction xs with
  | nil => simp at h
  | cons y ys ih =>
    simp only [wL, List.map_cons, List.sum_cons, List.length_cons] at ih ⊢
    rcases List.mem_cons.1 h with rfl | h
    · omega
    · have := ih h
      omega
def pairF (term : Int) (p : ReplicaT × DiskT) : Bool := fitsD term p.1 p.2
def okHouse (h : HouseT) : Bool := (okGroup h.Group && decide ((h.Disks.length : Int) = (h.Group.Reps.length : Int))) && (h.Group.Reps.zip h.Disks).all (pairF h.Group.Term)
theorem zip_at {xs : List ReplicaT} {ys : List DiskT} {k : Nat} {x : ReplicaT} {y : DiskT} (hx : xs[k]? = some x) (hy : ys[k]? = some y) : (xs.zip ys)[k]? = some (x, y) := by
  rw [List.getElem?_zip_eq_some]
  exact ⟨hx, hy⟩
structure HB (h : HouseT) : Prop where
  gb : GB h.Group
  log : ∀ x ∈ h.Group.Reps, x.Log.length <= 1048575
  dl : h.Disks.length <= 1048576
  dw : ∀ d ∈ h.Disks, d.w <= 1048576
theorem hb_of {h : HouseT} (hw : h.w <= 1048576) : HB h := by
  have e : h.w = h.Group.w + wL DiskT.w h.Disks := rfl
  refine ⟨gb_of (by omega), fun x hx => ?_, ?_, fun d hd => ?_⟩
  · have h1 := wL_memS (w := ReplicaT.w) hx
    have h2 : wL EntryT.w x.Log + 1 <= h.Group.w := h1
    have := wL_len (w := EntryT.w) (xs := x.Log)
    omega
  · have := wL_len (w := DiskT.w) (xs := h.Disks)
    omega
  · have := (wL_mem (w := DiskT.w) hd).2
    omega
theorem fits_gone {term : Int} {r : ReplicaT} {d : DiskT} (h : okDsk d = false) : fitsD term r d = false := by
  unfold fitsD mendB
  rw [h]
  rfl
theorem okH_no {H : HouseT} (h : okGroup H.Group = false \/ ¬ (H.Disks.length : Int) = (H.Group.Reps.length : Int) \/ (H.Group.Reps.zip H.Disks).all (pairF H.Group.Term) = false) : okHouse H = false := by
  unfold okHouse
  rcases h with h | h | h
  · rw [h]; rfl
  · rw [decide_eq_false h]; simp
  · rw [h]; simp
theorem okH_yes {H : HouseT} (h1 : okGroup H.Group = true) (h2 : (H.Disks.length : Int) = (H.Group.Reps.length : Int)) (h3 : (H.Group.Reps.zip H.Disks).all (pairF H.Group.Term) = true) : okHouse H = true := by
  unfold okHouse
  rw [h1, decide_eq_true h2, h3]
  rfl
theorem bad_dsk {H : HouseT} {k : Nat} {y : DiskT} (hl : (H.Disks.length : Int) = (H.Group.Reps.length : Int)) (hT : ((H.Group.Reps.zip H.Disks).drop k).all (pairF H.Group.Term) = (H.Group.Reps.zip H.Disks).all (pairF H.Group.Term)) (hy : H.Disks[k]? = some y) (h : okDsk y = false) : (H.Group.Reps.zip H.Disks).all (pairF H.Group.Term) = false := by
  have hk : k < H.Disks.length := (List.getElem?_eq_some_iff.1 hy).1
  have hx : H.Group.Reps[k]? = some (H.Group.Reps[k]'(by omega)) := List.getElem?_eq_getElem _
  exact all_bad hT (zip_at hx hy) (fits_gone h)
theorem c_impl_GoodHouse (H : HouseT) (hok : H.ok) (hb : HB H) : PC Tryz.prog false 12 [.agg H.cells] (.bool (okHouse H)) [] := by
  have hw1 := hb.gb
  have hw2 := hb.dw
  have hl := reps_len hw1
  refine pc_at Tryz.func12 rfl (by kernel_rfl) 39 [.tmp 2] rfl rfl ?_
  repeat' (conv => whnf); first
 | (refine nameB_cases (b := okGroup H.Group) (fun h => ?_) (fun h => ?_))
 | (refine nameB_cases (b := fitsD H.Group.Term x y) (fun h => ?_) (fun h => ?_))
 | refine nameB_true ?_
 | refine nameB_false ?_
 | (refine nameB_dec (fun h => ?_) (fun h => ?_) <;> try simp only [lensB] at h)
 | (refine nameB_cases (fun h => ?_) (fun h => ?_) <;> try simp only [nmL, lensB] at h)
 | refine splitB_true ?_
 | refine splitB_false ?_
 | refine draw_text (by kernel_rfl) (by kernel_rfl) (by kernel_rfl) ?_
 | ((refine Loop_at [1, 21, 22] [0] (Nat) (fun k => ((H.Group.Reps.zip H.Disks).drop k).all (pairF H.Group.Term) = (H.Group.Reps.zip H.Disks).all (pairF H.Group.Term) /\ k <= H.Group.Reps.length) (fun k => [(23, .int .i64 (k : Nat))]) (fun k => []) (fun k => H.Group.Reps.length - k) 0 ⟨by first | (simp_all <;> fail) | rfl | fail, trivial⟩ trivial (by (try dsimp only); first | (exact ⟨rfl, Nat.zero_le _⟩) | fail) ?_; (conv => whnf); refine side_and (side_of (by first | exact fun k => rfl | exact fun k => by simp [headOk, closedE, closedO, closedL, AV.closed, hcap.closed, hasId, AObj.box, BK.ofB])) ?_; rintro k hT; try dsimp only at hT))
 | (refine Again_of (k + 1) ⟨by first | rfl | exact i64_next (by omega) | (simp_all <;> fail) | fail, trivial⟩ trivial (by first | (and_intros <;> first | rfl | trivial) | fail) (by first | (and_intros <;> first | rfl | trivial) | fail) rfl rfl rfl (by (try dsimp only); first | (exact ⟨all_go hT.1 (zip_at hx hy) ‹_›, by omega⟩) | fail) (show _ < _ by (try dsimp only); omega))
 | refine Call0 (c_impl_GoodGroup H.Group hok.1 hw1) rfl rfl ?_
 | refine CallD0 (c_impl_fitsDisk H.Group x y (hb.log x (mgE hx)) (hw2 y (mgE hy))) rfl rfl rfl ?_
 | (refine ix_map2 hx (by omega) (by (try simp only [List.length_take]); omega) (fun y hy => ?_); try simp only [Int.toNat_natCast] at hy)
 | (refine ix_map (by omega) (by (try simp only [List.length_take]); omega) (fun x hx => ?_); try simp only [Int.toNat_natCast] at hx)
 | refine sdA ⟨nbT rfl, rfl⟩ ?_
 | refine sdA (by first | exact nbT rfl | exact rfl | omega | fail) ?_
 | refine sdA (by first | (and_intros <;> first | rfl | omega | exact nbT rfl) | fail) ?_
 | refine LoadK_of rfl rfl ?_
 | fail
  all_goals
    conv => whnf
    refine OutA_plain rfl rfl ?_
    first
    | (have hb := all_bad hT.1 (zip_at hx hy) ‹_›; rw [okH_no (.inr (.inr hb))]; rfl)
    | (have hb := all_end hT.1 (by rw [List.length_zip]; omega); rw [okH_yes ‹_› ‹_› hb]; rfl)
    | (rw [okH_no (by first | exact .inl ‹_› | exact .inr (.inl ‹_›))]; rfl)
theorem c_spec_l11Good (H : HouseT) (hok : H.ok) (hb : HB H) : PC Tryz.prog true 28 [.agg H.cells] (.bool (okHouse H)) [] := by
  have hw1 := hb.gb
  have hw2 := hb.dw
  have hl := reps_len hw1
  have hdl := hb.dl
  refine pc_at Tryz.func28 rfl (by kernel_rfl) 50 [.tmp 2] rfl rfl ?_
  repeat' (conv => whnf); first
 | (refine nameB_cases (b := okGroup H.Group) (fun h => ?_) (fun h => ?_))
 | (refine nameB_cases (b := fitsD H.Group.Term x y) (fun h => ?_) (fun h => ?_))
 | (refine nameB_cases (b := okDsk y) (fun h => ?_) (fun h => ?_))
 | refine ix_at (f := DiskT.cells) (m := k) rfl hy ?_
 | (refine ix_as (f := DiskT.cells) (m := k) rfl (by omega) (fun y hy => ?_))
 | (refine ix_as (f := ReplicaT.cells) (m := k) rfl (by omega) (fun x hx => ?_))
 | refine nameB_true ?_
 | refine nameB_false ?_
 | (refine nameB_dec (fun h => ?_) (fun h => ?_) <;> try simp only [lensB] at h)
 | (refine nameB_cases (fun h => ?_) (fun h => ?_) <;> try simp only [nmL, lensB] at h)
 | refine splitB_true ?_
 | refine splitB_false ?_
 | refine draw_text (by kernel_rfl) (by kernel_rfl) (by kernel_rfl) ?_
 | ((refine Loop_at [1] [0] (Nat) (fun k => ((H.Group.Reps.zip H.Disks).drop k).all (pairF H.Group.Term) = (H.Group.Reps.zip H.Disks).all (pairF H.Group.Term) /\ k <= H.Disks.length) (fun k => [(3, .int .i64 (k : Nat))]) (fun k => []) (fun k => H.Disks.length - k) 0 ⟨by first | (simp_all <;> fail) | rfl | fail, trivial⟩ trivial (by (try dsimp only); first | (exact ⟨rfl, Nat.zero_le _⟩) | fail) ?_; (conv => whnf); refine side_and (side_of (by first | exact fun k => rfl | exact fun k => by simp [headOk, closedE, closedO, closedL, AV.closed, hcap.closed, hasId, AObj.box, BK.ofB])) ?_; rintro k hT; try dsimp only at hT))
 | (refine Again_of (k + 1) ⟨by first | rfl | exact i64_next (by omega) | (simp_all <;> fail) | fail, trivial⟩ trivial (by first | (and_intros <;> first | rfl | trivial) | fail) (by first | (and_intros <;> first | rfl | trivial) | fail) rfl rfl rfl (by (try dsimp only); first | (exact ⟨all_go hT.1 (zip_at hx hy) ‹_›, by omega⟩) | fail) (show _ < _ by (try dsimp only); omega))
 | refine Call0 (c_spec_GoodGroup H.Group hok.1 hw1) rfl rfl ?_
 | refine CallD0 (c_spec_GoodDisk y (hw2 y (mgE hy))) rfl rfl rfl ?_
 | refine CallDT (c_spec_l11Fits2 y x H.Group.Term ‹_› (hb.log x (mgE hx))) rfl rfl rfl ⟨rfl, rfl⟩ ?_
 | refine sdA (by first | exact nbT rfl | exact rfl | omega | fail) ?_
 | refine LoadK_of rfl rfl ?_
 | fail
  all_goals
    conv => whnf
    refine OutA_plain rfl rfl ?_
    first
    | (rw [okH_no (by first | exact .inl ‹_› | exact .inr (.inl ‹_›))]; rfl)
    | (have hb := all_bad hT.1 (zip_at hx hy) ‹_›; rw [okH_no (.inr (.inr hb))]; rfl)
    | (have hb := bad_dsk ‹_› hT.1 hy ‹_›; rw [okH_no (.inr (.inr hb))]; rfl)
    | (have hb := all_end hT.1 (by rw [List.length_zip]; omega); rw [okH_yes ‹_› ‹_› hb]; rfl)
@[irreducible] def frB (s : List UInt8) : List UInt8 := numB (s.length : Nat) ++ sealB s
theorem frB_len {s : List UInt8} : (frB s).length <= 2 * s.length + 4 := by
  have h1 := numB_len (s.length : Nat)
  have h2 : (sealB s).length = s.length + 3 := (by unfold sealB threeB; simp)
  unfold frB
  rw [laT]
  omega
theorem c_impl_frameBytes (s : List UInt8) (h : s.length <= 500000000) : PC Tryz.prog false 94 [.str s] (.str (frB s)) [] := by
  refine pc_at Tryz.func94 rfl (by kernel_rfl) 9 [.tmp 2] rfl rfl ?_
  repeat' (conv => whnf); first
 | exact side_of (by have h1 := numB_len (s.length : Nat); have h2 : (sealB s).length = s.length + 3 := (by unfold sealB threeB; simp); omega)
 | refine Call0 (c_impl_numBytes9 (s.length : Nat) (by omega) (by omega)) rfl rfl ?_
 | refine Call0 (c_impl_seal s (by omega)) rfl rfl ?_
 | refine side_and ?_ ?_
 | fail
  all_goals
    conv => whnf
    exact OutA_plain rfl rfl (by unfold frB; rfl)
theorem c_spec_l6FrameW (s : List UInt8) (h : s.length <= 500000000) : PC Tryz.prog false 41 [.str s] (.str (frB s)) [] := by
  refine pc_at Tryz.func41 rfl (by kernel_rfl) 9 [.tmp 2] rfl rfl ?_
  repeat' (conv => whnf); first
 | exact side_of (by have h1 := numB_len (s.length : Nat); have h2 : (sealB s).length = s.length + 3 := (by unfold sealB threeB; simp); omega)
 | refine Call0 (c_spec_l1NumB9 (s.length : Nat) (by omega) (by omega)) rfl rfl ?_
 | refine Call0 (c_spec_l1Seal s (by omega)) rfl rfl ?_
 | refine side_and ?_ ?_
 | fail
  all_goals
    conv => whnf
    exact OutA_plain rfl rfl (by unfold frB; rfl)
def entIn (e : EntryT) : Prop := okRec e.Rec = true /\ (0 <= e.Term /\ e.Term <= 200) /\ e.w <= 1048576
theorem entB_len {e : EntryT} (h : entIn e) : (entB e).length <= 40000300 := by
  have h1 := numB_len e.Term
  have h2 := recB_len h.1 h.2.2
  have h3 := h.2.1
  unfold entB
  rw [laT]
  omega
theorem c_impl_entryBytes0 (e : EntryT) (h : entIn e) : PC Tryz.prog false 52 [.agg e.cells] (.str (entB e)) [] := by
  obtain ⟨h1, h2, hw⟩ := h
  have a1 := numB_len e.Term
  have a2 := recB_len h1 hw
  refine pc_at Tryz.func52 rfl (by kernel_rfl) 10 [.tmp 2] rfl rfl ?_
  repeat' (conv => whnf); first
 | refine draw_text (by kernel_rfl) (by kernel_rfl) (by kernel_rfl) ?_
 | refine CallD0 (c_impl_numBytes e.Term (by omega) (by omega)) rfl rfl rfl ?_
 | refine CallD0 (c_impl_recBytes e.Rec h1 hw) rfl rfl rfl ?_
 | refine sdA (by first | exact nbT rfl | exact rfl | omega | fail) ?_
 | fail
  all_goals
    conv => whnf
    exact OutA_plain rfl rfl rfl
theorem c_spec_l11Bytes0 (e : EntryT) (h : entIn e) : PC Tryz.prog false 40 [.agg e.cells] (.str (entB e)) [] := by
  obtain ⟨h1, h2, hw⟩ := h
  have a1 := numB_len e.Term
  have a2 := recB_len h1 hw
  refine pc_at Tryz.func40 rfl (by kernel_rfl) 10 [.tmp 2] rfl rfl ?_
  repeat' (conv => whnf); first
 | refine draw_text (by kernel_rfl) (by kernel_rfl) (by kernel_rfl) ?_
 | refine CallD0 (c_spec_l1NumB e.Term (by omega) (by omega)) rfl rfl rfl ?_
 | refine CallD0 (c_spec_l4Bytes e.Rec h1 hw) rfl rfl rfl ?_
 | refine sdA (by first | exact nbT rfl | exact rfl | omega | fail) ?_
 | fail
  all_goals
    conv => whnf
    exact OutA_plain rfl rfl rfl
@[irreducible] def keptB (L : List EntryT) : List UInt8 := (L.map fun e => frB (entB e)).flatten
theorem keptB_nil : keptB [] = [] := by unfold keptB; rfl
theorem keptB_next {L : List EntryT} {k : Nat} {x : EntryT} (hx : L[k]? = some x) : keptB (L.take k) ++ frB (entB x) = keptB (L.take (k + 1)) := by
  unfold keptB
  rw [List.take_add_one, hx, Option.toList_some, List.map_append, List.flatten_append, List.map_cons, List.map_nil, List.flatten_cons, List.flatten_nil, List.append_nil]
theorem keptB_len {L : List EntryT} (h : ∀ e ∈ L, entIn e) : (keptB L).length <= L.length * 80000604 := by
  unfold keptB
  induction L with
  | nil => exact Nat.zero_le _
  | cons x xs ih =>
    have h1 := ih fun e he => h e (List.mem_cons_of_mem _ he)
    have h2 := entB_len (h x (List.mem_cons_self ..))
    have h3 := frB_len (s := entB x)
    simp only [List.map_cons, List.flatten_cons, laT, List.length_cons, Nat.succ_mul] at h1 ⊢
    omega
theorem kept_side {L : List EntryT} {k : Nat} {x : EntryT} (h : ∀ e ∈ L, entIn e) (hl : L.length <= 61) (hx : L[k]? = some x) : (keptB (L.take k)).length + (frB (entB x)).length <= 4611686018427387904 := by
  have h1 := keptB_len (L := L.take k) fun e he => h e (List.mem_of_mem_take he)
  have h2 := entB_len (h x (mgE hx))
  have h3 := frB_len (s := entB x)
  have h4 : (L.take k).length <= 61 := by rw [List.length_take]; omega
  have h5 : (L.take k).length * 80000604 <= 61 * 80000604 := Nat.mul_le_mul_right _ h4
  omega
theorem c_impl_diskOf (L : List EntryT) (hent : ∀ e ∈ L, entIn e) (hl : L.length <= 61) : PC Tryz.prog false 55 [.sl (L.map EntryT.cells)] (.agg [.str (keptB L), .str []]) [] := by
  refine pc_at Tryz.func55 rfl (by kernel_rfl) 22 [.cell 2 67] rfl rfl ?_
  repeat' (conv => whnf); first
 | exact side_of (kept_side hent hl hx)
 | (refine ix_as (f := EntryT.cells) (m := k) rfl (by omega) (fun x hx => ?_))
 | (refine nameB_dec (fun h => ?_) (fun h => ?_) <;> try simp only [lensB] at h)
 | refine splitB_true ?_
 | refine splitB_false ?_
 | refine draw_text (by kernel_rfl) (by kernel_rfl) (by kernel_rfl) ?_
 | ((refine Loop_at [2, 3, 7, 8] [0] (Nat) (fun k => k <= L.length) (fun k => [(9, .int .i64 (k : Nat))]) (fun k => [(4112, ⟨true, 67, 2, [[.str (keptB (L.take k)), .str []]]⟩)]) (fun k => L.length - k) 0 ⟨by first | (simp_all <;> fail) | rfl | fail, trivial⟩ ⟨by first | rfl | first | exact congrArg (fun z : List UInt8 => some (AObj.mk .box 67 2 [[.str z, .str []]])) keptB_nil.symm | exact congrArg (fun z : List UInt8 => some (AObj.mk .box 67 2 [[.str z, .str []]])) (keptB_next hx) | fail | fail, trivial⟩ (by (try dsimp only); first | (exact Nat.zero_le _) | fail) ?_; (conv => whnf); refine side_and (side_of (by first | exact fun k => rfl | exact fun k => by simp [headOk, closedE, closedO, closedL, AV.closed, hcap.closed, hasId, AObj.box, BK.ofB])) ?_; rintro k hT; try dsimp only at hT))
 | (refine Again_of (k + 1) ⟨by first | rfl | exact i64_next (by omega) | (simp_all <;> fail) | fail, trivial⟩ ⟨by first | rfl | first | exact congrArg (fun z : List UInt8 => some (AObj.mk .box 67 2 [[.str z, .str []]])) keptB_nil.symm | exact congrArg (fun z : List UInt8 => some (AObj.mk .box 67 2 [[.str z, .str []]])) (keptB_next hx) | fail | fail, trivial⟩ (by first | (and_intros <;> first | rfl | trivial) | fail) (by first | (and_intros <;> first | rfl | trivial) | fail) rfl rfl rfl (by (try dsimp only); first | ((show k + 1 <= _; omega)) | fail) (show _ < _ by (try dsimp only); omega))
 | refine CallD0 (c_impl_entryBytes0 x (hent x (mgE hx))) rfl rfl rfl ?_
 | refine CallD0 (c_impl_frameBytes (entB x) (by have := entB_len (hent x (mgE hx)); omega)) rfl rfl rfl ?_
 | refine sdA ⟨nbT rfl, rfl⟩ ?_
 | refine sdA (by first | exact nbT rfl | exact rfl | omega | fail) ?_
 | refine sdA (by first | (and_intros <;> first | rfl | omega | exact nbT rfl) | fail) ?_
 | refine side_and ?_ ?_
 | fail
  all_goals
    conv => whnf
    refine OutA_plain rfl rfl ?_
    have e : k = L.length := by omega
    subst e
    rw [List.take_length]
    rfl
theorem c_spec_l11Kept (L : List EntryT) (hent : ∀ e ∈ L, entIn e) (hl : L.length <= 61) : PC Tryz.prog false 60 [.sl (L.map EntryT.cells)] (.str (keptB L)) [] := by
  refine pc_at Tryz.func60 rfl (by kernel_rfl) 20 [.tmp 2] rfl rfl ?_
  repeat' (conv => whnf); first
 | exact side_of (kept_side hent hl hx)
 | (refine ix_as (f := EntryT.cells) (m := k) rfl (by omega) (fun x hx => ?_))
 | (refine nameB_dec (fun h => ?_) (fun h => ?_) <;> try simp only [lensB] at h)
 | refine splitB_true ?_
 | refine splitB_false ?_
 | ((refine Loop_at [0] [] (Nat) (fun k => k <= L.length) (fun k => [(3, .str (keptB (L.take k))), (4, .int .i64 (k : Nat))]) (fun k => []) (fun k => L.length - k) 0 ⟨by first | rfl | first | exact congrArg AV.str keptB_nil.symm | exact congrArg AV.str (keptB_next hx) | fail, by first | first | exact congrArg AV.str keptB_nil.symm | exact congrArg AV.str (keptB_next hx) | rfl | fail, trivial⟩ trivial (by (try dsimp only); first | (exact Nat.zero_le _) | fail) ?_; (conv => whnf); refine side_and (side_of (by first | exact fun k => rfl | exact fun k => by simp [headOk, closedE, closedO, closedL, AV.closed, hcap.closed, hasId, AObj.box, BK.ofB])) ?_; rintro k hT; try dsimp only at hT))
 | (refine Again_of (k + 1) ⟨by first | rfl | first | exact congrArg AV.str keptB_nil.symm | exact congrArg AV.str (keptB_next hx) | fail, by first | rfl | exact i64_next (by omega) | first | exact congrArg AV.str keptB_nil.symm | exact congrArg AV.str (keptB_next hx) | fail, trivial⟩ trivial (by first | (and_intros <;> first | rfl | trivial) | fail) (by first | (and_intros <;> first | rfl | trivial) | fail) rfl rfl rfl (by (try dsimp only); first | ((show k + 1 <= _; omega)) | fail) (show _ < _ by (try dsimp only); omega))
 | refine Call0 (c_spec_l11Bytes0 x (hent x (mgE hx))) rfl rfl ?_
 | refine Call0 (c_spec_l6FrameW (entB x) (by have := entB_len (hent x (mgE hx)); omega)) rfl rfl ?_
 | refine sdA (by first | exact nbT rfl | exact rfl | omega | fail) ?_
 | refine side_and ?_ ?_
 | fail
  all_goals
    conv => whnf
    refine OutA_plain rfl rfl ?_
    have e : k = L.length := by omega
    subst e
    rw [List.take_length]
    rfl
def mended (d : DiskT) : DiskT := ⟨d.Kept.take (frames d.Kept 0).2, []⟩
theorem frames_end {b : List UInt8} : (frames b 0).2 <= b.length := by
  obtain ⟨f1, f2, f3⟩ := frames_ok (b := b)
  omega
theorem c_spec_MendDisk (d : DiskT) (hm : mendB d = true) (hw : d.w <= 1048576) : PC Tryz.prog false 61 [.agg d.cells] (.tup [.agg (mended d).cells, .bool true]) [] := by
  obtain ⟨m1, m2, m3⟩ := mendB_of hm
  have hw2 := okDsk_w m1
  have hk : d.w = d.Kept.length + d.Loose.length := rfl
  have he := frames_end (b := d.Kept)
  refine pc_at Tryz.func61 rfl (by kernel_rfl) 26 [.cell 2 67, .tmp 3] rfl rfl ?_
  repeat' (conv => whnf); first
 | refine nameB_yes (b := okDsk d) m1 ?_
 | refine nameB_false ?_
 | (refine nameB_cases (fun h => ?_) (fun h => ?_) <;> try simp only [nmL, lensB] at h)
 | refine splitB_true ?_
 | refine splitB_false ?_
 | refine Call0 (c_spec_GoodDisk d hw) rfl rfl ?_
 | refine CallF (c_spec_l6Frames d.Kept (by omega)) rfl rfl rfl (nbT rfl) ?_
 | refine sdA ⟨nbT rfl, rfl⟩ ?_
 | refine sdA (by first | exact nbT rfl | exact rfl | omega | fail) ?_
 | refine sdA (by first | (and_intros <;> first | rfl | omega | exact nbT rfl) | fail) ?_
 | fail
  all_goals
    conv => whnf
    first
    | (exact absurd m2 ‹_›)
    | exact OutA_plain rfl rfl rfl
theorem c_Clone_Disk (xs : List DiskT) (hl : xs.length <= 1048576) : PC Tryz.prog false 25 [.sl (xs.map DiskT.cells)] (.own 0) [⟨false, 67, 2, xs.map DiskT.cells⟩] := by
  refine pc_at Tryz.func25 rfl (by kernel_rfl) 8 [.tmp 2] rfl rfl ?_
  repeat' (conv => whnf); first
 | refine splitB_true ?_
 | refine splitB_false ?_
 | refine sdA ⟨nbT rfl, rfl⟩ ?_
 | refine sdA (by first | exact nbT rfl | exact rfl | omega | fail) ?_
 | refine sdA (by first | (and_intros <;> first | rfl | omega | exact nbT rfl) | fail) ?_
 | refine sdA (by first | (and_intros <;> first | exact nbT rfl | rfl | omega | (simp only [lensB, lensC]; omega) | exact bytes_ok (nbT rfl) (by omega) (by simp only [lensB, lensC]; omega) | exact bytes_okN (nbT rfl) (by simp only [lensB, lensC]; omega)) | fail) ?_
 | refine nilB_intro (fun h => ?_) ?_
 | refine side_and (side_of (map_len (fun _ => rfl))) ?_
 | refine side_and (side_of (map_one (fun _ => rfl) _)) ?_
 | fail
  all_goals
    conv => whnf
    first
    | exact OutA_ids rfl rfl rfl ⟨⟨_, _, _, rfl, rfl⟩, trivial⟩ rfl (.inr (flat_one (flat_map (fun _ => rfl) _)))
    | exact OutA_nil 2 1 67 2 rfl rfl (by decide) (OutA_ids rfl rfl rfl ⟨⟨_, _, _, rfl, congrArg (AObj.mk false _ _) (map_nil_of ‹_›)⟩, trivial⟩ rfl (.inr (flat_one (flat_map (fun _ => rfl) _))))
def RdAt {α : Type} (rd : List UInt8 -> Nat -> Bool -> α × Nat × Bool) (e : List UInt8) (v : α) : Prop :=
  ∀ A C : List UInt8, rd (A ++ (e ++ C)) A.length false = (v, A.length + e.length, false)
theorem at_mid {A C : List UInt8} {x : UInt8} : (A ++ (x :: C))[A.length]? = some x := by simp
theorem cut_mid {A B C : List UInt8} : ((A ++ (B ++ C)).take (A.length + B.length)).drop A.length = B := by
  rw [<- List.append_assoc, List.take_left' (by rw [laT])]
  exact List.drop_left
theorem numM_at {s : Nat} : ∀ (f : Nat) (m n q : Int) (A C : List UInt8), 0 <= m -> (numB m).length <= f -> numM (A ++ (numB m ++ C)) s f n q A.length = finS (A ++ (numB m ++ C)) s (n + m * q) (A.length + (numB m).length)
  | 0, m, n, q, A, C, h0, hf => by
    exfalso
    obtain ⟨l, x, e, _⟩ := numB_last m.toNat m (Nat.le_refl _) h0
    rw [e] at hf
    simp at hf
  | f + 1, m, n, q, A, C, h0, hf => by
    by_cases h : m ≥ 128
    · have ht := tdiv_128 h
      have hb := byt_toNat (n := m % 128 + 128)
      rw [numB_ge h] at hf ⊢
      simp only [List.length_cons] at hf
      unfold numM
      rw [List.cons_append, at_mid]
      simp only
      rw [if_neg (by omega)]
      have hx : (((byt (m % 128 + 128)).toNat % 128 : Nat) : Int) = m % 128 := by omega
      rw [hx]
      have ih := numM_at (s := s) f (m.tdiv 128) (n + m % 128 * q) (q * 128) (A ++ [byt (m % 128 + 128)]) C ht.1 (by omega)
      rw [List.append_assoc, laT] at ih
      simp only [List.cons_append, List.nil_append, List.length_cons, List.length_nil, Nat.zero_add] at ih
      rw [ih]
      have e2 : n + m % 128 * q + m.tdiv 128 * (q * 128) = n + m * q := by
        rw [Int.tdiv_eq_ediv_of_nonneg (by omega)]
        have e3 : m = m % 128 + 128 * (m / 128) := (Int.emod_add_mul_ediv m 128).symm
        have e4 : m * q = m % 128 * q + m / 128 * (q * 128) := by
          conv => lhs; rw [e3]
          rw [Int.add_mul]
          congr 1
          rw [Int.mul_comm 128 (m / 128), Int.mul_assoc, Int.mul_comm 128 q]
        omega
      rw [e2]
      congr 1
      simp only [List.length_cons]
      omega
    · have hb := byt_toNat (n := m)
      rw [numB_lt h]
      unfold numM
      rw [List.cons_append, at_mid]
      simp only
      rw [if_pos (by omega)]
      have hx : (((byt m).toNat % 128 : Nat) : Int) = m := by omega
      rw [hx]
      rfl
theorem numFS_at {n : Int} (h0 : 0 <= n) (h1 : n <= 1000000000) : RdAt numFS (numB n) n := by
  intro A C
  show numM _ A.length 5 0 1 A.length = _
  rw [numM_at 5 n 0 1 A C h0 (numB_five h0 h1)]
  unfold finS
  have hq : ¬ (n > 1000000000 \/ numB n ≠ numB n) := fun h => h.elim (fun h => by omega) (fun h => h rfl)
  rw [cut_mid, show (0 : Int) + n * 1 = n by omega, if_neg hq]
theorem textFS_at {s : List UInt8} (h : s.length <= 60) : RdAt textFS (textB s) s := by
  intro A C
  have e := numFS_at (n := (s.length : Nat)) (by omega) (by omega) A (s ++ C)
  rw [<- List.append_assoc (numB _) s C] at e
  change numFS (A ++ (textB s ++ C)) A.length false = _ at e
  have hl : (textB s).length = (numB (s.length : Nat)).length + s.length := by unfold textB; rw [laT]
  unfold textFS
  rw [e]
  have hL : (A ++ (textB s ++ C)).length = A.length + ((numB (s.length : Nat)).length + s.length) + C.length := by
    rw [laT, laT, hl]; omega
  rw [if_neg (by
    intro h2
    simp only at h2
    rcases h2 with h2 | h2 | h2
    · cases h2
    · omega
    · rw [hL] at h2; omega)]
  simp only [Int.toNat_natCast]
  have e2 : A ++ (textB s ++ C) = (A ++ numB (s.length : Nat)) ++ (s ++ C) := by unfold textB; simp only [List.append_assoc]
  have hA : A.length + (numB (s.length : Nat)).length = (A ++ numB (s.length : Nat)).length := by rw [laT]
  rw [hl, hA, e2, cut_mid]
  rw [laT, Nat.add_assoc]
theorem oneF_at {x : UInt8} : RdAt oneF [x] (x.toNat : Int) := by
  intro A C
  show (match ((A ++ (x :: C))[A.length]? : Option UInt8) with | none => _ | some y => _) = _
  rw [at_mid]
  rfl
theorem manyG_at {α : Type} {rd : List UInt8 -> Nat -> Bool -> α × Nat × Bool} {en : α -> List UInt8} : ∀ (l : List α) (out : List α) (A C : List UInt8), (∀ x ∈ l, RdAt rd (en x) x) ->
    manyG (fun a => rd (A ++ ((l.map en).flatten ++ C)) a false) l.length out A.length false = (out ++ l, A.length + ((l.map en).flatten).length, false)
  | [], out, A, C, h => by simp [manyG]
  | x :: l, out, A, C, h => by
    have hx := h x (by simp)
    have e : A ++ (((x :: l).map en).flatten ++ C) = A ++ (en x ++ ((l.map en).flatten ++ C)) := by simp
    rw [e]
    show manyG _ l.length (out ++ [(rd _ A.length false).1]) (rd _ A.length false).2.1 (rd _ A.length false).2.2 = _
    rw [hx A ((l.map en).flatten ++ C)]
    simp only
    have ih := manyG_at l (out ++ [x]) (A ++ en x) C (fun y hy => h y (by simp [hy]))
    rw [List.append_assoc, laT] at ih
    rw [ih]
    simp only [List.append_assoc, List.map_cons, List.flatten_cons, laT, List.cons_append, List.nil_append]
    congr 2
    omega
theorem textsFS_at {l : List (List UInt8)} (h : l.length <= 40) (h2 : ∀ x ∈ l, x.length <= 60) : RdAt textsFS (textsB l) l := by
  intro A C
  have e := numFS_at (n := (l.length : Nat)) (by omega) (by omega) A (textsG l ++ C)
  rw [<- List.append_assoc (numB _) (textsG l) C] at e
  change numFS (A ++ (textsB l ++ C)) A.length false = _ at e
  unfold textsFS
  rw [e]
  simp only [Int.toNat_natCast]
  rw [decide_eq_false (by omega)]
  have e2 : A ++ (textsB l ++ C) = (A ++ numB (l.length : Nat)) ++ ((l.map textB).flatten ++ C) := by unfold textsB textsG; simp only [List.append_assoc]
  have hA : A.length + (numB (l.length : Nat)).length = (A ++ numB (l.length : Nat)).length := by rw [laT]
  rw [hA, e2, Bool.or_false, manyG_at l [] (A ++ numB (l.length : Nat)) C (fun x hx => textFS_at (h2 x hx))]
  have hL : (textsB l).length = (numB (l.length : Nat)).length + ((l.map textB).flatten).length := by unfold textsB textsG; rw [laT]
  rw [hL, List.nil_append, laT, Nat.add_assoc]
theorem flag_at {b : Bool} : ∃ x : UInt8, flagB b = [x] /\ ((x.toNat : Int) == 1) = b := by
  cases b with
  | true => exact ⟨1, rfl, rfl⟩
  | false => exact ⟨0, rfl, rfl⟩
theorem rdWS_at {w : WriteT} (h1 : w.Key.length <= 60) (h2 : w.Val.length <= 60) : RdAt rdWS (wB w) w := by
  intro A C
  obtain ⟨x, e1, e2⟩ := flag_at (b := w.Gone)
  have hw : wB w = textB w.Key ++ ([x] ++ textB w.Val) := by unfold wB; rw [e1, List.append_assoc]
  have a1 := textFS_at h1 A ([x] ++ textB w.Val ++ C)
  have a2 := oneF_at (x := x) (A ++ textB w.Key) (textB w.Val ++ C)
  have a3 := textFS_at h2 (A ++ textB w.Key ++ [x]) C
  rw [hw]
  have s1 : A ++ (textB w.Key ++ ([x] ++ textB w.Val) ++ C) = A ++ (textB w.Key ++ ([x] ++ textB w.Val ++ C)) := by simp only [List.append_assoc]
  have s2 : A ++ (textB w.Key ++ ([x] ++ textB w.Val ++ C)) = (A ++ textB w.Key) ++ ([x] ++ (textB w.Val ++ C)) := by simp only [List.append_assoc]
  have s3 : (A ++ textB w.Key) ++ ([x] ++ (textB w.Val ++ C)) = (A ++ textB w.Key ++ [x]) ++ (textB w.Val ++ C) := by simp only [List.append_assoc]
  unfold rdWS
  rw [s1, a1]
  simp only
  rw [s2, <- laT, a2]
  simp only
  rw [s3, show (A ++ textB w.Key).length + [x].length = (A ++ textB w.Key ++ [x]).length by rw [List.length_append (bs := [x])], a3]
  simp only [e2]
  congr 2
  simp only [laT]
  omega
theorem inB_le' {a n b : Int} (h : inB a n b = true) : a <= n /\ n <= b := by simpa only [inB, baT, decide_eq_true_eq] using h
theorem okKey_len {s : List UInt8} (h : okKey s = true) : s.length <= 12 := by
  unfold okKey at h
  rw [baT] at h
  have := inB_le' h.1
  omega
theorem rising_len : ∀ (l : List (List UInt8)) (p : Option (List UInt8)), rising p l = true -> ∀ x ∈ l, x.length <= 12
  | [], _, _, x, hx => by cases hx
  | y :: l, p, h, x, hx => by
    simp only [rising, baT] at h
    rcases List.mem_cons.1 hx with rfl | hx
    · exact okKey_len h.1.1
    · exact rising_len l _ h.2 x hx
theorem okWrites_len {ws : List WriteT} (h : okWrites ws = true) : ∀ w ∈ ws, w.Key.length <= 12 /\ w.Val.length <= 24 := by
  unfold okWrites at h
  rw [baT] at h
  intro w hw
  have key : ∀ (l pre : List WriteT), allPre wrAt pre l = true -> ∀ w ∈ l, w.Key.length <= 12 /\ w.Val.length <= 24 := by
    intro l
    induction l with
    | nil => intro _ _ w hw; cases hw
    | cons y l ih =>
      intro pre h w hw
      simp only [allPre, baT] at h
      rcases List.mem_cons.1 hw with rfl | hw
      · have h1 := h.1
        unfold wrAt okStored okVal at h1
        simp only [baT, decide_eq_true_eq] at h1
        exact ⟨okKey_len h1.1.2, by omega⟩
      · exact ih _ h.2 w hw
  exact key ws [] h.1 w hw
structure TinyR (r : RecT) : Prop where
  reads : r.Reads.length <= 8
  writes : r.Writes.length <= 8
  rl : ∀ x ∈ r.Reads, x.length <= 12
  wl : ∀ x ∈ r.Writes, x.Key.length <= 12 /\ x.Val.length <= 24
theorem okRec_tiny {r : RecT} (h : okRec r = true) : TinyR r := by
  unfold okRec at h
  split at h
  · simp only [baT, decide_eq_true_eq] at h
    exact ⟨by omega, by omega, rising_len _ _ h.1.1.1.1.2, okWrites_len h.1.1.2⟩
  · simp only [baT, decide_eq_true_eq] at h
    have e1 : r.Reads = [] := List.length_eq_zero_iff.1 (by omega)
    have e2 : r.Writes = [] := List.length_eq_zero_iff.1 (by omega)
    refine ⟨by rw [e1]; decide, by rw [e2]; decide, ?_, ?_⟩
    · rw [e1]; intro x hx; cases hx
    · rw [e2]; intro x hx; cases hx
theorem TinyR.small {r : RecT} (h : TinyR r) : SmallR r :=
  ⟨by have := h.reads; omega, by have := h.writes; omega, fun x hx => by have := h.rl x hx; omega, fun x hx => by have := h.wl x hx; omega⟩
theorem numB_one {n : Int} (h0 : 0 <= n) (h : n < 128) : (numB n).length = 1 := by rw [numB_lt (by omega)]; rfl
theorem textB_tiny {s : List UInt8} (h : s.length <= 60) : (textB s).length = s.length + 1 := by
  unfold textB
  rw [laT, numB_one (by omega) (by omega)]
  omega
theorem recB_tiny {r : RecT} (hg : okRec r = true) : (recB r).length <= 460 := by
  have h := okRec_tiny hg
  obtain ⟨⟨k0, k1⟩, ⟨t0, t1⟩, ⟨m0, m1⟩, ⟨l0, l1⟩⟩ := rec_nums hg
  have a1 := numB_one (n := r.Kind) (by omega) (by omega)
  have a2 := numB_one (n := r.Txn) (by omega) (by omega)
  have a3 := numB_five (n := r.Time) (by omega) (by omega)
  have a4 := numB_one (n := r.Lead) (by omega) (by omega)
  have a5 := flagB_len r.Yes
  have g1 := h.reads
  have g2 := h.writes
  have a6 := numB_one (n := (r.Reads.length : Nat)) (by omega) (by omega)
  have a7 := numB_one (n := (r.Writes.length : Nat)) (by omega) (by omega)
  have a8 : (textsG r.Reads).length <= 13 * r.Reads.length := flat_len (f := textB) r.Reads (fun x hx => by have := h.rl x hx; rw [textB_tiny (by omega)]; omega)
  have a9 : (wG r.Writes).length <= 39 * r.Writes.length := flat_len (f := wB) r.Writes (fun x hx => by
    have h1 := h.wl x hx
    unfold wB
    rw [laT, laT, flagB_len, textB_tiny (by omega), textB_tiny (by omega)]
    omega)
  unfold recB sealB threeB recH textsB
  simp only [laT, List.length_cons, List.length_nil]
  omega
theorem recS_at {r : RecT} (hg : okRec r = true) : recS (recH r ++ wG r.Writes) = (r, false) := by
  have h := okRec_tiny hg
  have g1 := h.reads
  have g2 := h.writes
  obtain ⟨⟨k0, k1⟩, ⟨t0, t1⟩, ⟨m0, m1⟩, ⟨l0, l1⟩⟩ := rec_nums hg
  obtain ⟨x, e1, e2⟩ := flag_at (b := r.Yes)
  generalize hs : recH r ++ wG r.Writes = s
  have p0 : s = [] ++ (numB r.Kind ++ (numB r.Txn ++ (numB r.Time ++ (numB r.Lead ++ ([x] ++ (textsB r.Reads ++ (numB (r.Writes.length : Nat) ++ ((r.Writes.map wB).flatten ++ [])))))))) := by
    rw [<- hs]; unfold recH wG; rw [e1]; simp only [List.append_assoc, List.nil_append, List.append_nil]
  have b1 : rB1 s = (r.Kind, (numB r.Kind).length, false) := by
    unfold rB1
    have := numFS_at k0 (show r.Kind <= 1000000000 by omega) [] (numB r.Txn ++ (numB r.Time ++ (numB r.Lead ++ ([x] ++ (textsB r.Reads ++ (numB (r.Writes.length : Nat) ++ ((r.Writes.map wB).flatten ++ [])))))))
    rw [<- p0] at this
    simpa using this
  have p1 : s = (numB r.Kind) ++ (numB r.Txn ++ (numB r.Time ++ (numB r.Lead ++ ([x] ++ (textsB r.Reads ++ (numB (r.Writes.length : Nat) ++ ((r.Writes.map wB).flatten ++ []))))))) := p0
  have b2 : rB2 s = (r.Txn, (numB r.Kind ++ numB r.Txn).length, false) := by
    unfold rB2
    rw [b1]
    have := numFS_at t0 (show r.Txn <= 1000000000 by omega) (numB r.Kind) (numB r.Time ++ (numB r.Lead ++ ([x] ++ (textsB r.Reads ++ (numB (r.Writes.length : Nat) ++ ((r.Writes.map wB).flatten ++ []))))))
    rw [<- p1, <- laT] at this
    exact this
  have p2 : s = (numB r.Kind ++ numB r.Txn) ++ (numB r.Time ++ (numB r.Lead ++ ([x] ++ (textsB r.Reads ++ (numB (r.Writes.length : Nat) ++ ((r.Writes.map wB).flatten ++ [])))))) := by rw [p1]; simp only [List.append_assoc]
  have b3 : rB3 s = (r.Time, (numB r.Kind ++ numB r.Txn ++ numB r.Time).length, false) := by
    unfold rB3
    rw [b2]
    have := numFS_at m0 (show r.Time <= 1000000000 by omega) (numB r.Kind ++ numB r.Txn) (numB r.Lead ++ ([x] ++ (textsB r.Reads ++ (numB (r.Writes.length : Nat) ++ ((r.Writes.map wB).flatten ++ [])))))
    rw [<- p2, <- laT] at this
    exact this
  have p3 : s = (numB r.Kind ++ numB r.Txn ++ numB r.Time) ++ (numB r.Lead ++ ([x] ++ (textsB r.Reads ++ (numB (r.Writes.length : Nat) ++ ((r.Writes.map wB).flatten ++ []))))) := by rw [p2]; simp only [List.append_assoc]
  have b4 : rB4 s = (r.Lead, (numB r.Kind ++ numB r.Txn ++ numB r.Time ++ numB r.Lead).length, false) := by
    unfold rB4
    rw [b3]
    have := numFS_at l0 (show r.Lead <= 1000000000 by omega) (numB r.Kind ++ numB r.Txn ++ numB r.Time) ([x] ++ (textsB r.Reads ++ (numB (r.Writes.length : Nat) ++ ((r.Writes.map wB).flatten ++ []))))
    rw [<- p3, <- laT] at this
    exact this
  have p4 : s = (numB r.Kind ++ numB r.Txn ++ numB r.Time ++ numB r.Lead) ++ ([x] ++ (textsB r.Reads ++ (numB (r.Writes.length : Nat) ++ ((r.Writes.map wB).flatten ++ [])))) := by rw [p3]; simp only [List.append_assoc]
  have b5 : rB5 s = ((x.toNat : Int), (numB r.Kind ++ numB r.Txn ++ numB r.Time ++ numB r.Lead ++ [x]).length, false) := by
    unfold rB5
    rw [b4]
    have := oneF_at (x := x) (numB r.Kind ++ numB r.Txn ++ numB r.Time ++ numB r.Lead) (textsB r.Reads ++ (numB (r.Writes.length : Nat) ++ ((r.Writes.map wB).flatten ++ [])))
    rw [<- p4, <- laT] at this
    exact this
  have p5 : s = (numB r.Kind ++ numB r.Txn ++ numB r.Time ++ numB r.Lead ++ [x]) ++ (textsB r.Reads ++ (numB (r.Writes.length : Nat) ++ ((r.Writes.map wB).flatten ++ []))) := by rw [p4]; simp only [List.append_assoc]
  have b6 : rB6 s = (r.Reads, (numB r.Kind ++ numB r.Txn ++ numB r.Time ++ numB r.Lead ++ [x] ++ textsB r.Reads).length, false) := by
    unfold rB6
    rw [b5]
    have := textsFS_at (l := r.Reads) (by omega) (fun y hy => by have := h.rl y hy; omega) (numB r.Kind ++ numB r.Txn ++ numB r.Time ++ numB r.Lead ++ [x]) (numB (r.Writes.length : Nat) ++ ((r.Writes.map wB).flatten ++ []))
    rw [<- p5, <- laT] at this
    exact this
  have p6 : s = (numB r.Kind ++ numB r.Txn ++ numB r.Time ++ numB r.Lead ++ [x] ++ textsB r.Reads) ++ (numB (r.Writes.length : Nat) ++ ((r.Writes.map wB).flatten ++ [])) := by rw [p5]; simp only [List.append_assoc]
  have b7 : rB7 s = (((r.Writes.length : Nat) : Int), (numB r.Kind ++ numB r.Txn ++ numB r.Time ++ numB r.Lead ++ [x] ++ textsB r.Reads ++ numB (r.Writes.length : Nat)).length, false) := by
    unfold rB7
    rw [b6]
    have := numFS_at (n := (r.Writes.length : Nat)) (by omega) (by omega) (numB r.Kind ++ numB r.Txn ++ numB r.Time ++ numB r.Lead ++ [x] ++ textsB r.Reads) ((r.Writes.map wB).flatten ++ [])
    rw [<- p6, <- laT] at this
    exact this
  have p7 : s = (numB r.Kind ++ numB r.Txn ++ numB r.Time ++ numB r.Lead ++ [x] ++ textsB r.Reads ++ numB (r.Writes.length : Nat)) ++ ((r.Writes.map wB).flatten ++ []) := by rw [p6]; simp only [List.append_assoc]
  have b8 : ∃ z, rB8 s = (r.Writes, z, false) := by
    unfold rB8
    rw [b7]
    have := manyG_at (rd := rdWS) (en := wB) r.Writes [] (numB r.Kind ++ numB r.Txn ++ numB r.Time ++ numB r.Lead ++ [x] ++ textsB r.Reads ++ numB (r.Writes.length : Nat)) [] (fun w hw => rdWS_at (by have := h.wl w hw; omega) (by have := h.wl w hw; omega))
    rw [<- p7] at this
    simp only [Int.toNat_natCast]
    exact ⟨_, this⟩
  obtain ⟨z, b8⟩ := b8
  unfold recS
  rw [b1, b2, b3, b4, b5, b6, b8]
  simp only [e2]
theorem outR_at {r : RecT} (hg : okRec r = true) : outR (recB r) = (r, true) := by
  have hl := recB_tiny hg
  have e : recB r = (recH r ++ wG r.Writes) ++ threeB (sumB (recH r ++ wG r.Writes)) := rfl
  have h3 : (threeB (sumB (recH r ++ wG r.Writes))).length = 3 := rfl
  have ht : (recB r).take ((recB r).length - 3) = recH r ++ wG r.Writes := by
    rw [e, laT, h3, Nat.add_sub_cancel]
    exact List.take_left
  have hsf : sealF (recB r) = (recH r ++ wG r.Writes, true) := by
    rw [sealF_yes (by rw [e, laT, h3]; omega) (by omega) (by rw [ht]; rfl), ht]
  rw [outR_yes (by rw [hsf]; simp only [Bool.true_and]; unfold goodR; rw [recS_at hg]; simp only [hg, Bool.not_false, Bool.true_and, decide_true]), hsf, recS_at hg]
theorem outE_at {e : EntryT} (hg : okRec e.Rec = true) (h1 : 1 <= e.Term) (h2 : e.Term <= 200) : okE (entB e) = true /\ outE (entB e) = e := by
  have hn := numFS_at (n := e.Term) (by omega) (by omega) [] (recB e.Rec)
  simp only [List.nil_append, List.length_nil, Nat.zero_add] at hn
  change numFS (entB e) 0 false = _ at hn
  have hd : (entB e).drop (numB e.Term).length = recB e.Rec := by unfold entB; exact List.drop_left
  have hl := recB_tiny hg
  have hl2 := numB_five (n := e.Term) (by omega) (by omega)
  have hlen : (entB e).length <= 6000 := by unfold entB; rw [laT]; omega
  have ok : okE (entB e) = true := by
    unfold okE
    rw [hn]
    simp only [hd, outR_at hg]
    rw [decide_eq_true hlen]
    have : inB 1 e.Term 200 = true := by unfold inB; rw [decide_eq_true h1, decide_eq_true h2]; rfl
    rw [this]
    rfl
  refine ⟨ok, ?_⟩
  rw [outE_yes ok, hn]
  simp only [hd, outR_at hg]
theorem frB_at {s : List UInt8} (h : s.length <= 700) (A C : List UInt8) : frOk (A ++ (frB s ++ C)) A.length = true /\ frS (A ++ (frB s ++ C)) A.length = s /\ frE (A ++ (frB s ++ C)) A.length = A.length + (frB s).length := by
  have hn := numFS_at (n := (s.length : Nat)) (by omega) (by omega) A (sealB s ++ C)
  have ef : frB s = numB (s.length : Nat) ++ sealB s := by unfold frB; rfl
  rw [ef]
  have eb : A ++ (numB (s.length : Nat) ++ (sealB s ++ C)) = A ++ (numB (s.length : Nat) ++ sealB s ++ C) := by simp only [List.append_assoc]
  rw [eb] at hn
  generalize hb : A ++ (numB (s.length : Nat) ++ sealB s ++ C) = b at hn
  have hsl : (sealB s).length = s.length + 3 := by unfold sealB; rw [laT]; rfl
  have e1 : frN b A.length = (s.length : Int) := by unfold frN; rw [hn]
  have e2 : frM b A.length = (A ++ numB (s.length : Nat)).length := by unfold frM; rw [hn, laT]
  have hb2 : b = (A ++ numB (s.length : Nat)) ++ (s ++ (threeB (sumB s) ++ C)) := by rw [<- hb]; unfold sealB; simp only [List.append_assoc]
  have hb3 : b = (A ++ numB (s.length : Nat)) ++ (sealB s ++ C) := by rw [<- hb]; simp only [List.append_assoc]
  have e3 : frS b A.length = s := by
    unfold frS
    rw [e1, e2, Int.toNat_natCast]
    conv => lhs; rw [hb2]
    exact cut_mid
  have e4 : frE b A.length = (A ++ numB (s.length : Nat)).length + (sealB s).length := by
    unfold frE
    rw [e1, e2, Int.toNat_natCast, hsl]
    omega
  have hbl : b.length = (A ++ numB (s.length : Nat)).length + ((sealB s).length + C.length) := by
    have q := congrArg List.length hb3
    rw [@List.length_append _ (A ++ numB (s.length : Nat)) (sealB s ++ C), @List.length_append _ (sealB s) C] at q
    exact q
  refine ⟨?_, e3, ?_⟩
  · unfold frOk
    rw [e3, e4, e1, e2, hn]
    have e5 : (b.take ((A ++ numB (s.length : Nat)).length + (sealB s).length)).drop (A ++ numB (s.length : Nat)).length = sealB s := by
      conv => lhs; rw [hb3]
      exact cut_mid
    rw [e5, decide_eq_true rfl, decide_eq_true (by omega), decide_eq_true (by rw [hbl, hsl]; omega)]
    rfl
  · rw [e4, laT, laT, Nat.add_assoc]
theorem frames_cat : ∀ (l : List (List UInt8)) (A C : List UInt8), (∀ s ∈ l, s.length <= 700) ->
    (frames (A ++ ((l.map frB).flatten ++ C)) A.length).1 = l ++ (frames (A ++ ((l.map frB).flatten ++ C)) (A.length + ((l.map frB).flatten).length)).1 /\
    (frames (A ++ ((l.map frB).flatten ++ C)) A.length).2 = (frames (A ++ ((l.map frB).flatten ++ C)) (A.length + ((l.map frB).flatten).length)).2
  | [], A, C, h => by simp
  | x :: l, A, C, h => by
    have e : A ++ (((x :: l).map frB).flatten ++ C) = A ++ (frB x ++ ((l.map frB).flatten ++ C)) := by simp
    rw [e]
    obtain ⟨f1, f2, f3⟩ := frB_at (h x (by simp)) A ((l.map frB).flatten ++ C)
    have ih := frames_cat l (A ++ frB x) C (fun y hy => h y (by simp [hy]))
    rw [List.append_assoc, laT] at ih
    rw [frames_yes f1, f2, f3]
    simp only
    rw [ih.1, ih.2]
    have e2 : A.length + (frB x).length + ((l.map frB).flatten).length = A.length + (((x :: l).map frB).flatten).length := by
      simp only [List.map_cons, List.flatten_cons, laT]; omega
    rw [e2]
    exact ⟨rfl, rfl⟩
theorem frames_last {b : List UInt8} {a : Nat} (h : b.length <= a) : frames b a = ([], a) := by
  refine frames_no ?_
  unfold frOk
  rw [numFS_end h]
  rfl
theorem frames_all {l : List (List UInt8)} (h : ∀ s ∈ l, s.length <= 700) : frames ((l.map frB).flatten) 0 = (l, ((l.map frB).flatten).length) := by
  have := frames_cat l [] [] h
  simp only [List.nil_append, List.append_nil, List.length_nil, Nat.zero_add] at this
  have h2 := frames_last (b := (l.map frB).flatten) (Nat.le_refl _)
  rw [h2, List.append_nil] at this
  exact Prod.ext this.1 this.2
theorem frOk_cut {b : List UInt8} {a : Nat} (h : frOk b a = true) : frB (frS b a) = (b.take (frE b a)).drop a /\ (frS b a).length <= 700 := by
  have hl := frOk_lt h
  unfold frOk at h
  simp only [baT, Bool.not_eq_true', decide_eq_true_eq] at h
  obtain ⟨⟨⟨h1, h2⟩, h3⟩, h4⟩ := h
  have e1 := numFS_eq h1
  have e2 := frS_len h3
  refine ⟨?_, by omega⟩
  have ef : frB (frS b a) = numB ((frS b a).length : Nat) ++ sealB (frS b a) := by unfold frB; rfl
  rw [ef, h4, e2]
  have e3 : (((frN b a).toNat : Nat) : Int) = frN b a := Int.toNat_of_nonneg hl.2.2.1
  rw [e3]
  change numB (frN b a) = (b.take (frM b a)).drop a at e1
  rw [e1]
  have q1 : frM b a <= frE b a := by unfold frE; omega
  exact (cut3 (by omega) (by omega) q1).symm
theorem frames_back : ∀ (k : Nat) (b : List UInt8) (a : Nat), b.length + 1 - a <= k -> a <= b.length -> (((frames b a).1.map frB).flatten) = (b.take (frames b a).2).drop a /\ a <= (frames b a).2 /\ (frames b a).2 <= b.length /\ (∀ s ∈ (frames b a).1, s.length <= 700)
  | 0, b, a, hk, ha => by omega
  | k + 1, b, a, hk, ha => by
    cases hf : frOk b a with
    | false =>
      rw [frames_no hf]
      refine ⟨?_, Nat.le_refl _, ha, fun s hs => by cases hs⟩
      rw [List.drop_of_length_le (by rw [List.length_take]; omega)]
      rfl
    | true =>
      have hl := frE_lt hf
      obtain ⟨c1, c2⟩ := frOk_cut hf
      obtain ⟨i1, i2, i3, i4⟩ := frames_back k b (frE b a) (by omega) hl.2
      rw [frames_yes hf]
      simp only
      refine ⟨?_, by omega, i3, fun s hs => ?_⟩
      · rw [List.map_cons, List.flatten_cons, i1, c1]
        exact (cut3 (by omega) (by omega) i2).symm
      · rcases List.mem_cons.1 hs with rfl | hs
        · exact c2
        · exact i4 s hs
theorem frames_back0 (b : List UInt8) : (((frames b 0).1.map frB).flatten) = b.take (frames b 0).2 /\ (frames b 0).2 <= b.length /\ (∀ s ∈ (frames b 0).1, s.length <= 700) := by
  obtain ⟨h1, h2, h3, h4⟩ := frames_back _ b 0 (Nat.le_refl _) (Nat.zero_le _)
  rw [List.drop_zero] at h1
  exact ⟨h1, h3, h4⟩
theorem frames_mend (b : List UInt8) : frames (b.take (frames b 0).2) 0 = frames b 0 := by
  obtain ⟨h1, h2, h3⟩ := frames_back0 b
  rw [<- h1, frames_all h3, h1]
  refine Prod.ext rfl ?_
  show (b.take _).length = _
  rw [List.length_take]
  omega
theorem frB_eq {s : List UInt8} : frB s = numB (s.length : Nat) ++ (s ++ threeB (sumB s)) := by unfold frB sealB; rfl
theorem frB_size {s : List UInt8} : (frB s).length = (numB (s.length : Nat)).length + s.length + 3 := by
  rw [frB_eq, laT, laT]
  show _ + (_ + 3) = _
  omega
theorem frB_pos {s : List UInt8} : 3 <= (frB s).length := by rw [frB_size]; omega
theorem frB_700 {s : List UInt8} (h : s.length <= 700) : (frB s).length <= 708 := by
  have := numB_five (n := (s.length : Nat)) (by omega) (by omega)
  rw [frB_size]; omega
theorem frB_free {s s' C C' : List UInt8} (h : s.length <= 700) (h' : s'.length <= 700) (e : frB s ++ C = frB s' ++ C') : s = s' /\ C = C' := by
  have a1 := frB_at h [] C
  have a2 := frB_at h' [] C'
  simp only [List.nil_append, List.length_nil, Nat.zero_add] at a1 a2
  rw [e] at a1
  have hs : s = s' := a1.2.1.symm.trans a2.2.1
  subst hs
  exact ⟨rfl, List.append_cancel_left e⟩
def flip (x : UInt8) : UInt8 := 255 - x
theorem flip_ne (x : UInt8) : flip x ≠ x := by
  intro e
  have h := congrArg UInt8.toNat e
  unfold flip at h
  rw [UInt8.toNat_sub_of_le _ _ (by rw [UInt8.le_iff_toNat_le]; have := x.toNat_lt; show _ <= 255; omega)] at h
  have : (255 : UInt8).toNat = 255 := rfl
  have := x.toNat_lt
  omega
def tornB (b : List UInt8) (k : Nat) (torn : Bool) : List UInt8 :=
  if torn = true /\ 0 < k then (b.take (k - 1)) ++ ((b.drop (k - 1)).take 1).map flip else b.take k
theorem tornB_len {b : List UInt8} {k : Nat} {torn : Bool} (h : k <= b.length) : (tornB b k torn).length = k := by
  unfold tornB
  split
  · simp only [laT, List.length_take, List.length_map, List.length_drop]; omega
  · rw [List.length_take]; omega
theorem tornB_all {b : List UInt8} : tornB b b.length false = b := by
  unfold tornB
  rw [if_neg (by simp), List.take_length]
theorem torn_no {s A : List UInt8} {k : Nat} {torn : Bool} (h : s.length <= 700) (hk : k <= (frB s).length) (hb : k < (frB s).length \/ torn = true) : frOk (A ++ tornB (frB s) k torn) A.length = false := by
  cases hf : frOk (A ++ tornB (frB s) k torn) A.length with
  | false => rfl
  | true =>
    exfalso
    have hl := frE_lt hf
    obtain ⟨c1, c2⟩ := frOk_cut hf
    generalize frS (A ++ tornB (frB s) k torn) A.length = s' at c1 c2
    have ht := tornB_len (torn := torn) hk
    obtain ⟨R, hR⟩ : ∃ R, tornB (frB s) k torn = frB s' ++ R := by
      refine ⟨(tornB (frB s) k torn).drop (frE (A ++ tornB (frB s) k torn) A.length - A.length), ?_⟩
      rw [c1, List.take_append, List.drop_append, List.take_of_length_le (l := A) (by omega), List.drop_length, List.nil_append, Nat.sub_self, List.drop_zero, List.take_append_drop]
    have hlen : (frB s').length + R.length = k := by rw [<- ht, hR, laT]
    by_cases hto : torn = true /\ 0 < k
    · have e0 : tornB (frB s) k torn = (frB s).take (k - 1) ++ (((frB s).drop (k - 1)).take 1).map flip := by unfold tornB; rw [if_pos hto]
      have hlt : k - 1 < (frB s).length := by omega
      have e1 : ((frB s).drop (k - 1)).take 1 = [(frB s)[k - 1]] := by rw [List.drop_eq_getElem_cons hlt]; rfl
      rw [e0, e1] at hR
      generalize hx : (frB s)[k - 1] = x at hR
      have hsplit : frB s = (frB s).take (k - 1) ++ (x :: (frB s).drop k) := by
        rw [<- hx]
        conv => lhs; rw [<- List.take_append_drop (k - 1) (frB s), List.drop_eq_getElem_cons hlt]
        rw [show k - 1 + 1 = k by omega]
      generalize hT : (frB s).take (k - 1) = T at hR hsplit
      have hTl : T.length = k - 1 := by rw [<- hT, List.length_take]; omega
      simp only [List.map_cons, List.map_nil] at hR
      rcases List.eq_nil_or_concat R with hn | ⟨R', y, hR'⟩
      · subst hn
        rw [List.append_nil] at hR
        have q1 : frB s' = numB (s'.length : Nat) ++ (s' ++ threeB (sumB s')) := frB_eq
        have hs3 : (threeB (sumB s')).length = 3 := rfl
        have hz := frB_size (s := s')
        have hpre : T = (numB (s'.length : Nat) ++ (s' ++ (threeB (sumB s')).take 2)) := by
          have e2 : frB s' = (numB (s'.length : Nat) ++ (s' ++ (threeB (sumB s')).take 2)) ++ (threeB (sumB s')).drop 2 := by
            rw [q1]; simp only [List.append_assoc, List.take_append_drop]
          rw [e2] at hR
          exact (List.append_inj' hR rfl).1
        have hs2 : frB s = numB (s'.length : Nat) ++ (s' ++ ((threeB (sumB s')).take 2 ++ (x :: (frB s).drop k))) := by
          conv => lhs; rw [hsplit]
          rw [hpre]; simp only [List.append_assoc]
        have n1 := numFS_at (n := (s.length : Nat)) (by omega) (by omega) [] (s ++ threeB (sumB s))
        have n2 := numFS_at (n := (s'.length : Nat)) (by omega) (by omega) [] (s' ++ ((threeB (sumB s')).take 2 ++ (x :: (frB s).drop k)))
        simp only [List.nil_append] at n1 n2
        rw [<- frB_eq] at n1
        rw [<- hs2] at n2
        have hnn : ((s.length : Nat) : Int) = ((s'.length : Nat) : Int) := by
          have := congrArg Prod.fst (n1.symm.trans n2)
          exact this
        have hll : s.length = s'.length := by omega
        have hkf : k = (frB s).length := by
          have := frB_size (s := s)
          rw [hll] at this
          rw [<- hz] at this
          simp only [List.length_nil] at hlen
          omega
        have hss : s = s' := by
          have e3 : numB (s.length : Nat) ++ (s ++ threeB (sumB s)) = numB (s'.length : Nat) ++ (s' ++ ((threeB (sumB s')).take 2 ++ (x :: (frB s).drop k))) := frB_eq.symm.trans hs2
          rw [hll] at e3
          exact (List.append_inj (List.append_cancel_left e3) hll).1
        subst hss
        have e4 : T ++ [flip x] = T ++ (x :: (frB s).drop k) := hR.trans hsplit
        have e5 := List.append_cancel_left e4
        injection e5 with e6
        exact flip_ne x e6
      · have hR2 : T ++ [flip x] = (frB s' ++ R') ++ [y] := by rw [hR, hR']; simp
        have hTe : T = frB s' ++ R' := (List.append_inj' hR2 rfl).1
        have e3 : frB s ++ [] = frB s' ++ (R' ++ (x :: (frB s).drop k)) := by
          rw [List.append_nil]
          conv => lhs; rw [hsplit]
          rw [hTe, List.append_assoc]
        have := (frB_free h c2 e3).2
        simp at this
    · have e0 : tornB (frB s) k torn = (frB s).take k := by unfold tornB; rw [if_neg hto]
      rw [e0] at hR
      have e3 : frB s ++ [] = frB s' ++ (R ++ (frB s).drop k) := by
        rw [List.append_nil, <- List.append_assoc, <- hR, List.take_append_drop]
      have h5 := (frB_free h c2 e3).2
      have h6 : ((frB s).drop k).length = 0 := by
        have := congrArg List.length h5
        rw [laT] at this
        simp only [List.length_nil] at this
        omega
      rw [List.length_drop] at h6
      rcases hb with hb | hb
      · omega
      · have : 0 < k := by have := frB_pos (s := s); omega
        exact hto ⟨hb, this⟩
theorem keptB_eq (L : List EntryT) : keptB L = ((L.map entB).map frB).flatten := by unfold keptB; rw [List.map_map]; rfl
def goodE (e : EntryT) : Prop := okRec e.Rec = true /\ 1 <= e.Term /\ e.Term <= 200
theorem entB_700 {e : EntryT} (h : goodE e) : (entB e).length <= 700 := by
  have h1 := recB_tiny h.1
  have h2 := numB_five (n := e.Term) (by have := h.2; omega) (by have := h.2; omega)
  unfold entB
  rw [laT]; omega
theorem ents_700 {L : List EntryT} (h : ∀ e ∈ L, goodE e) : ∀ s ∈ L.map entB, s.length <= 700 := fun s hs => by
  obtain ⟨e, he, rfl⟩ := List.mem_map.1 hs
  exact entB_700 (h e he)
theorem ents_out : ∀ {L : List EntryT}, (∀ e ∈ L, goodE e) -> (L.map entB).map outE = L /\ (L.map entB).all okE = true
  | [], _ => ⟨rfl, rfl⟩
  | e :: L, h => by
    have h1 := h e (by simp)
    obtain ⟨o1, o2⟩ := outE_at h1.1 h1.2.1 h1.2.2
    obtain ⟨i1, i2⟩ := ents_out (L := L) fun x hx => h x (by simp [hx])
    simp only [List.map_cons, List.all_cons, o1, o2, i1, i2, Bool.and_self, and_self]
theorem flat_size {l : List (List UInt8)} (h : ∀ s ∈ l, s.length <= 700) : ((l.map frB).flatten).length <= 708 * l.length := flat_len (f := frB) l fun s hs => frB_700 (h s hs)
end Go.Proofs.YtjjjalcmcifncaaGreat
