/-
  Regions that draw their order are sound on abstract states.
  No condition: lemmas over any program.
-/
import Derived.Test.YtjjjalcmcifncaaGreatAb13
namespace Go.Ab
open Go.RowKit
section
variable {P : Program} {L : List Oper}
theorem opW_opA {o : Oper} {nid : Nat} {s : St} {K : St -> Prop} (h : opW P o.op nid s fun u=>Fits o nid s u /\ K (u.to nid o.dst s)) : opA P o nid s K:=by
 cases hst : isStore o.op with
 | false =>
  rw [opW_of hst] at h
  obtain ⟨v,os,⟨⟨f1,f2,f3,f4⟩,hk⟩,h2,_,_⟩:=opR_some h
  exact opR_opA (h2 (fun v os=>GiveOk nid o.dst os s /\ K (laidS nid o.dst v os s)) ⟨⟨f1,f2,f3⟩,hk⟩)
 | true =>
  obtain ⟨dst,op,type,pos,after,guard⟩:=o
  cases op <;> simp [isStore] at hst
  case store T x y =>
   simp only [opW] at h
   simp only [opA]
   split at h
   ·rename_i id idx off hx
    simp only [hx]
    split at h
    ·rename_i ob ho
     simp only [ho]
     split at h
     ·rename_i cs hc
      split at h
      ·rename_i n hn
       split at h
       ·exact h.elim
       ·rename_i hb
        split at h
        ·rename_i e he
         obtain ⟨h1,⟨f1,f2,f3,f4⟩,hk⟩:=h
         have hd : dst = none:=f4 rfl
         subst hd
         simp only [hc,hn,hb,he,storeK_eq]
         refine ⟨h1,?_⟩
         simp only [Out.to,Out.objs,St.put,hb] at hk
         exact hk
        ·exact h.elim
       ·rename_i hb
        obtain ⟨e,he,⟨h1,h2,h3,h4⟩,⟨f1,f2,f3,f4⟩,hk⟩:=h
        have hd : dst = none:=f4 rfl
        subst hd
        have hr : frzL s cs = (s,cs):=by
         unfold frzL
         rw [h4]
         simp only [frzIds,Prod.mk.injEq,true_and]
         rw [List.all_eq_true] at h3
         exact (List.map_congr_left fun a ha=>plain_rf0 (h3 a ha)).trans (List.map_id' cs)
        simp only [hc,hn,hb,hr,ho,forceS_eq]
        refine ⟨e,he,⟨trivial,h1,h2,h3⟩,?_⟩
        simp only [Out.to,Out.objs,St.put,hb] at hk
        exact hk
      ·exact h.elim
     ·exact h.elim
    ·exact h.elim
   ·exact h.elim
theorem dstVal_eq (s : St) (j : Nat) : oneW.dstV L s j = dstVal L s j:=rfl
theorem oneW_oneA {o : Oper} {nid : Nat} {s : St} {K : St -> Prop} (h : oneW P L o nid s fun u=>Fits o nid s u /\ K (u.to nid o.dst s)) : oneA P L o nid s K:=by
 unfold oneW at h
 unfold oneA
 cases hg : o.guard with
 | none =>
  rw [hg] at h
  exact opW_opA h
 | some jw =>
  obtain ⟨j,want⟩:=jw
  rw [hg] at h
  simp only [dstVal_eq] at h ⊢
  have skip : (Fits o nid s ⟨.tup [],[],none⟩ /\ K (Out.to ⟨.tup [],[],none⟩ nid o.dst s)) -> s.putK o.dst (.tup []) K:=fun h=>putK_of h.1.1 (by simpa [Out.to,Out.objs,addObjs] using h.2)
  split at h
  ·rename_i b hb
   simp only [hb]
   cases want with
   | true=>exact splitB_mono h opW_opA skip
   | false=>exact splitB_mono h skip opW_opA
  ·rename_i l hb
   try simp only [hb]
   split at h
   ·exact skip h
   ·exact h.elim
  ·exact h.elim
theorem Sim.WF {F : Nat -> Prop} {w0 : Base} {gv : List Value} {s : St} {a : Act} {w : World} {hdr : Nat -> Hdr} (h : Sim F w0 gv s a w hdr) : WF s:=by
 refine ⟨fun t=>VR.clo (c:=s.ctx F w hdr) _ _ (h.env t),fun id o ho hb=>?_⟩
 obtain ⟨_,_,_,cs,_,_,k6⟩:=h.objs id o ho
 exact VL.clo (c:=s.ctx F w hdr) _ _ (k6.box (box_kind hb)).1
theorem SimE.WF {F : Nat -> Prop} {w0 : Base} {gv : List Value} {s : St} {a : Act} {w : World} (h : SimE F w0 gv s a w) : WF s:=by
 obtain ⟨_,h⟩:=h
 exact h.WF
theorem wpAny_of_W {base : Nat} {Q : St -> Prop} {Q' : Exit -> Act -> World -> Prop} {F : Nat -> Prop} {w0 : Base} {gv : List Value} (hq : ∀ s a w,Q s -> SimE F w0 gv s a w -> Q' .normal a w) :
  ∀ (fuel : Nat) (listed : Array Bool) (s : St) (a : Act) (w : World),SimE F w0 gv s a w -> wpAnyW P L base Q fuel listed s -> wpAny P .any L.toArray Q' fuel listed a w
 | 0,_,_,_,_,hs,h=>⟨h.1,hq _ _ _ h.2 hs⟩
 | fuel + 1,listed,s,a,w,hs,h=>by
  refine ⟨fun h0=>hq _ _ _ (h.1 h0) hs,fun i hi=>?_⟩
  have hst:=h.2 i hi
  unfold stepW at hst
  unfold wpOp
  cases hL : L[i]? with
  | none =>
   simp only [hL] at hst
   simp only [List.getElem?_toArray,hL]
   exact wpAny_of_W hq fuel _ _ _ _ hs hst
  | some o =>
   simp only [hL] at hst
   simp only [List.getElem?_toArray,hL]
   rcases wanted_of hs (oneW_oneA hst) with ⟨hw,ho⟩ | ⟨hw,hp⟩
   ·rw [if_pos hw]
    exact .inl (opA_ok ho F w0 gv a w hs _ _ fun s' a' w' hk hs'=>wpAny_of_W hq fuel _ _ _ _ hs' hk)
   ·rw [if_neg (by rw [hw]; simp)]
    obtain ⟨s',hk,hs'⟩:=skip_ok hp hs
    exact wpAny_of_W hq fuel _ _ _ _ hs' hk
theorem SimE.drew {F : Nat -> Prop} {w0 : Base} {gv : List Value} {s : St} {a : Act} {w : World} (h : SimE F w0 gv s a w) : SimE F w0 gv s a { w with drawn:=w.drawn + 1 }:=by
 obtain ⟨hdr,h⟩:=h
 refine ⟨hdr,?_⟩
 have:=h.grow (w':={ w with drawn:=w.drawn + 1 }) (hdr':=hdr) (objs':=s.objs) ⟨rfl,rfl,rfl,Nat.le_refl _,fun _ _=>rfl⟩ (fun id o ho=>⟨ho,rfl⟩) (fun id o ho hn=>by rw [hn] at ho; cases ho) (fun i j o o' b hi hj ni=>by rw [ni] at hi; cases hi)
 exact this
theorem binA_form {op : BinOp} (ho : op = .add \/ op = .sub) {T : TypeId} {x y : AV} {c : Option Prop} {v : AV} (h : binA P op T x y = some (c,v)) : (∃ k n,v = .int k n) \/ ∃ l,v = .str l:=by
 cases x <;> simp only [binA] at h <;> try (cases h; done)
 case int k a =>
  cases y <;> simp only at h <;> try (cases h; done)
  case int k' b =>
   rcases ho with rfl | rfl
   all_goals
    simp only at h
    split at h
    ·rename_i hk
     subst hk
     simp only [intBin] at h
     cases h
     exact .inl ⟨_,_,rfl⟩
    ·cases h
 case str l =>
  cases y <;> simp only at h <;> try (cases h; done)
  case str l' =>
   rcases ho with rfl | rfl <;> simp only [strBin] at h <;> first | (cases h; exact .inr ⟨_,rfl⟩) | cases h
 case bool b =>
  cases y <;> simp only at h <;> try (cases h; done)
  case bool b' =>
   rcases ho with rfl | rfl <;> simp only at h <;> (split at h <;> cases h)
 case agg cs =>
  cases y <;> simp only at h <;> try (cases h; done)
  case agg cs' =>
   rcases ho with rfl | rfl
   all_goals
    simp only at h
    split at h
    ·split at h <;> cases h
    ·cases h
 all_goals (rcases ho with rfl | rfl <;> (cases y <;> simp_all))
theorem eager_bin {op : BinOp} (ho : op = .add \/ op = .sub) {T t : TypeId} {x y : Operand} {dst : Option Tmp} {type : TypeId} {pos : String} {after : Array Edge} {s : St} {c : Option Prop} {v : AV} (hb : binA P op T (s.val x) (s.val y) = some (c,v)) (hc : ∀ p,c = some p -> p) {F : Nat -> Prop} {w0 : Base} {gv : List Value} {a : Act} {w : World} {hdr : Nat -> Hdr} (hs : Sim F w0 gv s a w hdr) :
  ∃ r,(∀ w',(execOp a.eval ⟨dst,.binOp op T x y t,type,pos,after,none⟩).run P w' = .ok (.value r) w') /\ VR (s.ctx F w hdr) v r:=by
 have key : ∀ w',∃ r,(execOp a.eval ⟨dst,.binOp op T x y t,type,pos,after,none⟩).run P w' = .ok (.value r) w' /\ VR (s.ctx F w hdr) v r:=fun w'=>by
  obtain ⟨r,h1,h2⟩:=binA_ok hb hc (hs.val x) (hs.val y) w' x y
  exact ⟨r,by simp only [execOp,Sem.run_bind] at h1 ⊢; rw [h1]; rfl,h2⟩
 obtain ⟨r,h1,h2⟩:=key w
 refine ⟨r,fun w'=>?_,h2⟩
 obtain ⟨r',h3,h4⟩:=key w'
 have e : r' = r:=by
  rcases binA_form ho hb with ⟨k,n,rfl⟩ | ⟨l,rfl⟩
  ·unfold VR at h2 h4; rw [h2,h4]
  ·unfold VR at h2 h4; rw [h2,h4]
 rw [<- e]
 exact h3
theorem eager_ok {o : Oper} {nid : Nat} {s : St} {K : St -> Prop} (he : eagerOp o = true) (h : oneA P L o nid s K) {F : Nat -> Prop} {w0 : Base} {gv : List Value} {a : Act} {w : World} (hs : SimE F w0 gv s a w) :
  ∃ v,Yields P L.toArray o v a /\ ∃ s',K s' /\ SimE F w0 gv s' (a.put o.dst v) w:=by
 obtain ⟨hdr,hs⟩:=hs
 obtain ⟨dst,op,type,pos,after,guard⟩:=o
 unfold eagerOp at he
 cases guard with
 | some _=>simp at he
 | none =>
  simp only at he
  simp only [oneA] at h
  have hw : Region.wanted ⟨dst,op,type,pos,after,none⟩ (yielded L.toArray a.tmps) = true:=by simp [Region.wanted]
  cases op <;> simp only at he <;> try (cases he; done)
  case move x =>
   simp only [opA] at h
   obtain ⟨k1,k2⟩:=putK_elim h
   exact ⟨a.eval x,.inl ⟨hw,fun w=>by simp [execOp]⟩,_,k2,hdr,hs.put k1 (hs.val x)⟩
  case assign x =>
   simp only [opA] at h
   obtain ⟨k1,k2⟩:=putK_elim h
   exact ⟨a.eval x,.inl ⟨hw,fun w=>by simp [execOp]⟩,_,k2,hdr,hs.put k1 (hs.val x)⟩
  case nilCheck x =>
   simp only [opA] at h
   have h1:=hs.val x
   have hrun : (∀ w',(execOp a.eval ⟨dst,.nilCheck x,type,pos,after,none⟩).run P w' = .ok (.value (a.eval x)) w') /\ s.putK dst (s.val x) K:=by
    generalize s.val x = p at h h1
    cases p <;> simp only at h <;> try (exact h.elim)
    ·unfold VR RR at h1
     obtain ⟨_,_,e,_⟩:=h1
     exact ⟨fun w'=>by simp [execOp,e],h⟩
    ·unfold VR at h1
     obtain ⟨_,_,_,_,e⟩:=h1
     exact ⟨fun w'=>by simp [execOp,e],h⟩
    ·unfold VR at h1
     obtain ⟨_,e,_⟩:=h1
     exact ⟨fun w'=>by simp [execOp,e],h⟩
   obtain ⟨k1,k2⟩:=putK_elim hrun.2
   exact ⟨a.eval x,.inl ⟨hw,hrun.1⟩,_,k2,hdr,hs.put k1 h1⟩
  case binOp op T x y t =>
   have ho : op = .add \/ op = .sub:=by cases op <;> simp at he <;> simp
   have hn : nilC op y = false:=by rcases ho with rfl | rfl <;> rfl
   simp only [opA,hn] at h
   cases hb : binA P op T (s.val x) (s.val y) with
   | none=>rw [hb] at h; exact h.elim
   | some cv =>
    obtain ⟨c,v⟩:=cv
    rw [hb] at h
    cases c with
    | none =>
     simp only at h
     obtain ⟨k1,k2⟩:=putK_elim (putN_elim h)
     obtain ⟨r,h1,h2⟩:=eager_bin (dst:=dst) (t:=t) (type:=type) (pos:=pos) (after:=after) ho hb (fun p e=>by cases e) hs
     exact ⟨r,.inl ⟨hw,h1⟩,_,k2,hdr,hs.put k1 h2⟩
    | some c =>
     simp only at h
     obtain ⟨k1,k2⟩:=putK_elim (putN_elim h.2)
     obtain ⟨r,h1,h2⟩:=eager_bin (dst:=dst) (t:=t) (type:=type) (pos:=pos) (after:=after) ho hb (fun p e=>by cases e; exact h.1) hs
     exact ⟨r,.inl ⟨hw,h1⟩,_,k2,hdr,hs.put k1 h2⟩
  case fieldAddr T x f =>
   simp only [opA] at h
   split at h
   ·rename_i off t hf
    split at h
    ·rename_i p hm
     obtain ⟨k1,k2⟩:=putK_elim h
     obtain ⟨b,o,h1,h2⟩:=moveP_ok (hs.val x) hm
     exact ⟨_,.inl ⟨hw,fun w=>by simp [execOp,h1,run_fieldAt hf]⟩,_,k2,hdr,hs.put k1 h2⟩
    ·exact h.elim
   ·exact h.elim
theorem atA_ok {base : Nat} {i : Nat} {s : St} {K : St -> Prop} (h : atA P L base i s K) {F : Nat -> Prop} {w0 : Base} {gv : List Value} {a : Act} {w : World} (hs : SimE F w0 gv s a w) {Q : Exit -> Act -> World -> Prop} {K' : Act -> World -> Prop}
  (hk : ∀ s' a' w',K s' -> SimE F w0 gv s' a' w' -> K' a' w') : wpOp P L.toArray Q i K' a w:=by
 unfold atA at h
 unfold wpOp
 cases hL : L[i]? with
 | none=>simp only [hL] at h
 | some o =>
  simp only [hL] at h
  simp only [List.getElem?_toArray,hL]
  rcases wanted_of hs h with ⟨hw,ho⟩ | ⟨hw,hp⟩
  ·rw [if_pos hw]
   exact .inl (opA_ok ho F w0 gv a w hs _ _ fun s' a' w' hq hs'=>hk _ _ _ hq hs')
  ·rw [if_neg (by rw [hw]; simp)]
   obtain ⟨s',hq,hs'⟩:=skip_ok hp hs
   exact hk _ _ _ hq hs'
theorem fitsB_of {o : Oper} {nid : Nat} {s : St} {u : Out} (h : Fits o nid s u) : fitsB o nid s u = true:=by
 obtain ⟨h1,h2,h3,h4⟩:=h
 unfold fitsB
 rw [fitsZ_eq,h1,h2,decide_eq_true h3]
 simp only
 cases hs : isStore o.op with
 | false=>rfl
 | true=>rw [h4 hs]; rfl
theorem textI_cons {base : Nat} {Q : St -> Prop} {i : Nat} {is : List Nat} {s : St} : textI P L base Q (i :: is) s =
  match L[i]? with
  | some o=>oneW P L o (base + 16 * i) s fun u =>
   match fitsB o (base + 16 * i) s u with
   | true=>u.toK (base + 16 * i) o.dst s (textI P L base Q is)
   | false=>False
  | none=>False:=rfl
theorem oneB_spec {i : Nat} (h : oneB L i = true) : ∃ o,L[i]? = some o /\ memC o.op <= 2 /\ (o.guard.isSome = true -> memC o.op ≠ 2):=by
 unfold oneB at h
 split at h
 ·rename_i o ho
  simp only [baT,decide_eq_true_eq,Bool.or_eq_true,bne_iff_ne] at h
  refine ⟨o,ho,h.1,fun hg=>?_⟩
  rcases h.2 with h | h
  ·cases hq : o.guard <;> simp [hq] at h hg
  ·exact h
 ·cases h
theorem textI_head {base : Nat} {Q : St -> Prop} {i : Nat} {is : List Nat} {s : St} {o : Oper} (ho : L[i]? = some o) (hg : o.guard.isSome = true -> memC o.op ≠ 2) (h : textI P L base Q (i :: is) s) :
  ∃ u,YieldsW P L (base + 16 * i) o u s /\ textI P L base Q is (u.to (base + 16 * i) o.dst s):=by
 rw [textI_cons,ho] at h
 obtain ⟨u,hu,hall,hok⟩:=oneW_some hg h
 split at hu
 ·rename_i hf
  rw [Out.toK_eq] at hu
  exact ⟨u,⟨hall,fitsB_spec hf,hok⟩,hu⟩
 ·exact hu.elim
theorem textI_of {base : Nat} {Q : St -> Prop} {i : Nat} {is : List Nat} {s : St} {o : Oper} {u : Out} (ho : L[i]? = some o) (hy : YieldsW P L (base + 16 * i) o u s) (h : textI P L base Q is (u.to (base + 16 * i) o.dst s)) : textI P L base Q (i :: is) s:=by
 rw [textI_cons,ho]
 refine hy.1 _ ?_
 rw [fitsB_of hy.2.1]
 simp only
 rw [Out.toK_eq]
 exact h
theorem textI_mono {base : Nat} {Q Q' : St -> Prop} : ∀ {is : List Nat} {s : St},(∀ i ∈ is,oneB L i = true) -> (∀ s,Q s -> Q' s) -> textI P L base Q is s -> textI P L base Q' is s
 | [],_,_,hq,h=>hq _ h
 | i :: is,s,hb,hq,h=>by
  obtain ⟨o,ho,_,hg⟩:=oneB_spec (hb i (by simp))
  obtain ⟨u,hy,hr⟩:=textI_head ho hg h
  exact textI_of ho hy (textI_mono (fun j hj=>hb j (by simp [hj])) hq hr)
theorem textI_app {base : Nat} {Q : St -> Prop} {js : List Nat} : ∀ {is : List Nat} {s : St},(∀ i ∈ is,oneB L i = true) -> textI P L base (textI P L base Q js) is s -> textI P L base Q (is ++ js) s
 | [],_,_,h=>h
 | i :: is,s,hb,h=>by
  obtain ⟨o,ho,_,hg⟩:=oneB_spec (hb i (by simp))
  obtain ⟨u,hy,hr⟩:=textI_head ho hg h
  exact textI_of ho hy (textI_app (fun j hj=>hb j (by simp [hj])) hr)
def ApartI (L : List Oper) (i j : Nat) : Prop:=∃ oi oj,L[i]? = some oi /\ L[j]? = some oj /\ oi.apart L.toArray oj = true /\ compat (memC oi.op) (memC oj.op) = true
theorem textI_front {base : Nat} {Q : St -> Prop} {i : Nat} {oi : Oper} (hi : L[i]? = some oi) (hbi : oneB L i = true) {post : List Nat} : ∀ {pre : List Nat} {s : St},(∀ j ∈ pre,oneB L j = true /\ j ≠ i /\ ApartI L j i) -> WF s -> textI P L base Q (pre ++ i :: post) s ->
  ∃ u,YieldsW P L (base + 16 * i) oi u s /\ textI P L base Q (pre ++ post) (u.to (base + 16 * i) oi.dst s)
 | [],s,_,_,h=>by
  obtain ⟨o,ho,_,hg⟩:=oneB_spec hbi
  have e : o = oi:=Option.some.inj (ho.symm.trans hi)
  subst e
  exact textI_head ho hg h
 | j :: pre,s,hp,hw,h=>by
  obtain ⟨b1,hne,oj,oi',hj,hi',hap,hcp⟩:=hp j (by simp)
  have e : oi' = oi:=Option.some.inj (hi'.symm.trans hi)
  subst e
  obtain ⟨o1,ho1,hmj,hgj⟩:=oneB_spec b1
  have e1 : o1 = oj:=Option.some.inj (ho1.symm.trans hj)
  subst e1
  obtain ⟨o2,ho2,hmi,hgi⟩:=oneB_spec hbi
  have e2 : o2 = oi':=Option.some.inj (ho2.symm.trans hi)
  subst e2
  obtain ⟨uj,hyj,hr⟩:=textI_head hj hgj h
  obtain ⟨ui,hyi,hr2⟩:=textI_front hi hbi (fun k hk=>hp k (by simp [hk])) (hw.to hmj hyj.2.2 hyj.2.1.2.1) hr
  have h1 : stepW P L base i (textI P L base Q (pre ++ post)) (uj.to (base + 16 * j) o1.dst s):=by
   unfold stepW
   rw [hi]
   exact hyi.1 _ ⟨hyi.2.1,hr2⟩
  have h2:=stepW_put hj hi hne hap hcp hmj hmi hgi hw hyj h1
  unfold stepW at h2
  rw [hi] at h2
  obtain ⟨u,⟨hf,⟨hy',_⟩,hr3⟩,hall,hok⟩:=oneW_some hgi h2
  exact ⟨u,⟨hall,hf,hok⟩,textI_of hj hy' hr3⟩
structure LateI (L : List Oper) (n : Nat) (ls is : List Nat) (listed : Array Bool) : Prop where
 size : listed.size = L.toArray.size
 closed : ∀ (j : Nat) oj,L.toArray[j]? = some oj -> listed.getD j false = true -> ∀ e ∈ oj.after,Region.binds .any e = true -> listed.getD e.on false = true
 tail : ∀ t,n <= t -> t < L.toArray.size -> listed.getD t true = false
 mem : ∀ i,i < n -> i ∉ ls -> listed.getD i true = false -> i ∈ is
 un : ∀ i ∈ is,i < n /\ i ∉ ls /\ listed.getD i true = false
structure LateO (L : List Oper) (n : Nat) (ls is : List Nat) : Prop where
 asc : is.Pairwise (· < ·)
 pairs : is.Pairwise fun i j=>pairB L i j = true
 pairL : ∀ i ∈ is,∀ l ∈ ls,pairB L i l = true
 one : ∀ i ∈ is,oneB L i = true
 oneL : ∀ l ∈ ls,oneB L l = true
 less : ∀ l ∈ ls,l < n
 back : ∀ i ∈ is,∀ (o : Oper),L[i]? = some o -> ∀ e ∈ o.after,Region.binds .any e = true -> e.on < i /\ e.on ∉ ls
 sink : ∀ i ∈ is,∃ j,j <= n /\ i < j /\ j ∉ ls /\ Region.waitsFor .any L.toArray j i = true
theorem LateO.sub {n : Nat} {ls ls' is : List Nat} (h : LateO L n ls is) (hs : ∀ l ∈ ls',l ∈ ls) : LateO L n ls' is :=
 ⟨h.asc,h.pairs,fun i hi l hl=>h.pairL i hi l (hs l hl),h.one,fun l hl=>h.oneL l (hs l hl),fun l hl=>h.less l (hs l hl),fun i hi o ho e he hb=>⟨(h.back i hi o ho e he hb).1,fun hq=>(h.back i hi o ho e he hb).2 (hs _ hq)⟩,fun i hi=>by
  obtain ⟨j,h1,h2,h3,h4⟩:=h.sink i hi
  exact ⟨j,h1,h2,fun hq=>h3 (hs _ hq),h4⟩⟩
theorem LateI.waits {n : Nat} {ls is is0 : List Nat} {listed : Array Bool} (inv : LateI L n ls is listed) (ho : LateO L n ls is0) (hsub : ∀ i ∈ is,i ∈ is0) (hc : Region.chainB .any L.toArray n = true) (hn : n < L.toArray.size) :
  ∀ (d i : Nat),n - i = d -> i ∈ is -> ∀ t,n <= t -> t ∉ Region.ready .any L.toArray listed:=by
 intro d
 induction d using Nat.strongRecOn with
 | _ d ih =>
  intro i hd hi t ht hr
  obtain ⟨hin,hil,hun⟩:=inv.un i hi
  obtain ⟨_,ot,hot,hall⟩:=mem_ready.1 hr
  have htlt : t < L.toArray.size:=(Array.getElem?_eq_some_iff.1 hot).1
  by_cases htn : t = n
  ·subst htn
   obtain ⟨j,hjn,hij,hjl,hw⟩:=ho.sink i (hsub i hi)
   obtain ⟨oj,hoj,e,he,hb,hon⟩:=Region.waitsFor_spec hw
   by_cases hjt : j = t
   ·subst hjt
    have : oj = ot:=Option.some.inj (hoj.symm.trans hot)
    subst this
    have h2:=hall e he hb
    rw [hon,getD_both hun] at h2
    cases h2
   ·cases hl : listed.getD j false with
    | true =>
     have h2:=inv.closed j oj hoj hl e he hb
     rw [hon,getD_both hun] at h2
     cases h2
    | false =>
     have hjs : j < listed.size:=by rw [inv.size]; omega
     exact ih (t - j) (by omega) j rfl (inv.mem j (by omega) hjl (getD_in hjs hl)) t (Nat.le_refl _) hr
  ·have h1:=List.all_eq_true.1 hc t (List.mem_range.2 htlt)
   simp only [Bool.or_eq_true,decide_eq_true_eq] at h1
   rcases h1 with h1 | h1
   ·omega
   ·obtain ⟨o',ho',e,he,hb,hon⟩:=Region.waitsFor_spec h1
    have : o' = ot:=Option.some.inj (ho'.symm.trans hot)
    subst this
    have h2:=hall e he hb
    rw [hon,getD_both (inv.tail (t - 1) (by omega) (by omega))] at h2
    cases h2
theorem LateI.some {n : Nat} {ls is is0 : List Nat} {i : Nat} {listed : Array Bool} (inv : LateI L n ls (i :: is) listed) (ho : LateO L n ls is0) (hsub : ∀ j ∈ i :: is,j ∈ is0) (hasc : (i :: is).Pairwise (· < ·)) : i ∈ Region.ready .any L.toArray listed:=by
 obtain ⟨hin,hil,hun⟩:=inv.un i (by simp)
 obtain ⟨o,hoi,_,_⟩:=oneB_spec (ho.one i (hsub i (by simp)))
 refine mem_ready.2 ⟨hun,o,by simpa using hoi,fun e he hb=>?_⟩
 obtain ⟨h1,h2⟩:=ho.back i (hsub i (by simp)) o hoi e he hb
 cases hl : listed.getD e.on false with
 | true=>rfl
 | false =>
  have hlt : e.on < L.toArray.size:=by
   have:=(List.getElem?_eq_some_iff.1 hoi).1
   simp only [List.size_toArray]
   omega
  have hm:=inv.mem e.on (by omega) h2 (getD_in (by rw [inv.size]; exact hlt) hl)
  rcases List.mem_cons.1 hm with h | h
  ·omega
  ·have:=(List.pairwise_cons.1 hasc).1 e.on h
   omega
theorem LateI.set {n i : Nat} {ls pre post : List Nat} {listed : Array Bool} (inv : LateI L n ls (pre ++ i :: post) listed) (hnd : (pre ++ i :: post).Pairwise (· < ·)) (hr : i ∈ Region.ready .any L.toArray listed) : LateI L n ls (pre ++ post) (listed.setIfInBounds i true):=by
 obtain ⟨hin,hil,hun⟩:=inv.un i (by simp)
 obtain ⟨_,oi,hoi,hall⟩:=mem_ready.1 hr
 have hne : ∀ j ∈ pre ++ post,j ≠ i:=fun j hj=>by
  rcases List.mem_append.1 hj with h | h
  ·have:=(List.pairwise_append.1 hnd).2.2 j h i (by simp)
   omega
  ·have:=(List.pairwise_cons.1 (List.pairwise_append.1 hnd).2.1).1 j h
   omega
 refine ⟨by simp only [Array.size_setIfInBounds]; exact inv.size,fun j oj hj hl e he hb=>?_,fun t ht ht'=>by rw [getD_set_ne true (by omega)]; exact inv.tail t ht ht',fun j hj hjl hu=>?_,fun j hj=>?_⟩
 ·by_cases hij : i = j
  ·subst hij
   have : oj = oi:=Option.some.inj (hj.symm.trans hoi)
   subst this
   exact getD_set_true (hall e he hb)
  ·rw [getD_set_ne false hij] at hl
   exact getD_set_true (inv.closed j oj hj hl e he hb)
 ·by_cases hij : i = j
  ·subst hij
   have hlt : i < listed.size:=by rw [inv.size]; exact (Array.getElem?_eq_some_iff.1 hoi).1
   simp [hlt] at hu
  ·rw [getD_set_ne true hij] at hu
   have:=inv.mem j hj hjl hu
   simp only [List.mem_append,List.mem_cons] at this ⊢
   rcases this with h | h | h
   ·exact .inl h
   ·exact absurd h.symm hij
   ·exact .inr h
 ·obtain ⟨h1,h2,h3⟩:=inv.un j (by simp only [List.mem_append,List.mem_cons] at hj ⊢; rcases hj with h | h <;> simp [h])
  exact ⟨h1,h2,by rw [getD_set_ne true (Ne.symm (hne j hj))]; exact h3⟩
theorem LateI.setL {n l : Nat} {ls is : List Nat} {listed : Array Bool} (inv : LateI L n ls is listed) (hl : l ∈ ls) (hln : l < n) (hr : l ∈ Region.ready .any L.toArray listed) : LateI L n (ls.erase l) is (listed.setIfInBounds l true):=by
 obtain ⟨_,oi,hoi,hall⟩:=mem_ready.1 hr
 refine ⟨by simp only [Array.size_setIfInBounds]; exact inv.size,fun j oj hj hlj e he hb=>?_,fun t ht ht'=>by rw [getD_set_ne true (by omega)]; exact inv.tail t ht ht',fun j hj hjl hu=>?_,fun j hj=>?_⟩
 ·by_cases hij : l = j
  ·subst hij
   have : oj = oi:=Option.some.inj (hj.symm.trans hoi)
   subst this
   exact getD_set_true (hall e he hb)
  ·rw [getD_set_ne false hij] at hlj
   exact getD_set_true (inv.closed j oj hj hlj e he hb)
 ·by_cases hij : l = j
  ·subst hij
   have hlt : l < listed.size:=by rw [inv.size]; exact (Array.getElem?_eq_some_iff.1 hoi).1
   simp [hlt] at hu
  ·rw [getD_set_ne true hij] at hu
   exact inv.mem j hj (fun hq=>hjl ((List.mem_erase_of_ne (Ne.symm hij)).2 hq)) hu
 ·obtain ⟨h1,h2,h3⟩:=inv.un j hj
  have hne : l ≠ j:=fun e=>by subst e; exact h2 hl
  exact ⟨h1,fun hq=>h2 (List.mem_of_mem_erase hq),by rw [getD_set_ne true hne]; exact h3⟩
theorem set_comm2 (a : Array Bool) (i j : Nat) : (a.setIfInBounds i true).setIfInBounds j true = (a.setIfInBounds j true).setIfInBounds i true:=by
 by_cases h : i = j
 ·subst h; rfl
 ·exact Array.setIfInBounds_comm _ _ h
theorem setAll_out : ∀ (is : List Nat) (a : Array Bool) (i : Nat),setAll (a.setIfInBounds i true) is = (setAll a is).setIfInBounds i true
 | [],_,_=>rfl
 | j :: is,a,i=>by
  show setAll ((a.setIfInBounds i true).setIfInBounds j true) is = (setAll (a.setIfInBounds j true) is).setIfInBounds i true
  rw [set_comm2,setAll_out is]
theorem setAll_mid : ∀ (pre post : List Nat) (a : Array Bool) (i : Nat),setAll (a.setIfInBounds i true) (pre ++ post) = setAll a (pre ++ i :: post)
 | [],post,a,i=>rfl
 | j :: pre,post,a,i=>by
  show setAll ((a.setIfInBounds i true).setIfInBounds j true) (pre ++ post) = setAll (a.setIfInBounds j true) (pre ++ i :: post)
  rw [set_comm2,setAll_mid pre post]
theorem pairB_apart {i j : Nat} (h : pairB L i j = true) {listed : Array Bool} (hu : listed.getD i false = false) (hr : j ∈ Region.ready .any L.toArray listed) : ApartI L i j:=by
 unfold pairB at h
 split at h
 ·rename_i oi oj hi hj
  simp only [Bool.or_eq_true,baT] at h
  rcases h with h | h
  ·exact ⟨oi,oj,hi,hj,h.1,h.2⟩
  ·obtain ⟨e,he,hb⟩:=Array.any_eq_true'.1 h
   simp only [baT] at hb
   obtain ⟨_,o,ho,hall⟩:=mem_ready.1 hr
   have : o = oj:=Option.some.inj ((by simpa using ho.symm : some o = L[j]?).trans hj)
   subst this
   have:=hall e he hb.1
   rw [Nat.eq_of_beq_eq_true hb.2,hu] at this
   cases this
 ·cases h
theorem yieldsW_op {base i : Nat} {o : Oper} {u : Out} {s : St} {K : St -> Prop} (hi : L[i]? = some o) (hy : YieldsW P L (base + 16 * i) o u s) (hk : K (u.to (base + 16 * i) o.dst s)) {F : Nat -> Prop} {w0 : Base} {gv : List Value} {a : Act} {w : World} (hs : SimE F w0 gv s a w) {Q : Exit -> Act -> World -> Prop} {K' : Act -> World -> Prop}
  (hK : ∀ s' a' w',K s' -> SimE F w0 gv s' a' w' -> K' a' w') : wpOp P L.toArray Q i K' a w:=by
 have h : oneA P L o (base + 16 * i) s K:=oneW_oneA (hy.1 _ ⟨hy.2.1,hk⟩)
 have h2 : atA P L base i s K:=by unfold atA; rw [hi]; exact h
 exact atA_ok h2 hs hK
section
variable {base n : Nat} {F : Nat -> Prop} {w0 : Base} {gv : List Value} {Q' : Exit -> Act -> World -> Prop}
def LateS (P : Program) (L : List Oper) (base n : Nat) (F : Nat -> Prop) (w0 : Base) (gv : List Value) (Q' : Exit -> Act -> World -> Prop) (K : St -> Prop) (T : Plan) (todo ls : List Nat) (Fin : Array Bool) (g : Nat) : Prop :=
 (∀ l ∈ todo,l ∈ ls -> ∀ (is : List Nat) (listed : Array Bool) (s : St) (a : Act) (w : World),(∃ is0,LateO L n ls is0 /\ is.Sublist is0) -> LateI L n ls is listed -> setAll listed is = Fin -> l ∈ Region.ready .any L.toArray listed -> textI P L base (expA P L base K T) is s -> SimE F w0 gv s a w ->
  ∃ g',g = g' + 1 /\ wpOp P L.toArray Q' l (wpAny P .any L.toArray Q' (is.length + g') (listed.setIfInBounds l true)) a w) /\
 (∀ s a w,expA P L base K T s -> SimE F w0 gv s a w -> wpAny P .any L.toArray Q' g Fin a w)
theorem setAll_keeps : ∀ (is : List Nat) (a : Array Bool) (j : Nat),a.getD j false = true -> (setAll a is).getD j false = true
 | [],_,_,h=>h
 | i :: is,a,j,h=>by
  show (setAll (a.setIfInBounds i true) is).getD j false = true
  refine setAll_keeps is _ j ?_
  by_cases e : i = j
  ·subst e
   have : i < a.size:=by
    rcases Nat.lt_or_ge i a.size with q | q
    ·exact q
    ·rw [Array.getD_eq_getD_getElem?,Array.getElem?_eq_none q] at h; cases h
   simp [Array.getD_eq_getD_getElem?,this]
  ·rw [Array.getD_eq_getD_getElem?,Array.getElem?_setIfInBounds_ne e,<- Array.getD_eq_getD_getElem?]
   exact h
theorem late_wait {K : St -> Prop} {l0 : Nat} {T : Plan} {todo ls : List Nat} {Fin : Array Bool} {g : Nat} {o : Oper} (hL : L[l0]? = some o) (hw : (o.after.any fun e=>Region.binds .any e && !Fin.getD e.on true) = true) (h2 : LateS P L base n F w0 gv Q' K T todo ls Fin g) : LateS P L base n F w0 gv Q' K (.lwait T) (l0 :: todo) ls Fin g:=by
 refine ⟨fun l hl hls is listed s a w hO inv hfin hr h hs=>?_,fun s a w h hs=>h2.2 s a w h hs⟩
 by_cases e : l = l0
 ·subst e
  obtain ⟨_,ol,hol,hall⟩:=mem_ready.1 hr
  rw [show L.toArray[l]? = L[l]? by simp,hL] at hol
  cases hol
  obtain ⟨e,he,hb⟩:=Array.any_eq_true'.1 hw
  simp only [baT,Bool.not_eq_true'] at hb
  have h3:=setAll_keeps is listed e.on (hall e he hb.1)
  rw [hfin] at h3
  have h4:=hb.2
  rw [Array.getD_eq_getD_getElem?] at h3 h4
  cases hq : Fin[e.on]? with
  | none=>rw [hq] at h3; cases h3
  | some b=>rw [hq] at h3 h4; simp at h3 h4; rw [h3] at h4; cases h4
 ·exact h2.1 l (by rcases List.mem_cons.1 hl with h | h; exact absurd h e; exact h) hls is listed s a w hO inv hfin hr h hs
theorem late_all {K : St -> Prop} {T : Plan} {ls is0 : List Nat} {Fin : Array Bool} {g : Nat} (ho : LateO L n ls is0) (hc : Region.chainB .any L.toArray n = true) (hn : n < L.toArray.size) (hS : LateS P L base n F w0 gv Q' K T ls ls Fin g) :
  ∀ (m : Nat) (is : List Nat) (listed : Array Bool) (s : St) (a : Act) (w : World),is.length = m -> LateI L n ls is listed -> is.Sublist is0 -> setAll listed is = Fin -> textI P L base (expA P L base K T) is s -> SimE F w0 gv s a w -> wpAny P .any L.toArray Q' (m + g) listed a w:=by
 intro m
 induction m with
 | zero =>
  intro is listed s a w hm inv hsub hfin h hs
  have : is = []:=List.length_eq_zero_iff.1 hm
  subst this
  rw [Nat.zero_add,show listed = Fin from hfin]
  exact hS.2 s a w h hs
 | succ m ih =>
  intro is listed s a w hm inv hsub hfin h hs
  have hasc:=ho.asc.sublist hsub
  have hmem : ∀ j ∈ is,j ∈ is0:=fun j hj=>hsub.subset hj
  obtain ⟨i0,is',rfl⟩ : ∃ i0 is',is = i0 :: is':=by
   cases is with
   | nil=>simp at hm
   | cons i0 is'=>exact ⟨i0,is',rfl⟩
  rw [show m + 1 + g = (m + g) + 1 by omega]
  refine ⟨fun h0=>?_,fun i hi=>?_⟩
  ·have:=inv.some ho hmem hasc
   rw [h0] at this
   cases this
  ·have hun:=(mem_ready.1 hi).1
   have hin : i < n:=by
    rcases Nat.lt_or_ge i n with q | q
    ·exact q
    ·exact absurd hi (inv.waits ho hmem hc hn _ i0 rfl (by simp) i q)
   by_cases hil : i ∈ ls
   ·obtain ⟨g',rfl,hw⟩:=hS.1 i hil hil _ _ _ _ _ ⟨is0,ho,hsub⟩ inv hfin hi h hs
    rw [hm,show m + 1 + g' = m + (g' + 1) by omega] at hw
    exact hw
   ·have him:=inv.mem i hin hil hun
    obtain ⟨pre,post,e⟩:=List.append_of_mem him
    rw [e] at h hsub hm hfin inv hasc hmem
    obtain ⟨oi,hoi,_,_⟩:=oneB_spec (ho.one i (hmem i (by simp)))
    have hpw:=ho.pairs.sublist hsub
    have hap : ∀ j ∈ pre,oneB L j = true /\ j ≠ i /\ ApartI L j i:=fun j hj=>by
     have h2:=(List.pairwise_append.1 hpw).2.2 j hj i (by simp)
     have h3:=(List.pairwise_append.1 hasc).2.2 j hj i (by simp)
     exact ⟨ho.one j (hmem j (by simp [hj])),by omega,pairB_apart h2 (getD_both (inv.un j (by simp [hj])).2.2) hi⟩
    obtain ⟨u,hy,hr⟩:=textI_front hoi (ho.one i (hmem i (by simp))) hap hs.WF h
    have hs3 : (pre ++ post).Sublist (pre ++ i :: post):=List.Sublist.append (List.Sublist.refl _) (List.sublist_cons_self _ _)
    exact yieldsW_op hoi hy hr hs fun s' a' w' hk hs'=>ih (pre ++ post) _ s' a' w' (by simp at hm ⊢; omega) (inv.set hasc hi) (hs3.trans hsub) (by rw [setAll_mid]; exact hfin) hk hs'
theorem late_lend {K : St -> Prop} {l0 : Nat} {T T' : Plan} {todo ls : List Nat} {Fin : Array Bool} {g : Nat} (hc : Region.chainB .any L.toArray n = true) (hn : n < L.toArray.size)
  (h1 : LateS P L base n F w0 gv Q' K T (ls.erase l0) (ls.erase l0) (Fin.setIfInBounds l0 true) g) (h2 : LateS P L base n F w0 gv Q' K T' todo ls Fin (g + 1)) : LateS P L base n F w0 gv Q' K (.lend l0 T T') (l0 :: todo) ls Fin (g + 1):=by
 refine ⟨fun l hl hls is listed s a w hO inv hfin hr h hs=>?_,fun s a w h hs=>h2.2 s a w (both_elim h).2 hs⟩
 obtain ⟨is0,ho,hsub⟩:=hO
 have hmem : ∀ j ∈ is,j ∈ is0:=fun j hj=>hsub.subset hj
 have hb : ∀ j ∈ is,oneB L j = true:=fun j hj=>ho.one j (hmem j hj)
 by_cases e : l = l0
 ·subst e
  refine ⟨g,rfl,?_⟩
  have h3 : textI P L base (expA P L base K T) (is ++ [l]) s:=textI_app hb (textI_mono hb (fun s q=>(both_elim q).1) h)
  obtain ⟨oi,hoi,_,_⟩:=oneB_spec (ho.oneL l hls)
  have hap : ∀ j ∈ is,oneB L j = true /\ j ≠ l /\ ApartI L j l:=fun j hj=>by
   refine ⟨hb j hj,fun e=>?_,pairB_apart (ho.pairL j (hmem j hj) l hls) (getD_both (inv.un j hj).2.2) hr⟩
   subst e
   exact (inv.un j hj).2.1 hls
  obtain ⟨u,hy,hr2⟩:=textI_front hoi (ho.oneL l hls) hap hs.WF h3
  rw [List.append_nil] at hr2
  exact yieldsW_op hoi hy hr2 hs fun s' a' w' hk hs'=>late_all (ho.sub fun l' hl'=>List.mem_of_mem_erase hl') hc hn h1 is.length is _ s' a' w' rfl (inv.setL hls (ho.less l hls) hr) hsub (by rw [setAll_out,hfin]) hk hs'
 ·exact h2.1 l (by rcases List.mem_cons.1 hl with h | h; exact absurd h e; exact h) hls is listed s a w ⟨is0,ho,hsub⟩ inv hfin hr (textI_mono hb (fun s q=>(both_elim q).2) h) hs
end
theorem pairsB_spec : ∀ {is : List Nat},pairsB L is = true -> is.Pairwise fun i j=>pairB L i j = true
 | [],_=>List.Pairwise.nil
 | i :: is,h=>by
  simp only [pairsB,baT] at h
  exact List.pairwise_cons.2 ⟨fun j hj=>List.all_eq_true.1 h.1 j hj,pairsB_spec h.2⟩
theorem ascB_spec : ∀ {is : List Nat},ascB is = true -> is.Pairwise (· < ·)
 | [],_=>List.Pairwise.nil
 | i :: is,h=>by
  simp only [ascB,baT] at h
  exact List.pairwise_cons.2 ⟨fun j hj=>by have:=List.all_eq_true.1 h.1 j hj; exact nbT this,ascB_spec h.2⟩
theorem lateB_spec {n : Nat} {ls is : List Nat} {listed : Array Bool} (h : lateB L listed n ls is = true) : LateO L n ls is /\ LateI L n ls is listed /\ Region.chainB .any L.toArray n = true /\ n < L.toArray.size:=by
 unfold lateB at h
 simp only [baT] at h
 obtain ⟨⟨⟨a1,a2,a3⟩,⟨a4,a5⟩,a6,a6'⟩,⟨a7,a8⟩,a9,a10,a12,a13,a14⟩:=h
 have hsz:=Nat.eq_of_beq_eq_true a1
 have hn : n < L.length:=nbT a3
 refine ⟨⟨ascB_spec a4,pairsB_spec a6,fun i hi l hl=>List.all_eq_true.1 (List.all_eq_true.1 a5 i hi) l hl,fun i hi=>List.all_eq_true.1 a6' i (List.mem_append_left _ hi),fun l hl=>List.all_eq_true.1 a6' l (List.mem_append_right _ hl),fun l hl=>?_,fun i hi o ho e he hb=>?_,fun i hi=>?_⟩,⟨by simpa using hsz,fun j oj hj hl e he hb=>?_,fun t ht ht'=>?_,fun i hi hil hu=>?_,fun i hi=>?_⟩,a14,by simpa using hn⟩
 ·have:=List.all_eq_true.1 a2 l hl
  simp only [baT] at this
  exact nbT this.1
 ·have:=List.all_eq_true.1 a12 i hi
  simp only [ho] at this
  have:=Array.all_eq_true_iff_forall_mem.1 this e he
  simp only [hb,Bool.not_true,Bool.false_or,baT,Bool.not_eq_true'] at this
  exact ⟨nbT this.1,fun q=>by rw [List.contains_iff_mem.2 q] at this; cases this.2⟩
 ·have:=List.all_eq_true.1 a13 i hi
  obtain ⟨j,hj,hj2⟩:=List.any_eq_true.1 this
  simp only [baT,Bool.not_eq_true'] at hj2
  exact ⟨j,by have:=List.mem_range.1 hj; omega,nbT hj2.1,(fun q=>by rw [List.contains_iff_mem.2 q] at hj2; cases hj2.2.1),hj2.2.2⟩
 ·have hj' : L[j]? = some oj:=by simpa using hj
  have:=List.all_eq_true.1 a7 j (List.mem_range.2 (List.getElem?_eq_some_iff.1 hj').1)
  simp only [hj',hl,Bool.not_true,Bool.false_or] at this
  have:=Array.all_eq_true_iff_forall_mem.1 this e he
  simpa only [hb,Bool.not_true,Bool.false_or] using this
 ·have:=List.all_eq_true.1 a8 t (List.mem_range.2 (by simpa using ht'))
  simp only [Bool.or_eq_true,Bool.not_eq_true'] at this
  rcases this with q | q
  ·have:=nbT q
   omega
  ·exact q
 ·have:=List.all_eq_true.1 a9 i (List.mem_range.2 hi)
  simp only [Bool.or_eq_true,hu,Bool.false_eq_true,false_or] at this
  rcases this with q | q
  ·exact absurd (List.contains_iff_mem.1 q) hil
  ·exact List.contains_iff_mem.1 q
 ·have:=List.all_eq_true.1 a10 i hi
  simp only [baT,Bool.not_eq_true'] at this
  exact ⟨nbT this.1,(fun q=>by rw [List.contains_iff_mem.2 q] at this; cases this.2.1),this.2.2⟩
theorem expA_ok {base : Nat} {K : St -> Prop} {Q : Act -> World -> Prop} {F : Nat -> Prop} {w0 : Base} {gv : List Value} (hsel : Region.noSelect L.toArray = true) (hq : ∀ s a w,K s -> SimE F w0 gv s a w -> Q a w) : ∀ p : Plan,
  (∀ fuel listed s a w,p.ok L listed .free = true -> p.depth <= fuel -> expA P L base K p s -> SimE F w0 gv s a w -> wpAny P .any L.toArray (fun e a w=>e = .normal /\ Q a w) fuel listed a w) /\
  (∀ fuel listed rs s a w,p.ok L listed (.fork rs) = true -> p.depth <= fuel + 1 -> expA P L base K p s -> SimE F w0 gv s a w -> ∀ i ∈ rs,wpOp P L.toArray (fun e a w=>e = .normal /\ Q a w) i (wpAny P .any L.toArray (fun e a w=>e = .normal /\ Q a w) fuel (listed.setIfInBounds i true)) a w) /\
  (∀ n todo ls Fin g,p.ok L Fin (.late todo ls) = true -> p.depth <= g -> Region.chainB .any L.toArray n = true -> n < L.toArray.size -> LateS P L base n F w0 gv (fun e a w=>e = .normal /\ Q a w) K p todo ls Fin g):=by
 intro p
 induction p with
 | done =>
  refine ⟨fun fuel listed s a w hok _ h hs=>?_,fun fuel listed rs s a w hok=>by simp [Plan.ok] at hok,fun n todo ls Fin g hok=>by simp [Plan.ok] at hok⟩
  simp only [Plan.ok,List.isEmpty_iff] at hok
  exact wpAny_done hok ⟨rfl,hq _ _ _ h hs⟩ fuel
 | stop =>
  refine ⟨fun fuel listed s a w hok=>by simp [Plan.ok] at hok,fun fuel listed rs s a w hok _ _ _ i hi=>?_,fun n todo ls Fin g hok=>by simp [Plan.ok] at hok⟩
  cases rs with
  | nil=>cases hi
  | cons _ _=>simp [Plan.ok] at hok
 | take i p ih =>
  refine ⟨fun fuel listed s a w hok hd h hs=>?_,fun fuel listed rs s a w hok=>by simp [Plan.ok] at hok,fun n todo ls Fin g hok=>by simp [Plan.ok] at hok⟩
  simp only [Plan.ok,baT] at hok
  obtain ⟨h1,h2,h3,h4⟩:=hok
  simp only [Plan.depth] at hd
  obtain ⟨fuel,rfl⟩ : ∃ f,fuel = f + 1:=⟨fuel - 1,by omega⟩
  replace h : atA P L base i s (expA P L base K p):=h
  unfold atA at h
  cases hL : L[i]? with
  | none=>simp only [hL] at h
  | some o =>
   simp only [hL] at h h1
   obtain ⟨v,hy,s',hk,hs'⟩:=eager_ok h1 h hs
   exact wpAny_take (by simpa using hL) hsel h2 h3 (fun c a w hp=>by cases hp.1) hy (ih.1 fuel _ _ _ _ h4 (by omega) hk hs')
 | late n ls is p ih =>
  refine ⟨fun fuel listed s a w hok hd h hs=>?_,fun fuel listed rs s a w hok=>by simp [Plan.ok] at hok,fun n todo ls Fin g hok=>by simp [Plan.ok] at hok⟩
  simp only [Plan.ok,baT] at hok
  obtain ⟨h1,h2⟩:=hok
  simp only [Plan.depth] at hd
  obtain ⟨ho,inv,hc,hn⟩:=lateB_spec h1
  obtain ⟨g,rfl⟩ : ∃ g,fuel = is.length + g:=⟨fuel - is.length,by omega⟩
  exact late_all ho hc hn (ih.2.2 n ls ls _ g h2 (by omega) hc hn) is.length is listed s a w rfl inv (List.Sublist.refl _) rfl h hs
 | lend l p p' ih1 ih2 =>
  refine ⟨fun fuel listed s a w hok=>by simp [Plan.ok] at hok,fun fuel listed rs s a w hok=>by simp [Plan.ok] at hok,fun n todo ls Fin g hok hd hc hn=>?_⟩
  cases todo with
  | nil=>simp [Plan.ok] at hok
  | cons l' todo =>
   simp only [Plan.ok,baT] at hok
   obtain ⟨h1,h2,h3⟩:=hok
   have e:=Nat.eq_of_beq_eq_true h1
   subst e
   simp only [Plan.depth] at hd
   have m1 : p.depth + 1 <= Nat.max (p.depth + 1) p'.depth:=Nat.le_max_left _ _
   have m2 : p'.depth <= Nat.max (p.depth + 1) p'.depth:=Nat.le_max_right _ _
   obtain ⟨g,rfl⟩ : ∃ g',g = g' + 1:=⟨g - 1,by omega⟩
   exact late_lend hc hn (ih1.2.2 n _ _ _ g h2 (by omega) hc hn) (ih2.2.2 n _ _ _ (g + 1) h3 (by omega) hc hn)
 | lstop p ih =>
  refine ⟨fun fuel listed s a w hok=>by simp [Plan.ok] at hok,fun fuel listed rs s a w hok=>by simp [Plan.ok] at hok,fun n todo ls Fin g hok hd hc hn=>?_⟩
  cases todo with
  | cons _ _=>simp [Plan.ok] at hok
  | nil =>
   simp only [Plan.ok] at hok
   simp only [Plan.depth] at hd
   exact ⟨(fun l hl=>by cases hl),fun s a w h hs=>ih.1 g Fin s a w hok hd h hs⟩
 | lwait p ih =>
  refine ⟨fun fuel listed s a w hok=>by simp [Plan.ok] at hok,fun fuel listed rs s a w hok=>by simp [Plan.ok] at hok,fun n todo ls Fin g hok hd hc hn=>?_⟩
  cases todo with
  | nil=>simp [Plan.ok] at hok
  | cons l' todo =>
   simp only [Plan.ok,baT] at hok
   simp only [Plan.depth] at hd
   cases hL : L[l']? with
   | none=>simp [hL] at hok
   | some o =>
    simp only [hL] at hok
    exact late_wait hL hok.1 (ih.2.2 n todo ls Fin g hok.2 hd hc hn)
 | fork i p rest ih1 ih2 =>
  have key : ∀ fuel listed j rs s a w,(Nat.beq i j && (p.ok L (listed.setIfInBounds i true) .free && rest.ok L listed (.fork rs))) = true -> Nat.max (p.depth + 1) rest.depth <= fuel + 1 -> expA P L base K (.fork i p rest) s -> SimE F w0 gv s a w ->
    ∀ k ∈ j :: rs,wpOp P L.toArray (fun e a w=>e = .normal /\ Q a w) k (wpAny P .any L.toArray (fun e a w=>e = .normal /\ Q a w) fuel (listed.setIfInBounds k true)) a w:=by
   intro fuel listed j rs s a w hok hd h hs k hk
   simp only [baT] at hok
   obtain ⟨h1,h2,h3⟩:=hok
   have e:=Nat.eq_of_beq_eq_true h1
   subst e
   replace h : bothB (atA P L base i s (expA P L base K p)) (expA P L base K rest s):=h
   obtain ⟨g1,g2⟩:=both_elim h
   have m1 : p.depth + 1 <= Nat.max (p.depth + 1) rest.depth:=Nat.le_max_left _ _
   have m2 : rest.depth <= Nat.max (p.depth + 1) rest.depth:=Nat.le_max_right _ _
   rcases List.mem_cons.1 hk with rfl | hk
   ·exact atA_ok g1 hs fun s' a' w' hk' hs'=>ih1.1 fuel _ _ _ _ h2 (by omega) hk' hs'
   ·exact ih2.2.1 fuel listed rs s a w h3 (by omega) g2 hs k hk
  refine ⟨fun fuel listed s a w hok hd h hs=>?_,fun fuel listed rs s a w hok hd h hs=>?_,fun n todo ls Fin g hok=>by simp [Plan.ok] at hok⟩
  ·simp only [Plan.ok] at hok
   simp only [Plan.depth] at hd
   have m1 : p.depth + 1 <= Nat.max (p.depth + 1) rest.depth:=Nat.le_max_left _ _
   obtain ⟨fuel,rfl⟩ : ∃ f,fuel = f + 1:=⟨fuel - 1,by omega⟩
   cases hr : Region.ready .any L.toArray listed with
   | nil=>rw [hr] at hok; cases hok
   | cons j rs =>
    rw [hr] at hok
    exact wpAny_all hr (by simp) (key fuel listed j rs s a w hok hd h hs)
  ·cases rs with
   | nil=>simp [Plan.ok] at hok
   | cons j rs =>
    simp only [Plan.ok] at hok
    exact key fuel listed j rs s a w hok hd h hs
def wpAnyWL (P : Program) (L : List Oper) (base n : Nat) (Lq : Array Bool -> St -> Prop) : Nat -> Array Bool -> St -> Prop
 | 0,listed,s=>Lq listed s
 | f + 1,listed,s=>Region.ready .any L.toArray listed ≠ [] /\ ∀ i ∈ Region.ready .any L.toArray listed,i < n /\ stepW P L base i (wpAnyWL P L base n Lq f (listed.setIfInBounds i true)) s
theorem MemOk.take {n i : Nat} {o : Oper} (hm : MemOk (L.take n)) (hin : i < n) (hi : L[i]? = some o) : memC o.op <= 2 /\ (o.guard.isSome = true -> memC o.op ≠ 2) :=
 hm i o (by rw [List.getElem?_take_of_lt hin]; exact hi)
theorem wpAnyWL_first {base n i : Nat} {oi : Oper} {ui : Out} {Lq : Array Bool -> St -> Prop} (hi : L[i]? = some oi) (hm : MemOk (L.take n))
  (hs : Region.sinkB .any L.toArray n = true) (hc : Region.chainB .any L.toArray n = true) (hn : n < L.toArray.size) (hin : i < n)
  (hdone : ∀ listed s,Lq listed s -> ∀ j ∈ Region.ready .any L.toArray listed,n <= j) :
  ∀ (f : Nat) (listed : Array Bool) (s : St),HeadInv .any L.toArray n listed ->
   (∀ j oj,L[j]? = some oj -> j ≠ i -> j < n -> listed.getD j true = false -> (∀ e ∈ oj.after,Region.binds .any e = true -> e.on ≠ i) -> oi.apart L.toArray oj = true /\ compat (memC oi.op) (memC oj.op) = true) ->
   i ∈ Region.ready .any L.toArray listed -> WF s -> YieldsW P L (base + 16 * i) oi ui s ->
   wpAnyWL P L base n Lq f (listed.setIfInBounds i true) (ui.to (base + 16 * i) oi.dst s) -> wpAnyWL P L base n Lq (f + 1) listed s:=by
 have useY : ∀ {s : St} {K : St -> Prop},YieldsW P L (base + 16 * i) oi ui s -> K (ui.to (base + 16 * i) oi.dst s) -> stepW P L base i K s:=by
  intro s K hy hk
  unfold stepW
  rw [hi]
  exact hy.1 _ ⟨hy.2.1,hk⟩
 have mono : ∀ {j : Nat} {oj : Oper} {K K' : St -> Prop} {s : St},j < n -> L[j]? = some oj -> (∀ s,K s -> K' s) -> stepW P L base j K s -> stepW P L base j K' s:=by
  intro j oj K K' s hjn hj h hh
  unfold stepW at hh ⊢
  simp only [hj] at hh ⊢
  obtain ⟨u,⟨h1,h2⟩,h3,_⟩:=oneW_some (hm.take hjn hj).2 hh
  exact h3 _ ⟨h1,h _ h2⟩
 intro f
 induction f with
 | zero =>
  intro listed s inv _ hr hw hy H
  have hun:=(mem_ready.1 hr).1
  refine ⟨fun h=>(by rw [h] at hr; cases hr),fun j hj=>?_⟩
  have hjn : j < n:=by
   rcases Nat.lt_or_ge j n with h | h
   ·exact h
   ·exact absurd hj (tail_waits hs hc hn inv _ i rfl hin hun j h)
  refine ⟨hjn,?_⟩
  by_cases hji : j = i
  ·subst hji; exact useY hy H
  ·have:=hdone _ _ H j (ready_mono hj hji)
   omega
 | succ f ih =>
  intro listed s inv hfree hr hw hy H
  have hun:=(mem_ready.1 hr).1
  refine ⟨fun h=>(by rw [h] at hr; cases hr),fun j hj=>?_⟩
  have hjn : j < n:=by
   rcases Nat.lt_or_ge j n with h | h
   ·exact h
   ·exact absurd hj (tail_waits hs hc hn inv _ i rfl hin hun j h)
  refine ⟨hjn,?_⟩
  by_cases hji : j = i
  ·subst hji; exact useY hy H
  ·have h1:=(H.2 j (ready_mono hj hji)).2
   obtain ⟨hjun,oj,hoj,hall⟩:=mem_ready.1 hj
   have hoj' : L[j]? = some oj:=by simpa using hoj
   have hnot : ∀ e ∈ oj.after,Region.binds .any e = true -> e.on ≠ i:=fun e he hb heq=>by
    have h1:=hall e he hb
    have h0:=hun
    rw [heq] at h1
    rcases Nat.lt_or_ge i listed.size with h' | h'
    ·simp [h'] at h0 h1; rw [h0] at h1; cases h1
    ·simp [Array.getElem?_eq_none h'] at h1
   obtain ⟨hap,hcp⟩:=hfree j oj hoj' hji hjn hjun hnot
   have h2:=stepW_put hi hoj' (Ne.symm hji) hap hcp (hm.take hin hi).1 (hm.take hjn hoj').1 (hm.take hjn hoj').2 hw hy h1
   have hfree' : ∀ k ok,L[k]? = some ok -> k ≠ i -> k < n -> (listed.setIfInBounds j true).getD k true = false ->
     (∀ e ∈ ok.after,Region.binds .any e = true -> e.on ≠ i) -> oi.apart L.toArray ok = true /\ compat (memC oi.op) (memC ok.op) = true:=fun k ok hk hki hkn hun hno=>by
    refine hfree k ok hk hki hkn ?_ hno
    by_cases hjk : j = k
    ·subst hjk; exact hjun
    ·rw [getD_set_ne true hjk] at hun; exact hun
   refine mono hjn hoj' (fun s' h3=>ih (listed.setIfInBounds j true) s' (inv.set hj hjn) hfree' (ready_mono hr (Ne.symm hji)) h3.1.2 h3.1.1 ?_) h2
   rw [Array.setIfInBounds_comm _ _ hji]
   exact h3.2
theorem wpAnyWL_lex {base n g : Nat} {Lq : St -> Prop} (hm : MemOk (L.take n)) (hp : memPairs (L.take n) = true) (hs : Region.sinkB .any L.toArray n = true) (hc : Region.chainB .any L.toArray n = true) (hn : n < L.toArray.size) :
  ∀ (l : List Oper) (k : Nat) (listed : Array Bool) (s : St),(∀ j,j < l.length -> l[j]? = L[k + j]?) -> k + l.length = n -> (∀ j,j < k -> j < L.length -> listed.getD j true = true) -> listed.size = L.length -> HeadInv .any L.toArray n listed ->
  Region.lexHead .any L.toArray g l.length k listed = true -> WF s -> textW P L base Lq l k s ->
  wpAnyWL P L base n (fun listed' s'=>Region.seqB .any L.toArray g n listed' = true /\ Lq s') l.length listed s
 | [],k,listed,s,_,hk,_,_,_,hB,_,h=>by
  have : k = n:=by simpa using hk
  subst this
  exact ⟨by simpa [Region.lexHead] using hB,h⟩
 | o :: l,k,listed,s,hl,hk,hlow,hsz,inv,hB,hw,h=>by
  have h0 : L[k]? = some o:=by simpa using (hl 0 (by simp)).symm
  have hkl:=(List.getElem?_eq_some_iff.1 h0).1
  simp only [List.length_cons,Region.lexHead,baT] at hB
  obtain ⟨⟨hr,hf⟩,hB'⟩:=hB
  have hkn : k < n:=by simp only [List.length_cons] at hk; omega
  have hr' : k ∈ Region.ready .any L.toArray listed:=by simpa using hr
  rw [textW_cons] at h
  obtain ⟨u,hu,hall,hok⟩:=oneW_some (hm.take hkn h0).2 h
  split at hu
  ·rename_i hfit
   rw [Out.toK_eq] at hu
   have hF:=fitsB_spec hfit
   refine wpAnyWL_first h0 hm hs hc hn hkn (fun listed' s' hL=>seqB_ready hL.1) l.length listed s inv (fun j oj hj hne hjn hun hno=>⟨Region.free_spec (by simpa using h0) hf j oj (by simpa using hj) hne hun hno,?_⟩) hr' hw ⟨hall,hF,hok⟩ ?_
   ·have hlj:=(List.getElem?_eq_some_iff.1 hj).1
    refine memPairs_spec hp (i:=k) (j:=j) (by rw [List.getElem?_take_of_lt hkn]; exact h0) (by rw [List.getElem?_take_of_lt hjn]; exact hj) ?_ hno
    rcases Nat.lt_trichotomy j k with hlt | rfl | hgt
    ·rw [hlow j hlt hlj] at hun; cases hun
    ·exact absurd rfl hne
    ·exact hgt
   ·refine wpAnyWL_lex hm hp hs hc hn l (k + 1) _ _ (fun j hj=>by have:=hl (j + 1) (by simp; omega); simpa [Nat.add_assoc,Nat.add_comm 1 j] using this) (by simp only [List.length_cons] at hk; omega) (fun j hj hjl=>?_) (by simpa using hsz) (inv.set hr' hkn) hB' (hw.to (hm.take hkn h0).1 hok hF.2.1) hu
    by_cases hjk : k = j
    ·subst hjk; simp [hsz,hjl]
    ·rw [getD_set_ne true hjk]; exact hlow j (by omega) hjl
  ·exact hu.elim
theorem wpAny_of_WL {base n g : Nat} {Lq : Array Bool -> St -> Prop} {Q' : Exit -> Act -> World -> Prop} {F : Nat -> Prop} {w0 : Base} {gv : List Value} (hq : ∀ listed s a w,Lq listed s -> SimE F w0 gv s a w -> wpAny P .any L.toArray Q' g listed a w) :
  ∀ (f : Nat) (listed : Array Bool) (s : St) (a : Act) (w : World),SimE F w0 gv s a w -> wpAnyWL P L base n Lq f listed s -> wpAny P .any L.toArray Q' (f + g) listed a w
 | 0,listed,s,a,w,hs,h=>by rw [Nat.zero_add]; exact hq _ _ _ _ h hs
 | f + 1,listed,s,a,w,hs,h=>by
  rw [show f + 1 + g = (f + g) + 1 by omega]
  refine ⟨fun h0=>absurd h0 h.1,fun i hi=>?_⟩
  have hst:=(h.2 i hi).2
  unfold stepW at hst
  unfold wpOp
  cases hL : L[i]? with
  | none =>
   simp only [hL] at hst
   simp only [List.getElem?_toArray,hL]
   exact wpAny_of_WL hq f _ _ _ _ hs hst
  | some o =>
   simp only [hL] at hst
   simp only [List.getElem?_toArray,hL]
   rcases wanted_of hs (oneW_oneA hst) with ⟨hw,ho⟩ | ⟨hw,hp⟩
   ·rw [if_pos hw]
    exact .inl (opA_ok ho F w0 gv a w hs _ _ fun s' a' w' hk hs'=>wpAny_of_WL hq f _ _ _ _ hs' hk)
   ·rw [if_neg (by rw [hw]; simp)]
    obtain ⟨s',hk,hs'⟩:=skip_ok hp hs
    exact wpAny_of_WL hq f _ _ _ _ hs' hk
theorem drawTail_ok {base n : Nat} {s : St} {K : St -> Prop} (hB : Region.lexTailB .any L.toArray n = true) (hm : memOne (L.take n) = true) (hp : memPairs (L.take n) = true)
  (h : textW P L base (fun s=>opsA P L base (L.drop n) n s K) (L.take n) 0 s) {F : Nat -> Prop} {w0 : Base} {gv : List Value} {a : Act} {w : World} (hs : SimE F w0 gv s a w) {Q : Exit -> Act -> World -> Prop}
  (hq : ∀ s' a' w',K s' -> SimE F w0 gv s' a' w' -> Q .normal a' w') : wpAny P .any L.toArray Q L.toArray.size (Array.replicate L.toArray.size false) a w:=by
 simp only [Region.lexTailB,baT,decide_eq_true_eq] at hB
 obtain ⟨⟨⟨⟨hsel,hn⟩,hsk⟩,hc⟩,hlex⟩:=hB
 have hn' : n < L.length:=by simpa using hn
 have htl : (L.take n).length = n:=by simp; omega
 have hdl : (L.drop n).length = L.toArray.size - n:=by simp
 have inv0 : HeadInv .any L.toArray n (Array.replicate L.toArray.size false) :=
  ⟨by simp,fun j oj _ hl=>(by rw [getD_replicate_false] at hl; cases hl),fun t _ ht=>getD_in (by simpa using ht) (getD_replicate_false _ _)⟩
 have H:=wpAnyWL_lex (g:=L.toArray.size - n) (memOne_spec hm) hp hsk hc hn (L.take n) 0 _ s (fun j hj=>by
  have hj' : j < n:=by rw [htl] at hj; exact hj
  simp [hj']) (by simpa using htl) (fun j hj _=>by omega) (by simp) inv0 (by rw [htl]; exact hlex) hs.WF h
 have:=wpAny_of_WL (Q':=Q) (g:=L.toArray.size - n) (fun listed s' a' w' hL hs'=>by
  have:=wpAny_of_seq (md:=.any) (Q':=Q) (L.drop n) n listed a' w' (fun j=>by simp [List.getElem?_drop]) (by rw [hdl]; exact hL.1) (opsA_ok _ _ _ _ hL.2 F w0 gv a' w' hs' hq)
  rwa [hdl] at this) _ _ _ _ _ hs H
 rw [htl,show n + (L.toArray.size - n) = L.toArray.size by omega] at this
 exact this
theorem drawA_ok {base : Nat} {ops : Array Oper} {id : Nat} {s : St} {K : St -> Prop} (h : drawA P base ops.toList s K) {F : Nat -> Prop} {w0 : Base} {gv : List Value} {a : Act} {w : World} (hs : SimE F w0 gv s a w) {Q : Exit -> Act -> World -> Prop}
  (hq : ∀ s' a' w',K s' -> SimE F w0 gv s' a' w' -> Q .normal a' w') : (Code.region id ops true).wp P Q a w:=by
 unfold drawA at h
 rcases h with ⟨⟨h1,h2,h3⟩,h4⟩ | ⟨p,⟨h1,h2,h3⟩,h4⟩ | ⟨n,⟨h1,h2,h3⟩,h4⟩
 ·simp only [baT] at h3
  simp only [Region.lexB,baT] at h2
  refine wp_region_any h1 ?_
  have hlex:=wpAnyW_lex (P:=P) (base:=base) (memOne_spec h3.1) h3.2 ops.toList 0 (Array.replicate ops.size false) s (by simp) (fun j hj _=>by omega) (by simpa using h2.2) (by simp) hs.WF h4
  have:=wpAny_of_W (P:=P) (L:=ops.toList) (base:=base) (Q:=K) (Q':=Q) hq _ _ _ _ _ hs.drew hlex
  simpa using this
 ·simp only [baT] at h3
  refine Code.wp_mono (Q:=fun e a w=>e = .normal /\ Q .normal a w) (fun e a w h=>by rw [h.1]; exact h.2) (wp_region_any h1 ?_)
  have:=(expA_ok (P:=P) (L:=ops.toList) (base:=base) (K:=K) (Q:=fun a w=>Q .normal a w) h2 (fun s a w hk hs=>hq s a w hk hs) p).1 ops.size (Array.replicate ops.size false) s a { w with drawn:=w.drawn + 1 } (by simpa using h3.2) (by have:=nbT h3.1; simpa using this) h4 hs.drew
  simpa using this
 ·simp only [baT] at h3
  refine wp_region_any h1 ?_
  have:=drawTail_ok (P:=P) (L:=ops.toList) (by simpa using h2) h3.1 h3.2 h4 hs.drew (Q:=Q) hq
  simpa using this
end
end Go.Ab
