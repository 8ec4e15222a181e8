/-
  Code on abstract states: regions in their order, tests, blocks, loops; and a function's contract out of its code.
  No condition: definitions and lemmas over any program.
-/
import Derived.Test.YtjjjalcmcifncaaGreatAb12i
import Derived.LoopN
import Derived.StillTail
namespace Go.Ab
open Go.RowKit
def dstVal (L : List Oper) (s : St) (j : Nat) : AV :=
 match L[j]? with
 | some o =>
  match o.dst with
  | some d=>s.env d
  | none=>.any
 | none=>.any
def oneA (P : Program) (L : List Oper) (o : Oper) (nid : Nat) (s : St) (K : St -> Prop) : Prop :=
 match o.guard with
 | none=>opA P o nid s K
 | some (j,want) =>
  match dstVal L s j with
  | .bool b =>
   match want with
   | true=>splitB b (opA P o nid s K) (s.putK o.dst (.tup []) K)
   | false=>splitB b (s.putK o.dst (.tup []) K) (opA P o nid s K)
  | .tup l =>
   match l with
   | []=>s.putK o.dst (.tup []) K
   | _ :: _=>False
  | _=>False
def opsA (P : Program) (L : List Oper) (base : Nat) (l : List Oper) : Nat -> St -> (St -> Prop) -> Prop :=
 List.rec (motive:=fun _=>Nat -> St -> (St -> Prop) -> Prop) (fun _ s K=>K s) (fun o _ ih i s K=>oneA P L o (base + 16 * i) s fun s'=>ih (i + 1) s' K) l
theorem opsA_cons {P : Program} {L : List Oper} {base : Nat} {o : Oper} {rest : List Oper} {i : Nat} {s : St} {K : St -> Prop} : opsA P L base (o :: rest) i s K = oneA P L o (base + 16 * i) s fun s'=>opsA P L base rest (i + 1) s' K:=rfl
theorem wanted_of {P : Program} {L : List Oper} {F : Nat -> Prop} {w0 : Base} {gv : List Value} {s : St} {a : Act} {w : World} {o : Oper} {nid : Nat} {K : St -> Prop} (hs : SimE F w0 gv s a w) (h : oneA P L o nid s K) :
  (Region.wanted o (yielded L.toArray a.tmps) = true /\ opA P o nid s K) \/ (Region.wanted o (yielded L.toArray a.tmps) = false /\ s.putK o.dst (.tup []) K):=by
 unfold oneA at h
 cases hg : o.guard with
 | none =>
  rw [hg] at h
  exact .inl ⟨by simp [Region.wanted,hg],h⟩
 | some jw =>
  obtain ⟨j,want⟩:=jw
  rw [hg] at h
  simp only at h
  split at h
  ·rename_i b hb
   obtain ⟨hdr,hsim⟩:=hs
   have hy : yielded L.toArray a.tmps j = some b:=by
    unfold dstVal at hb
    cases hL : L[j]? with
    | none=>simp [hL] at hb
    | some o' =>
     cases hd : o'.dst with
     | none=>simp [hL,hd] at hb
     | some d =>
      simp only [hL,hd] at hb
      have hv:=hsim.env d
      rw [hb] at hv
      unfold VR at hv
      have ht : a.tmps[d]? = some (.bool b):=by
       simp only [Act.eval,Array.getD_eq_getD_getElem?] at hv
       cases hx : a.tmps[d]? with
       | none=>rw [hx] at hv; simp [undef] at hv
       | some x=>rw [hx] at hv; simpa using hv
      simp [yielded,hL,hd,ht]
   have hw : Region.wanted o (yielded L.toArray a.tmps) = (b == want):=by
    simp only [Region.wanted,hg,hy]
    cases b <;> cases want <;> rfl
   cases want with
   | true =>
    have h:=splitB_elim h
    cases b with
    | true=>exact .inl ⟨hw,h.1 rfl⟩
    | false=>exact .inr ⟨hw,h.2 rfl⟩
   | false =>
    have h:=splitB_elim h
    cases b with
    | true=>exact .inr ⟨hw,h.1 rfl⟩
    | false=>exact .inl ⟨hw,h.2 rfl⟩
  ·rename_i l hb
   split at h
   ·refine .inr ⟨?_,h⟩
    obtain ⟨hdr,hsim⟩:=hs
    have hy : yielded L.toArray a.tmps j = none:=by
     unfold dstVal at hb
     unfold yielded
     cases hL : L[j]? with
     | none=>simp [hL] at hb
     | some o' =>
      cases hd : o'.dst with
      | none=>simp [hL,hd] at hb
      | some d =>
       simp only [hL,hd] at hb
       have hv:=hsim.env d
       rw [hb] at hv
       unfold VR at hv
       obtain ⟨vs,hv,_⟩:=hv
       simp only [Act.eval,Array.getD_eq_getD_getElem?] at hv
       cases hx : a.tmps[d]? with
       | none=>simp [hL,hd,hx]
       | some x =>
        rw [hx] at hv
        simp only [Option.getD_some] at hv
        subst hv
        simp [hL,hd,hx]
    simp [Region.wanted,hg,hy]
   ·exact h.elim
  ·exact h.elim
theorem skip_ok {s : St} {d : Option Nat} {K : St -> Prop} (h : s.putK d (.tup []) K) {F : Nat -> Prop} {w0 : Base} {gv : List Value} {a : Act} {w : World} (hs : SimE F w0 gv s a w) : ∃ s',K s' /\ SimE F w0 gv s' (a.put d undef) w:=by
 obtain ⟨h1,h2⟩:=putK_elim h
 obtain ⟨hdr,hsim⟩:=hs
 exact ⟨_,h2,hdr,hsim.put h1 (by unfold VR; exact ⟨#[],rfl,VL.nil⟩)⟩
theorem opsA_ok {P : Program} {L : List Oper} {base : Nat} {Q : Exit -> Act -> World -> Prop} : ∀ (rest : List Oper) (i : Nat) (s : St) (K : St -> Prop),opsA P L base rest i s K -> ∀ F w0 gv a w,SimE F w0 gv s a w ->
  (∀ s' a' w',K s' -> SimE F w0 gv s' a' w' -> Q .normal a' w') -> wpList P L.toArray Q rest a w
 | [],_,s,K,h,F,w0,gv,a,w,hs,hq=>hq s a w h hs
 | o :: rest,i,s,K,h,F,w0,gv,a,w,hs,hq=>by
  rw [opsA_cons] at h
  unfold wpList
  rcases wanted_of hs h with ⟨hw,ho⟩ | ⟨hw,hp⟩
  ·rw [if_pos hw]
   exact .inl (opA_ok ho F w0 gv a w hs _ _ fun s' a' w' hk hs'=>opsA_ok rest (i + 1) s' K hk F w0 gv a' w' hs' hq)
  ·rw [if_neg (by rw [hw]; simp)]
   obtain ⟨s',hk,hs'⟩:=skip_ok hp hs
   exact opsA_ok rest (i + 1) s' K hk F w0 gv _ w hs' hq
def St.le (s s' : St) : Prop:=∀ F w0 gv a w,SimE F w0 gv s a w -> SimE F w0 gv s' a w
theorem St.le_refl (s : St) : s.le s:=fun _ _ _ _ _ h=>h
theorem St.le_trans {s s' s'' : St} (h : s.le s') (h' : s'.le s'') : s.le s'':=fun F w0 gv a w hs=>h' F w0 gv a w (h F w0 gv a w hs)
def envOf : List (Nat × AV) -> Nat -> AV
 | [],_=>.any
 | (k,v) :: l,t=>if t = k then v else envOf l t
def objsOf : List (Nat × AObj) -> Nat -> Option AObj
 | [],_=>none
 | (k,o) :: l,i=>if i = k then some o else objsOf l i
def hasId (ol : List (Nat × AObj)) (id : Nat) : Bool :=
 match ol with
 | []=>false
 | (k,_) :: l=>if id = k then true else hasId l id
mutual
def AV.closed (ol : List (Nat × AObj)) : AV -> Bool
 | .own id=>hasId ol id
 | .ptr id _ _=>hasId ol id
 | .cel id _ _ _=>hasId ol id
 | .prt id _ _ _=>hasId ol id
 | .agg cs=>closedL ol cs
 | .tup cs=>closedL ol cs
 | .fn _ cs=>closedL ol cs
 | .any | .int _ _ | .bool _ | .str _ | .nil | .sl _ | .rp _=>true
def closedL (ol : List (Nat × AObj)) : List AV -> Bool
 | []=>true
 | a :: as=>a.closed ol && closedL ol as
end
def closedE (ol : List (Nat × AObj)) : List (Nat × AV) -> Bool
 | []=>true
 | (_,v) :: l=>v.closed ol && closedE ol l
def closedO (ol : List (Nat × AObj)) : List (Nat × AObj) -> Bool
 | []=>true
 | (_,o) :: l=>(if o.box then closedL ol o.elems.flatten else true) && closedO ol l
def EnvAll (s : St) : List (Nat × AV) -> Prop
 | []=>True
 | (k,v) :: l=>s.env k = v /\ EnvAll s l
def ObjAll (s : St) : List (Nat × AObj) -> Prop
 | []=>True
 | (k,o) :: l=>s.objs k = some o /\ ObjAll s l
theorem hasId_some : ∀ {ol : List (Nat × AObj)} {id : Nat},hasId ol id = true -> ∃ o,objsOf ol id = some o
 | [],id,h=>by simp [hasId] at h
 | (k,o) :: l,id,h=>by
  simp only [hasId] at h
  simp only [objsOf]
  by_cases e : id = k
  ·exact ⟨o,by simp [e]⟩
  ·simp only [e,if_false] at h ⊢
   exact hasId_some h
theorem objsOf_all {s : St} : ∀ {l : List (Nat × AObj)},ObjAll s l -> ∀ id o,objsOf l id = some o -> s.objs id = some o
 | [],_,id,o,h=>by simp [objsOf] at h
 | (k,ok) :: l,ha,id,o,h=>by
  simp only [objsOf] at h
  by_cases e : id = k
  ·subst e; simp at h; subst h; exact ha.1
  ·simp only [e,if_false] at h
   exact objsOf_all ha.2 id o h
section
variable {c c' : Ctx} {ol : List (Nat × AObj)}
mutual
theorem VR.forget (hww : c'.w = c.w) (hR : ∀ a v,RR c.w c.ro a v -> RR c'.w c'.ro a v) (hh : c'.hdr = c.hdr) (ho' : c'.objs = objsOf ol) (ho : ∀ id o,objsOf ol id = some o -> c.objs id = some o) :
  ∀ (a : AV) (v : Value),a.closed ol = true -> VR c a v -> VR c' a v
 | .own id,v,hc,h=>by
  unfold AV.closed at hc
  unfold VR at h ⊢
  obtain ⟨o,e⟩:=hasId_some hc
  exact ⟨by rw [ho',e]; rfl,by rw [hh]; exact h.2⟩
 | .ptr id idx off,v,hc,h=>by
  unfold AV.closed at hc
  unfold VR at h ⊢
  obtain ⟨o,e⟩:=hasId_some hc
  obtain ⟨o1,b,h1,h2,h3⟩:=h
  have:=ho id o e
  rw [this] at h1
  cases h1
  exact ⟨o,b,by rw [ho']; exact e,by rw [hh]; exact h2,h3⟩
 | .cel id idx off xs,v,hc,h=>by
  unfold AV.closed at hc
  unfold VR at h ⊢
  obtain ⟨o,e⟩:=hasId_some hc
  obtain ⟨o1,b,sh,el,h1,q1,q2,q3,h2,h3⟩:=h
  have:=ho id o e
  rw [this] at h1
  cases h1
  exact ⟨o,b,sh,el,by rw [ho']; exact e,q1,q2,q3,by rw [hh]; exact h2,by rw [hww]; exact h3⟩
 | .prt id lo n cp,v,hc,h=>by
  unfold AV.closed at hc
  unfold VR at h ⊢
  obtain ⟨o,e⟩:=hasId_some hc
  obtain ⟨o1,h1,h2,h3,h4⟩:=h
  have:=ho id o e
  rw [this] at h1
  cases h1
  exact ⟨o,by rw [ho']; exact e,h2,h3,by rw [hh]; exact h4⟩
 | .agg cs,_,hc,h=>by
  unfold AV.closed at hc
  unfold VR at h ⊢
  obtain ⟨vs,h1,h2⟩:=h
  exact ⟨vs,h1,VL.forget hww hR hh ho' ho cs _ hc h2⟩
 | .tup cs,_,hc,h=>by
  unfold AV.closed at hc
  unfold VR at h ⊢
  obtain ⟨vs,h1,h2⟩:=h
  exact ⟨vs,h1,VL.forget hww hR hh ho' ho cs _ hc h2⟩
 | .fn _ cs,_,hc,h=>by
  unfold AV.closed at hc
  unfold VR at h ⊢
  obtain ⟨vs,h1,h2⟩:=h
  exact ⟨vs,h1,VL.forget hww hR hh ho' ho cs _ hc h2⟩
 | .any,_,_,_=>by unfold VR; trivial
 | .int ..,_,_,h=>by unfold VR at h ⊢; exact h
 | .bool _,_,_,h=>by unfold VR at h ⊢; exact h
 | .str _,_,_,h=>by unfold VR at h ⊢; exact h
 | .nil,_,_,h=>by unfold VR at h ⊢; exact h
 | .sl _,_,_,h=>by unfold VR at h ⊢; exact hR _ _ h
 | .rp _,_,_,h=>by unfold VR at h ⊢; exact hR _ _ h
theorem VL.forget (hww : c'.w = c.w) (hR : ∀ a v,RR c.w c.ro a v -> RR c'.w c'.ro a v) (hh : c'.hdr = c.hdr) (ho' : c'.objs = objsOf ol) (ho : ∀ id o,objsOf ol id = some o -> c.objs id = some o) :
  ∀ (as : List AV) (vs : List Value),closedL ol as = true -> VL c as vs -> VL c' as vs
 | [],[],_,_=>VL.nil
 | a :: as,v :: vs,hc,h=>by
  unfold closedL at hc
  simp only [baT] at hc
  unfold VL at h
  exact VL.cons (VR.forget hww hR hh ho' ho a v hc.1 h.1) (VL.forget hww hR hh ho' ho as vs hc.2 h.2)
 | [],_ :: _,_,h=>by unfold VL at h; exact h.elim
 | _ :: _,[],_,h=>by unfold VL at h; exact h.elim
end
end
theorem closedE_at {ol : List (Nat × AObj)} : ∀ {l : List (Nat × AV)},closedE ol l = true -> ∀ t,(envOf l t).closed ol = true
 | [],_,t=>by unfold envOf AV.closed; rfl
 | (k,v) :: l,h,t=>by
  unfold closedE at h
  simp only [baT] at h
  unfold envOf
  split
  ·exact h.1
  ·exact closedE_at h.2 t
theorem closedO_at {ol : List (Nat × AObj)} : ∀ {l : List (Nat × AObj)},closedO ol l = true -> ∀ id o,objsOf l id = some o -> o.box = true -> closedL ol o.elems.flatten = true
 | [],_,id,o,h,_=>by simp [objsOf] at h
 | (k,ok) :: l,hc,id,o,h,hb=>by
  unfold closedO at hc
  simp only [baT] at hc
  simp only [objsOf] at h
  by_cases e : id = k
  ·simp only [e,if_true,Option.some.injEq] at h
   subst h
   rw [hb] at hc
   exact hc.1
  ·simp only [e,if_false] at h
   exact closedO_at hc.2 id o h hb
theorem envOf_all {s : St} : ∀ {l : List (Nat × AV)},EnvAll s l -> ∀ t,envOf l t = .any \/ envOf l t = s.env t
 | [],_,t=>.inl rfl
 | (k,v) :: l,h,t=>by
  unfold envOf
  by_cases e : t = k
  ·subst e; simp only [if_true]; exact .inr h.1.symm
  ·simp only [e,if_false]; exact envOf_all h.2 t
theorem St.le_list {s : St} {el : List (Nat × AV)} {ol : List (Nat × AObj)} (he : EnvAll s el) (ho : ObjAll s ol) (hc : (closedE ol el && closedO ol ol && closedL ol s.gh) = true) :
  s.le ⟨envOf el,s.sz,objsOf ol,s.nxt,s.gh⟩:=by
 intro F w0 gv a w ⟨hdr,h⟩
 simp only [baT] at hc
 have hO:=objsOf_all ho
 have hro : ∀ b,roOf F w hdr s.objs b -> roOf F w hdr (objsOf ol) b:=fun b ⟨k0,k1,k2⟩=>⟨k0,k1,fun id o hi=>k2 id o (hO id o hi)⟩
 have hR : ∀ x v,RR w (roOf F w hdr s.objs) x v -> RR w (roOf F w hdr (objsOf ol)) x v:=fun x v=>RR.mono (fun _ _ _=>rfl) hro x v
 have hF : ∀ x v,x.closed ol = true -> VR (s.ctx F w hdr) x v -> VR (St.ctx ⟨envOf el,s.sz,objsOf ol,s.nxt,s.gh⟩ F w hdr) x v:=fun x v=>VR.forget (c:=s.ctx F w hdr) (c':=St.ctx ⟨envOf el,s.sz,objsOf ol,s.nxt,s.gh⟩ F w hdr) rfl hR rfl rfl hO x v
 have hFL : ∀ x v,closedL ol x = true -> VL (s.ctx F w hdr) x v -> VL (St.ctx ⟨envOf el,s.sz,objsOf ol,s.nxt,s.gh⟩ F w hdr) x v:=fun x v=>VL.forget (c:=s.ctx F w hdr) (c':=St.ctx ⟨envOf el,s.sz,objsOf ol,s.nxt,s.gh⟩ F w hdr) rfl hR rfl rfl hO x v
 refine ⟨hdr,fun t=>?_,h.sz,h.defers,hFL _ _ hc.2 h.gh,?_,fun i j o o' b hi hj=>h.dis i j o o' b (hO i o hi) (hO j o' hj),h.below,h.free⟩
 ·rcases envOf_all he t with e | e
  ·show VR _ (envOf el t) _
   rw [e]; unfold VR; trivial
  ·have hcl:=closedE_at hc.1.1 t
   show VR _ (envOf el t) _
   refine hF _ _ hcl ?_
   rw [e]; exact h.env t
 ·intro id o hi
  obtain ⟨k2,k3,kn,cs,k4,k5,k6⟩:=h.objs id o (hO id o hi)
  refine ⟨k2,k3,kn,cs,k4,k5,?_⟩
  cases hk : o.kind with
  | box =>
   obtain ⟨q1,q2⟩:=k6.box hk
   rw [q2]
   exact CellsR_box hk (hFL _ _ (closedO_at hc.1.2 id o hi (by unfold AObj.box; rw [hk])) q1)
  | slc =>
   obtain ⟨q1,q2⟩:=k6.slc hk
   rw [q2]
   exact CellsR_slc hk (LR.mono (fun _ _ _=>rfl) hro _ _ q1)
  | deep sh=>exact CellsR_deep hk (k6.deep hk)
theorem St.le_promote {s : St} {t nid ty esz : Nat} (ht : s.env t = .nil) (hid : s.objs nid = none) (hpos : 0 < esz) :
  s.le { s with env:=fun t'=>if t' = t then .own nid else s.env t',objs:=fun i=>if i = nid then some ⟨.slc,ty,esz,[]⟩ else s.objs i }:=by
 intro F w0 gv a w ⟨hdr,h⟩
 have hv:=h.env t
 rw [ht] at hv
 unfold VR at hv
 obtain ⟨b0,hv⟩:=hv
 have hl:=h.laid (o:=⟨.slc,ty,esz,[]⟩) (v:=⟨.slice b0 0 0,[]⟩) (w':=w) hid ⟨rfl,rfl,rfl,Nat.le_refl _,fun _ _=>rfl⟩ ⟨hpos,by simp,nd_nil,[],⟨by simp,.inl ⟨b0,rfl,rfl⟩⟩,by simp,CellsR_slc rfl (by simp only [List.flatten_nil]; unfold LR; trivial)⟩
 refine ⟨_,fun t'=>?_,hl.sz,hl.defers,hl.gh,hl.objs,hl.dis,hl.below,hl.free⟩
 by_cases e : t' = t
 ·subst e
  show VR _ (if t' = t' then AV.own nid else s.env t') _
  rw [if_pos rfl]
  unfold VR
  exact ⟨by simp [St.ctx],by simp [St.ctx,hv]⟩
 ·show VR _ (if t' = t then AV.own nid else s.env t') _
  rw [if_neg e]
  exact hl.env t'
@[irreducible] def Loop (body : (Exit -> St -> Prop) -> St -> Prop) (K : Exit -> St -> Prop) (s : St) : Prop :=
 ∃ (J : Type) (I : J -> St) (m : J -> Nat) (j0 : J),s.le (I j0) /\ ∀ j,body (fun e s'=>match e with
  | .normal=>∃ j',m j' < m j /\ s'.le (I j')
  | e=>K e s') (I j)
theorem Loop_intro {body : (Exit -> St -> Prop) -> St -> Prop} {K : Exit -> St -> Prop} {s : St} (J : Type) (I : J -> St) (m : J -> Nat) (j0 : J) (h0 : s.le (I j0))
  (h : ∀ j,body (fun e s'=>match e with
  | .normal=>∃ j',m j' < m j /\ s'.le (I j')
  | e=>K e s') (I j)) : Loop body K s:=by
 unfold Loop
 exact ⟨J,I,m,j0,h0,h⟩
inductive Plan where
 | done
 | stop
 | take (i : Nat) (p : Plan)
 | fork (i : Nat) (p rest : Plan)
  | late (n : Nat) (ls is : List Nat) (p : Plan)
  | lend (l : Nat) (p p' : Plan)
 | lstop (p : Plan)
  | lwait (p : Plan)
def eagerOp (o : Oper) : Bool :=
 match o.guard with
 | some _=>false
 | none =>
  match o.op with
  | .move _=>true
  | .assign _=>true
  | .fieldAddr _ _ _=>true
  | .nilCheck _=>true
  | .binOp op _ _ _ _ =>
   match op with
   | .add=>true
   | .sub=>true
   | _=>false
  | _=>false
def pairB (L : List Oper) (i j : Nat) : Bool :=
 match L[i]?,L[j]? with
 | some oi,some oj=>(oi.apart L.toArray oj && compat (memC oi.op) (memC oj.op)) || oj.after.any fun e=>Region.binds .any e && Nat.beq e.on i
 | _,_=>false
def pairsB (L : List Oper) (is : List Nat) : Bool :=
 match is with
 | []=>true
 | i :: is=>(is.all fun j=>pairB L i j) && pairsB L is
def ascB : List Nat -> Bool
 | []=>true
 | i :: is=>(is.all fun j=>Nat.blt i j) && ascB is
def setAll (listed : Array Bool) (is : List Nat) : Array Bool:=is.foldl (fun a i=>a.setIfInBounds i true) listed
def oneB (L : List Oper) (i : Nat) : Bool :=
 match L[i]? with
 | some o=>decide (memC o.op <= 2) && (o.guard.isNone || memC o.op != 2)
 | none=>false
def lateB (L : List Oper) (listed : Array Bool) (n : Nat) (ls is : List Nat) : Bool :=
 ((Nat.beq listed.size L.length && (ls.all (fun l=>Nat.blt l n && !listed.getD l true) && Nat.blt n L.length)) &&
 ((ascB is && is.all (fun i=>ls.all fun l=>pairB L i l)) && (pairsB L is && (is ++ ls).all (oneB L)))) &&
 (((List.range L.length).all (fun j=>!listed.getD j false || (match L[j]? with | some o=>o.after.all fun e=>!Region.binds .any e || listed.getD e.on false | none=>true)) &&
  (List.range L.length).all (fun t=>Nat.blt t n || !listed.getD t true)) &&
 (((List.range n).all (fun i=>ls.contains i || (listed.getD i true || is.contains i))) &&
  ((is.all fun i=>Nat.blt i n && (!ls.contains i && !listed.getD i true)) &&
  ((is.all fun i=>match L[i]? with | some o=>o.after.all (fun e=>!Region.binds .any e || (Nat.blt e.on i && !ls.contains e.on)) | none=>false) &&
   ((is.all fun i=>(List.range (n + 1)).any fun j=>Nat.blt i j && (!ls.contains j && Region.waitsFor .any L.toArray j i)) &&
   Region.chainB .any L.toArray n)))))
inductive PMode where
 | free
 | fork (rs : List Nat)
 | late (todo ls : List Nat)
def Plan.ok (L : List Oper) : Plan -> Array Bool -> PMode -> Bool
 | .done,listed,.free=>(Region.ready .any L.toArray listed).isEmpty
 | .stop,_,.fork []=>true
 | .take i p,listed,.free=>(match L[i]? with | some o=>eagerOp o | none=>false) && (Region.free .any L.toArray listed i && ((Region.ready .any L.toArray listed).contains i && p.ok L (listed.setIfInBounds i true) .free))
 | .fork i p rest,listed,.free =>
  match Region.ready .any L.toArray listed with
  | j :: rs=>Nat.beq i j && (p.ok L (listed.setIfInBounds i true) .free && rest.ok L listed (.fork rs))
  | []=>false
 | .fork i p rest,listed,.fork (j :: rs)=>Nat.beq i j && (p.ok L (listed.setIfInBounds i true) .free && rest.ok L listed (.fork rs))
 | .late n ls is p,listed,.free=>lateB L listed n ls is && p.ok L (setAll listed is) (.late ls ls)
 | .lend l p p',listed,.late (l' :: todo) ls=>Nat.beq l l' && (p.ok L (listed.setIfInBounds l true) (.late (ls.erase l) (ls.erase l)) && p'.ok L listed (.late todo ls))
 | .lstop p,listed,.late [] _=>p.ok L listed .free
 | .lwait p,listed,.late (l' :: todo) ls=>(match L[l']? with | some o=>o.after.any fun e=>Region.binds .any e && !listed.getD e.on true | none=>false) && p.ok L listed (.late todo ls)
 | _,_,_=>false
def Plan.depth : Plan -> Nat
 | .done=>0
 | .stop=>0
 | .take _ p=>p.depth + 1
 | .fork _ p rest=>Nat.max (p.depth + 1) rest.depth
 | .late _ _ is p=>is.length + p.depth
 | .lend _ p p'=>Nat.max (p.depth + 1) p'.depth
 | .lstop p=>p.depth
 | .lwait p=>p.depth
@[irreducible] def bothB (A B : Prop) : Prop:=A /\ B
theorem both_intro {A B : Prop} (h : A) (h' : B) : bothB A B:=by unfold bothB; exact ⟨h,h'⟩
theorem both_elim {A B : Prop} (h : bothB A B) : A /\ B:=by unfold bothB at h; exact h
def atA (P : Program) (L : List Oper) (base i : Nat) (s : St) (K : St -> Prop) : Prop :=
 match L[i]? with
 | some o=>oneA P L o (base + 16 * i) s K
 | none=>False
def textI (P : Program) (L : List Oper) (base : Nat) (Q : St -> Prop) (is : List Nat) : St -> Prop :=
 List.rec (motive:=fun _=>St -> Prop) (fun s=>Q s) (fun i _ ih s =>
  match L[i]? with
  | some o=>oneW P L o (base + 16 * i) s fun u =>
   match fitsB o (base + 16 * i) s u with
   | true=>u.toK (base + 16 * i) o.dst s ih
   | false=>False
  | none=>False) is
def expA (P : Program) (L : List Oper) (base : Nat) (K : St -> Prop) (p : Plan) : St -> Prop :=
 Plan.rec (motive:=fun _=>St -> Prop) (fun s=>K s) (fun _=>True) (fun i _ ih s=>atA P L base i s ih) (fun i _ _ ih1 ih2 s=>bothB (atA P L base i s ih1) (ih2 s)) (fun _ _ is _ ih s=>textI P L base ih is s) (fun l _ _ ih1 ih2 s=>bothB (textI P L base ih1 [l] s) (ih2 s)) (fun _ ih s=>ih s) (fun _ ih s=>ih s) p
@[irreducible] def drawA (P : Program) (base : Nat) (L : List Oper) (s : St) (K : St -> Prop) : Prop :=
 ((P.follows .mixedOrders = true /\ Region.lexB .any L.toArray = true /\ (memOne L && memPairs L) = true) /\ textW P L base K L 0 s) \/
 (∃ p : Plan,(P.follows .mixedOrders = true /\ Region.noSelect L.toArray = true /\ (Nat.ble p.depth L.length && p.ok L (Array.replicate L.length false) .free) = true) /\ expA P L base K p s) \/
 ∃ n : Nat,(P.follows .mixedOrders = true /\ Region.lexTailB .any L.toArray n = true /\ (memOne (L.take n) && memPairs (L.take n)) = true) /\ textW P L base (fun s=>opsA P L base (L.drop n) n s K) (L.take n) 0 s
theorem draw_tail {P : Program} {base : Nat} {L : List Oper} {s : St} {K : St -> Prop} (n : Nat) (h1 : P.follows .mixedOrders = true) (h2 : Region.lexTailB .any L.toArray n = true) (h3 : (memOne (L.take n) && memPairs (L.take n)) = true) (h : textW P L base (fun s=>opsA P L base (L.drop n) n s K) (L.take n) 0 s) : drawA P base L s K:=by
 unfold drawA
 exact .inr (.inr ⟨n,⟨h1,h2,h3⟩,h⟩)
theorem draw_text {P : Program} {base : Nat} {L : List Oper} {s : St} {K : St -> Prop} (h1 : P.follows .mixedOrders = true) (h2 : Region.lexB .any L.toArray = true) (h3 : (memOne L && memPairs L) = true) (h : textW P L base K L 0 s) : drawA P base L s K:=by
 unfold drawA
 exact .inl ⟨⟨h1,h2,h3⟩,h⟩
theorem draw_exp {P : Program} {base : Nat} {L : List Oper} {s : St} {K : St -> Prop} (p : Plan) (h1 : P.follows .mixedOrders = true) (h2 : Region.noSelect L.toArray = true) (h3 : (Nat.ble p.depth L.length && p.ok L (Array.replicate L.length false) .free) = true) (h : expA P L base K p s) : drawA P base L s K:=by
 unfold drawA
 exact .inr (.inl ⟨p,⟨h1,h2,h3⟩,h⟩)
def codeA (P : Program) (c : Code) : (Exit -> St -> Prop) -> St -> Prop :=
 Code.rec (motive:=fun _=>(Exit -> St -> Prop) -> St -> Prop)
  (fun K s=>K .normal s)
  (fun id ops draw K s =>
   match s with
   | ⟨e,z,o,n,g⟩ =>
    match draw with
    | false=>opsA P ops.toList (n + 4096 * id) ops.toList 0 ⟨e,z,o,n,g⟩ (K .normal)
    | true=>drawA P (n + 4096 * id) ops.toList ⟨e,z,o,n,g⟩ (K .normal))
  (fun _ _ iha ihb K s=>iha (fun e s' =>
   match e with
   | .normal=>ihb K s'
   | e=>K e s') s)
  (fun c _ _ iha ihb K s =>
   match s.val c with
   | .bool t=>splitB t (iha K s) (ihb K s)
   | _=>False)
  (fun id _ ih K s=>ih (fun e s' =>
   match e with
   | .exit id'=>if id' = id then K .normal s' else K (.exit id') s'
   | e=>K e s') s)
  (fun _ ih K s=>Loop ih K s)
  (fun _ _ _ _ _ _ _ _=>False)
  (fun id K s=>K (.exit id) s)
  (fun _ _ _ _=>False)
  (fun _ _ _=>False)
  (fun _ _ _=>False)
  (fun K s=>K .ret s)
  (fun _ _ _=>False) c
section
variable {P : Program} {K : Exit -> St -> Prop} {s : St}
theorem codeA_skip : codeA P .skip K s = K .normal s:=rfl
theorem codeA_region {id : Nat} {ops : Array Oper} {draw : Bool} : codeA P (.region id ops draw) K s =
 match draw with
 | false=>opsA P ops.toList (s.nxt + 4096 * id) ops.toList 0 s (K .normal)
 | true=>drawA P (s.nxt + 4096 * id) ops.toList s (K .normal):=by cases s; rfl
theorem codeA_seq {a b : Code} : codeA P (.seq a b) K s = codeA P a (fun e s' =>
 match e with
 | .normal=>codeA P b K s'
 | e=>K e s') s:=rfl
theorem codeA_cond {c : Operand} {a b : Code} : codeA P (.cond c a b) K s =
 match s.val c with
 | .bool t=>splitB t (codeA P a K s) (codeA P b K s)
 | _=>False:=rfl
theorem codeA_block {id : Nat} {c : Code} : codeA P (.block id c) K s = codeA P c (fun e s' =>
 match e with
 | .exit id'=>if id' = id then K .normal s' else K (.exit id') s'
 | e=>K e s') s:=rfl
theorem codeA_loop {c : Code} : codeA P (.loop c) K s = Loop (codeA P c) K s:=rfl
theorem codeA_exit {id : Nat} : codeA P (.exit id) K s = K (.exit id) s:=rfl
theorem codeA_ret : codeA P .ret K s = K .ret s:=rfl
theorem codeA_rangeFunc {f : Operand} {ps : Array Tmp} {a b : Code} : codeA P (.rangeFunc f ps a b) K s = False:=rfl
theorem codeA_scope {b : Code} : codeA P (.scope b) K s = False:=rfl
theorem codeA_label {l : Nat} : codeA P (.label l) K s = False:=rfl
theorem codeA_goto {l : Nat} : codeA P (.goto l) K s = False:=rfl
theorem codeA_refuse {l : String} : codeA P (.refuse l) K s = False:=rfl
end
end Go.Ab
