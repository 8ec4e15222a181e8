/-
  Functions that read and write through a pointer to a variable of cells without memory of their own.
  No condition: definitions and lemmas over any program.
-/
import Derived.Test.YtjjjalcmcifncaaGreatM4
namespace Go.Ab
open Go.RowKit
set_option linter.unusedVariables false
def boxR (w : World) (ty : Nat) (cs : List AV) (h : Value) (b : Nat) : Prop :=
 h.blk = some b /\ 0 < cs.length /\ ∃ vs,OwnR w (fun x=>x = b) ty cs.length h 1 vs /\ (∀ u ∈ vs,u.oneCell' = true) /\ LR w (fun _=>False) cs vs
structure BC (P : Program) (f ty : Nat) (cs args : List AV) (r : AV) (os : List AObj) (cs' : List AV) : Prop where
 run : ∀ (w : World) (h : Value) (b : Nat) (vals : List Value),Tab w (fun x=>x = b \/ w.heap.size <= x) -> boxR w ty cs h b -> LR w (fun _=>False) args vals ->
  Ans P f (Value.pointer (some ⟨b,0,none⟩) :: vals).toArray w fun v w'=>∃ hdr,boxR w' ty cs' h b /\ w.grownBy w' (some b) /\ ResR (fun _=>False) false w w' hdr r os v
@[irreducible] def OutB (P : Program) (rs : List ResultVar) (r : AV) (os : List AObj) (ty n : Nat) (cs' : List AV) (s : St) : Prop :=
 ∃ s',s.le s' /\ ∃ ρ : List Nat,(ρ.length = os.length /\ noDup ρ = true /\ r.fine false os.length = true) /\ resA P s' rs = some (named ρ r) /\ (∀ k o,os[k]? = some o -> s'.objs (ρ.getD k 0) = some o /\ o.box = false) /\
  (∀ o ∈ os,(o.isOwn || o.elems.flatten.all AV.flat) = true) /\ s'.objs 0 = some ⟨.box,ty,n,[cs']⟩ /\ s'.gh = [.ptr 0 0 0,.own 0] /\ cs'.all AV.flat = true
theorem OutB_plain {P : Program} {rs : List ResultVar} {r v : AV} {ty n : Nat} {cs cs' : List AV} {s : St} (h : resA P s rs = some v) (hf : r.fine false 0 = true) (ho : s.objs 0 = some ⟨.box,ty,n,[cs]⟩) (hg : s.gh = [.ptr 0 0 0,.own 0])
  (hfl : cs.all AV.flat = true) (hv : v = named [] r) (hc : cs = cs') : OutB P rs r [] ty n cs' s:=by
 unfold OutB
 subst hc
 exact ⟨s,St.le_refl s,[],⟨rfl,rfl,hf⟩,by rw [h,hv],fun k o hk=>by simp at hk,(fun o ho=>by simp at ho),ho,hg,hfl⟩
theorem OutB_ids {P : Program} {rs : List ResultVar} {r v : AV} {os : List AObj} {ty n : Nat} {cs cs' : List AV} {s : St} (h : resA P s rs = some v) (hn : noDup v.ids = true) (hf : r.fine false os.length = true)
  (hos : ObjsAt s v.ids os) (ho : s.objs 0 = some ⟨.box,ty,n,[cs]⟩) (hg : s.gh = [.ptr 0 0 0,.own 0]) (hfl : cs.all AV.flat = true) (hv : v = named v.ids r) (hs : ∀ o ∈ os,o.elems.flatten.all AV.flat = true) (hc : cs = cs') : OutB P rs r os ty n cs' s:=by
 unfold OutB
 subst hc
 exact ⟨s,St.le_refl s,v.ids,⟨(ObjsAt_get hos).1,hn,hf⟩,h.trans (congrArg some hv),(ObjsAt_get hos).2,fun o ho=>by rw [hs o ho,Bool.or_true],ho,hg,hfl⟩
theorem flat_LR {c : Ctx} : ∀ {al : List AV} {vs : List Value},al.all AV.flat = true -> VL c al vs -> LR c.w (fun _=>False) al vs
 | [],[],_,_=>by unfold LR; trivial
 | a :: al,v :: vs,hf,h=>by
  simp only [List.all_cons,baT] at hf
  unfold VL at h
  unfold LR
  refine ⟨?_,flat_LR hf.2 h.2⟩
  have h1:=h.1
  have h2:=hf.1
  cases a <;> simp [AV.flat] at h2 <;> unfold VR at h1 <;> unfold RR <;> exact h1
 | [],_ :: _,_,h=>by unfold VL at h; exact h.elim
 | _ :: _,[],_,h=>by unfold VL at h; exact h.elim
theorem bc_of {P : Program} {f : Nat} {fn : Func} {c : Code} (hf : P.funcs[f]? = some fn) (hb : fn.body = some c) (hname : (fn.name == "runtime.NumGoroutine") = false) {ty : Nat} {cs args cs' : List AV} {r : AV} {os : List AObj} (n z : Nat) (rs : List ResultVar)
  (hz : (args.length + 1) + (fn.ntmps - (args.length + 1)) = z) (hr : fn.results.toList = rs) (hn : cs.length = n) (hpos : 0 < n) (hn' : cs'.length = n)
  (h : codeA P c (fun e s=>match e with
   | .normal=>OutB P rs r os ty n cs' s
   | .ret=>OutB P rs r os ty n cs' s
   | _=>False) ⟨fun t=>(AV.ptr 0 0 0 :: args).getD t .any,z,fun i=>if i = 0 then some ⟨.box,ty,n,[cs]⟩ else none,16,[.ptr 0 0 0,.own 0]⟩) : BC P f ty cs args r os cs':=by
 subst hr hz hn
 refine ⟨fun w hd b vals hT hbox hargs=>(Ans_body hf hname hb).2 ?_⟩
 obtain ⟨hblk,_,vs,hrow,hone,hcells⟩:=hbox
 have hlen:=hargs.length
 generalize hs0 : (⟨fun t=>(AV.ptr 0 0 0 :: args).getD t .any,(args.length + 1) + (fn.ntmps - (args.length + 1)),fun i=>if i = 0 then some ⟨.box,ty,cs.length,[cs]⟩ else none,16,[.ptr 0 0 0,.own 0]⟩ : St) = s0 at h
 have hobj0 : s0.objs 0 = some ⟨.box,ty,cs.length,[cs]⟩:=by rw [<- hs0]; rfl
 have hobj : ∀ i o,s0.objs i = some o -> i = 0 /\ o = ⟨.box,ty,cs.length,[cs]⟩:=by
  intro i o hi
  rw [<- hs0] at hi
  simp only at hi
  split at hi
  ·rename_i e; exact ⟨e,by simpa using hi.symm⟩
  ·cases hi
 have hNb : b < w.heap.size:=(hrow.lt b hblk).2
 let F0 : Nat -> Prop:=fun x=>x = b \/ w.heap.size <= x
 let B0 : Base:=⟨w,fun x=>x = b \/ w.heap.size <= x,fun _ h=>.inr h,hT⟩
 have hptr : VR (s0.ctx F0 w (fun _=>⟨hd,[]⟩)) (.ptr 0 0 0) (.pointer (some ⟨b,0,none⟩)):=by
  unfold VR
  exact ⟨_,b,hobj0,hblk,by simp⟩
 have hown : VR (s0.ctx F0 w (fun _=>⟨hd,[]⟩)) (.own 0) hd:=by
  unfold VR
  exact ⟨by show (s0.objs 0).isSome = true; rw [hobj0]; rfl,rfl⟩
 have hVL : VL (s0.ctx F0 w (fun _=>⟨hd,[]⟩)) (.ptr 0 0 0 :: args) (.pointer (some ⟨b,0,none⟩) :: vals) :=
  VL.cons hptr (RR.value.values (c:=s0.ctx F0 w (fun _=>⟨hd,[]⟩)) _ _ (LR.mono (fun _ _ _=>rfl) (fun b hb=>hb.elim) _ _ hargs))
 have hs : SimE F0 B0 [.pointer (some ⟨b,0,none⟩),hd] s0 { tmps:=(Value.pointer (some ⟨b,0,none⟩) :: vals).toArray ++ Array.replicate (fn.ntmps - (Value.pointer (some ⟨b,0,none⟩) :: vals).toArray.size) undef,defers:=[] } w:=by
  refine ⟨fun _=>⟨hd,[]⟩,fun t=>?_,?_,rfl,?_,?_,?_,Frame.refl _,fun b hb=>hb⟩
  ·have he : s0.env t = (AV.ptr 0 0 0 :: args).getD t .any:=by rw [<- hs0]
   rw [he]
   cases ha : (AV.ptr 0 0 0 :: args)[t]? with
   | none=>rw [List.getD_eq_getElem?_getD,ha]; unfold VR; trivial
   | some x =>
    obtain ⟨v,e1,e2⟩:=hVL.get t x ha
    have hlt : t < (Value.pointer (some ⟨b,0,none⟩) :: vals).length:=(List.getElem?_eq_some_iff.1 e1).1
    rw [List.getD_eq_getElem?_getD,ha]
    have hev : Act.eval { tmps:=(Value.pointer (some ⟨b,0,none⟩) :: vals).toArray ++ Array.replicate (fn.ntmps - (Value.pointer (some ⟨b,0,none⟩) :: vals).toArray.size) undef,defers:=[] } (.tmp t) = v:=by
     simp only [Act.eval,Array.getD_eq_getD_getElem?]
     rw [Array.getElem?_append_left (by simpa using hlt),List.getElem?_toArray,e1]
     rfl
    rw [hev]
    exact e2
  ·have he : s0.sz = (args.length + 1) + (fn.ntmps - (args.length + 1)):=by rw [<- hs0]
   rw [he]
   simp [hlen]
  ·have he : s0.gh = [.ptr 0 0 0,.own 0]:=by rw [<- hs0]
   rw [he]
   exact VL.cons hptr (VL.cons hown VL.nil)
  ·intro i o hi
   obtain ⟨_,rfl⟩:=hobj i o hi
   refine ⟨hpos,by simp,nd_nil,vs,hrow.mono (fun _ _=>rfl) (fun x _ hx=>.inl hx),hone,?_⟩
   refine CellsR_box rfl ?_
   simp only [List.flatten_cons,List.flatten_nil,List.append_nil]
   exact RR.value.values (c:=s0.ctx F0 w (fun _=>⟨hd,[]⟩)) _ _ (LR.mono (fun _ _ _=>rfl) (fun b hb=>hb.elim) _ _ hcells)
  ·intro i j o o' x hi hj _ _
   rw [(hobj i o hi).1,(hobj j o' hj).1]
 refine calls_of_wp hf hb (codeA_ok c _ _ h F0 B0 _ _ w hs _ ?_)
 intro e s' a' w' hk ⟨hdr,hsim⟩
 have main : OutB P fn.results.toList r os ty cs.length cs' s' -> a'.defers = [] /\ ∃ v,(results fn a'.tmps).run P w' = .ok v w' /\ ∃ v',Ending.returned v = .returned v' /\ ∃ hdr',boxR w' ty cs' hd b /\ w.grownBy w' (some b) /\ ResR (fun _=>False) false w w' hdr' r os v':=by
  intro hout
  unfold OutB at hout
  obtain ⟨s',hle,ρ,⟨hl,hnd,hfine⟩,hres,hos,hflat,hbx,hgh,hfl'⟩:=hout
  obtain ⟨hdr,hsim⟩:=hle _ _ _ _ _ ⟨hdr,hsim⟩
  obtain ⟨v,q1,q2⟩:=resA_ok hsim hres
  have hgv:=hsim.gh
  rw [hgh] at hgv
  unfold VL at hgv
  have hgv2:=hgv.2
  unfold VL at hgv2
  have hh0:=hgv2.1
  unfold VR at hh0
  have hh0 : hd = (hdr 0).v:=hh0.2
  obtain ⟨k2,k3,kn,vs',k4,k5,k6⟩:=hsim.objs 0 _ hbx
  have hb0 : (hdr 0).blk = some b:=by unfold Hdr.blk; rw [<- hh0]; exact hblk
  have hnot : ∀ k o,os[k]? = some o -> ∀ x,(hdr (ρ.getD k 0)).has x -> x ≠ b:=by
   intro k o hk x hx e
   subst e
   obtain ⟨o1,o2⟩:=hos k o hk
   have:=hsim.dis _ _ o _ x o1 hbx hx (.inl hb0)
   rw [this,hbx] at o1
   cases o1
   cases o2
  refine ⟨hsim.defers,v,q1,v,rfl,fun k=>hdr (ρ.getD k 0),⟨hblk,by rw [hn']; exact hpos,vs',?_,k5,?_⟩,⟨hsim.below.os,hsim.below.tape,hsim.below.output,hsim.below.size,fun k hk hne=>hsim.below.block k hk ?_⟩,?_⟩
  ·rw [hn',hh0]
   have k4' : OwnR w' B0.N ty cs.length (hdr 0).v 1 vs':=k4
   refine k4'.mono (fun _ _=>rfl) (fun x hx _=>?_)
   have : (hdr 0).blk = some x:=hx
   rw [hb0] at this
   exact (Option.some.inj this).symm
  ·have:=(k6.box rfl).1
   simp only [List.flatten_cons,List.flatten_nil,List.append_nil] at this
   exact flat_LR (c:=s'.ctx F0 w' hdr) hfl' this
  ·rintro (e | e)
   ·exact hne (by rw [e])
   ·have : w.heap.size <= k:=e
    omega
  ·refine ⟨?_,?_,?_,?_⟩
   ·refine VR.unname (c:=s'.ctx F0 w' hdr) (c1:=resCtx (fun _=>False) false w w' (fun k=>hdr (ρ.getD k 0)) os) (ρ:=ρ) (n:=os.length) (fun e=>by cases e) ?_ r v hfine q2
    intro k hk
    exact ⟨by show (os[k]?).isSome = true; simp [hk],rfl⟩
   ·intro o ho
    obtain ⟨k,hk⟩:=List.getElem?_of_mem ho
    exact (hos k o hk).2
   ·intro k o hk
    obtain ⟨p2,p3,pn,us,p4,p5,p6⟩:=hsim.objs _ o (hos k o hk).1
    have p4' : OwnR w' B0.N o.ty o.esz (hdr (ρ.getD k 0)).v o.elems.length us:=p4
    refine ⟨p2,p3,⟨pn.1,pn.2.1,fun x hx=>⟨?_,(pn.2.2 x hx).2⟩⟩,us,p4'.mono (fun _ _=>rfl) (fun x hx hN=>?_),p5,?_⟩
    ·have hN : x = b \/ w.heap.size <= x:=(pn.2.2 x hx).1
     exact hN.resolve_left (hnot k o hk x (.inr hx))
    ·have hN : x = b \/ w.heap.size <= x:=hN
     exact hN.resolve_left (hnot k o hk x (.inl hx))
    ·have hom:=mgE hk
     cases hkd : o.kind with
     | box=>have:=(hos k o hk).2; unfold AObj.box at this; rw [hkd] at this; cases this
     | deep shp=>exact CellsR_deep hkd (p6.deep hkd)
     | slc =>
      obtain ⟨hlr0,e2⟩:=p6.slc hkd
      rw [e2]
      refine CellsR_slc hkd ?_
      have:=hflat o hom
      simp only [AObj.isOwn,hkd,Bool.false_or] at this
      exact flat_RR this hlr0
   ·intro i j o o' x hi hj bi bj
    have:=hsim.dis _ _ o o' x (hos i o hi).1 (hos j o' hj).1 bi bj
    exact noDup_inj hnd i j (by rw [hl]; exact (List.getElem?_eq_some_iff.1 hi).1) (by rw [hl]; exact (List.getElem?_eq_some_iff.1 hj).1) this
 cases e <;> simp only at hk
 case normal=>exact main hk
 case ret=>exact main hk
theorem CallB {P : Program} {f ty : Nat} {cs args args' cs' : List AV} {r : AV} {os : List AObj} {s : St} {id n nid : Nat} {d : Option Nat} {K : St -> Prop} (hbc : BC P f ty cs args' r os cs')
  (ho : s.objs id = some ⟨.box,ty,n,[cs]⟩) (he : args = args') (hn : cs'.length = n) (hfl : args.all AV.flat = true) (hcs : cs.all AV.flat = true) (hfree : freeFrom nid os (setObj s id ⟨.box,ty,n,[cs']⟩).objs = true)
  (h : addK (setObj s id ⟨.box,ty,n,[cs']⟩) nid os fun s'=>s'.putN d (r.shift nid) K) : CallA P f (.ptr id 0 0 :: args) s nid d K:=by
 unfold CallA
 refine .inl fun F w0 gv a w hdr hs vals hargs=>?_
 subst he
 have h' : St.putN { (setObj s id ⟨.box,ty,n,[cs']⟩) with objs:=addObjs nid os (setObj s id ⟨.box,ty,n,[cs']⟩).objs } d (r.shift nid) K:=by
  cases s; exact h
 obtain ⟨k1,k2⟩:=putK_elim (putN_elim h')
 obtain ⟨vp,vals,rfl⟩ : ∃ vp vs,vals = vp :: vs:=by
  match vals,hargs with
  | v :: vs,_=>exact ⟨v,vs,rfl⟩
  | [],h=>unfold VL at h; exact h.elim
 unfold VL at hargs
 obtain ⟨hp,hargs⟩:=hargs
 unfold VR at hp
 obtain ⟨o,b,p1,hblk,rfl⟩:=hp
 replace p1 : s.objs id = some o:=p1
 rw [ho] at p1
 cases p1
 simp only [Nat.zero_mul,Nat.zero_add]
 replace hblk : (hdr id).blk = some b:=hblk
 obtain ⟨hpos,hlens,_,cvs,hrow,hone,hcl⟩:=hs.objs id _ ho
 have hcn : cs.length = n:=hlens cs (by simp)
 have hfp:=(hcl.box rfl).2
 have hcv:=(hcl.box rfl).1
 simp only [List.flatten_cons,List.flatten_nil,List.append_nil] at hcv
 replace hpos : 0 < n:=hpos
 have hrow' : OwnR w w0.N ty n (hdr id).v 1 cvs:=hrow
 have hbox : boxR w ty cs (hdr id).v b:=by
  refine ⟨hblk,by omega,cvs,?_,hone,flat_LR (c:=s.ctx F w hdr) hcs hcv⟩
  rw [hcn]
  refine hrow'.mono (fun _ _=>rfl) (fun x hx _=>?_)
  have : (hdr id).blk = some x:=hx
  rw [hblk] at this
  exact (Option.some.inj this).symm
 have hrun:=hbc.run w (hdr id).v b vals (hs.tab fun x hx=>by
  rcases hx with rfl | hx
  ·exact (hs.ge ho (.inl hblk)).1
  ·exact w0.up x (Nat.le_trans hs.below.size hx)) hbox (flat_LR (c:=s.ctx F w hdr) hfl hargs)
 have mono : ∀ {A : Array Value} {R R' : Value -> World -> Prop},(∀ v w,R v w -> R' v w) -> Ans P f A w R -> Ans P f A w R':=by
  intro A R R' hR h
  unfold Ans at h ⊢
  split at h
  ·exact hR _ _ h
  ·exact h.mono fun e w' ⟨v,q1,q2⟩=>⟨v,q1,hR _ _ q2⟩
  ·exact h.elim
 refine mono (fun v w' ⟨hdr1,⟨_,_,vs',e1,e2,e3⟩,hg,hres⟩=>?_) hrun
 rw [hn] at e1
 obtain ⟨cap,cur,c1,c2,c3,c4,c5,c6,c7,c8⟩:=ownsRow_cells hrow' hblk
 obtain ⟨cap',cur',d1,d2,d3,d4,d5,d6,d7,d8⟩:=ownsRow_cells e1 hblk
 have hbsz : b < w.heap.size:=(Array.getElem?_eq_some_iff.1 c4).1
 have hw1:=setRow_heap w b cur cur' ty (0,0) c4
 have hw2 : ∀ k,k ≠ b -> (w.setRow b cur').heap[k]? = w.heap[k]?:=fun k hk=>setRow_other w b k _ hk
 have hsz : (w.setRow b cur').heap.size = w.heap.size:=size_setRow w b cur'
 have hgrow1 : w.grownBy (w.setRow b cur') (hdr id).blk:=⟨rfl,rfl,rfl,by rw [hsz]; exact Nat.le_refl _,fun k _ hk=>hw2 k (fun e=>hk (by rw [hblk,e]))⟩
 have hsim1 : Sim F w0 gv (setObj s id ⟨.box,ty,n,[cs']⟩) a (w.setRow b cur') (fun i=>if i = id then ⟨(hdr id).v,[]⟩ else hdr i):=by
  rw [<- turned_id]
  refine hs.turn ho hgrow1 (fun j hj=>by simp [hj]) (fun _ _=>rfl) (fun _ _ _ _=>rfl) (fun _ _ _ _ _=>rfl) ?_ ?_ ?_ (fun j x y z lo m cp v _ hv=>by
   obtain ⟨o1,q1,q2,_⟩:=hv
   replace q1 : s.objs id = some o1:=q1
   rw [ho] at q1
   cases q1
   cases q2) ?_ ?_
  ·intro v hv
   unfold VR at hv ⊢
   exact ⟨by simp [St.ctx,turned],by simp [St.ctx]; exact hv.2⟩
  ·intro x y v hv
   unfold VR at hv ⊢
   obtain ⟨o1,b1,q1,q2,q3⟩:=hv
   replace q1 : s.objs id = some o1:=q1
   rw [ho] at q1
   cases q1
   exact ⟨⟨.box,ty,n,[cs']⟩,b1,by simp [St.ctx,turned],by simp [St.ctx,Hdr.blk]; exact q2,q3⟩
  ·intro x y z v hv
   exfalso
   unfold VR at hv
   obtain ⟨o1,b1,sh,e,q1,q2,_⟩:=hv
   replace q1 : s.objs id = some o1:=q1
   rw [ho] at q1
   cases q1
   cases q2
  ·intro hR o1 eo
   cases eo
   simp only [if_true]
   refine ⟨hpos,by simpa using hn,nd_nil,vs',?_,e2,?_⟩
   ·refine ⟨e1.1,.inr ⟨b,cap',cur',d1,d2,c3,hw1,d5,d6,d7,d8⟩⟩
   ·refine CellsR_box rfl ?_
    simp only [List.flatten_cons,List.flatten_nil,List.append_nil]
    exact RR.value.values (c:=(turned s (fun j=>.own j) (fun j x y=>.ptr j x y) (fun j x y z=>.cel j x y z) id (some ⟨.box,ty,n,[cs']⟩)).ctx F (w.setRow b cur') (fun i=>if i = id then ⟨(hdr id).v,[]⟩ else hdr i)) _ _ (LR.mono (w:=w') (w':=w.setRow b cur') (fun _ _ h=>h.elim) (fun b hb=>hb.elim) _ _ e3)
  ·intro o1 x _ hx
   simp only [if_true] at hx
   rcases hx with hx | hx
   ·exact .inl (.inl hx)
   ·cases hx
 have hbelow : Below (w.setRow b cur').heap.size (w.setRow b cur') w':=by
  refine ⟨hg.os,hg.tape,hg.output,by rw [hsz]; exact hg.size,fun k hk=>?_⟩
  by_cases e : k = b
  ·subst e; rw [hw1]; exact d4
  ·rw [hw2 k e]
   exact hg.block k (by rw [hsz] at hk; exact hk) (fun e'=>e (Option.some.inj e'))
 have hres1 : ResR (fun _=>False) false (w.setRow b cur') w' hdr1 r os v:=by
  have hc : resCtx (fun _=>False) false (w.setRow b cur') w' hdr1 os = resCtx (fun _=>False) false w w' hdr1 os:=by
   unfold resCtx
   rw [hsz]
  refine ⟨by rw [hc]; exact hres.val,hres.slc,fun i o hi=>?_,hres.dis⟩
  rw [hc,hsz]
  exact hres.objs i o hi
 obtain ⟨hdr',q1,q2⟩:=hsim1.called (fun e=>by cases e) hbelow hres1 hfree
 exact ⟨_,k2,hdr',q1.put k1 q2⟩
theorem Loop_nilB {body : (Exit -> St -> Prop) -> St -> Prop} {K : Exit -> St -> Prop} {e : Nat -> AV} {z : Nat} {o : Nat -> Option AObj} {n : Nat} {g : List AV} (id nid ty esz j : Nat) {tb eb : Nat} {cells : List AV} (ho : o id = some ⟨.box,tb,eb,[cells]⟩) (hj : cells[j]? = some .nil) (hid : o nid = none) (hpos : 0 < esz)
  (h : Loop body K ⟨e,z,fun i=>if i = nid then some ⟨.slc,ty,esz,[]⟩ else if i = id then some ⟨.box,tb,eb,[cells.set j (.own nid)]⟩ else o i,n,g⟩) : Loop body K ⟨e,z,o,n,g⟩:=by
 unfold Loop at h ⊢
 obtain ⟨J,I,m,j0,h0,hb⟩:=h
 exact ⟨J,I,m,j0,St.le_trans (St.le_promoteB (s:=⟨e,z,o,n,g⟩) ho hj hid hpos) h0,hb⟩
end Go.Ab
