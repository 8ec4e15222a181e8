/-
  That stores, builds and appends in which objects are taken in do what is said of them; appends.
  No condition: lemmas over any program.
-/
import Derived.Test.YtjjjalcmcifncaaGreatAb10d
namespace Go.Ab
open Go.RowKit
section
variable {P : Program} {s : St} {K : St -> Prop} {dst : Option Tmp} {type : TypeId} {pos : String} {after : Array Edge} {guard : Option (Nat × Bool)}
theorem grown_block {w w' : World} {v : Value} (h : w.grownBy w' v.blk) {k : Nat} (hk : k < w.heap.size) (hn : v.blk ≠ some k) : w'.heap[k]? = w.heap[k]?:=h.block k hk (fun e=>hn e.symm)
theorem AppD_ok {x y : Operand} {T e : TypeId} {i : TypeInfo} {id : Nat} {o : AObj} {sh : List Shp} (hxv : s.val x = .own id) (ho : s.objs id = some o) (hk : o.kind = .deep sh) (hu : P.underlying T = some (.slice e)) (hi : P.info? e = some i)
  (h : AppD P e i s id o sh (s.val y) dst K) : OpOk P ⟨dst,.call ⟨.builtin .append,#[x,y],#[T,T]⟩,type,pos,after,guard⟩ s K:=by
 unfold AppD at h
 obtain ⟨j,oj,hyv,hoj,⟨hne,hkj,hszj,hoty,hesz,hz0,hzs⟩,⟨hm,hby⟩,hk2⟩:=h
 rw [forceS_eq] at hk2
 refine ok_value hk2 fun F w0 gv a w hdr hs=>?_
 obtain ⟨z,hz⟩:=Option.isSome_iff_exists.1 hz0
 have hzs' : z.cells.size = i.size:=by simpa [hz] using hzs
 have hvx:=hs.val x
 rw [hxv] at hvx
 unfold VR at hvx
 obtain ⟨_,hvx⟩:=hvx
 replace hvx : a.eval x = (hdr id).v:=hvx
 have hvy:=hs.val y
 rw [hyv] at hvy
 unfold VR at hvy
 obtain ⟨_,hvy⟩:=hvy
 replace hvy : a.eval y = (hdr j).v:=hvy
 obtain ⟨hpos,hlens,⟨n1,n2,n3⟩,cs,hrow,hcs,hcl⟩:=hs.objs id o ho
 obtain ⟨hposj,hlensj,⟨m1,m2,m3⟩,csj,hrowj,hcsj,hclj⟩:=hs.objs j oj hoj
 have ht:=hcl.deep hk
 have htj:=hclj.deep hkj
 have hnl : csj.length = oj.elems.length * o.esz:=by rw [htj.length,hszj,hesz]
 obtain ⟨base,cap,f1,f3⟩ : ∃ base cap,(hdr j).v = .slice base oj.elems.length cap /\ ((oj.elems.length = 0 /\ base = none) \/ ∃ ad,base = some ad /\ ∀ k u,csj[k]? = some u -> w.cell? (ad.add k) = some u):=by
  rcases hrowj.2 with ⟨base,e1,e2⟩ | ⟨g,cap,cur,e1,e0,rest⟩
  ·refine ⟨base,0,by rw [e1,e2],?_⟩
   cases base with
   | none=>exact .inl ⟨e2,rfl⟩
   | some ad =>
    refine .inr ⟨ad,rfl,fun k u hku=>?_⟩
    have : csj = []:=List.length_eq_zero_iff.1 (by rw [hnl,e2]; simp)
    rw [this] at hku
    simp at hku
  ·exact ⟨some ⟨g,0,none⟩,cap,e1,.inr ⟨_,rfl,hrowj.cells (g:=g) (by rw [e1]; exact blk_slice e0)⟩⟩
 obtain ⟨v',w',r1,r2,r3,r4⟩:=run_append (P:=P) (w:=w) hrow (t:=T) (ty:=type) (by rw [hoty]; exact hu) (by rw [hoty]; exact hi) hz hesz.symm (by rw [hesz]; exact hzs') (fun b hb=>w0.up b (Nat.le_trans hs.below.size hb)) (base:=base) (c:=cap) hnl f3 hcsj hm hby
 have hdj : ∀ b,(hdr id).has b -> ¬ (hdr j).has b:=fun b hb hb'=>hne (hs.dis j id oj o b hoj ho hb' hb)
 have hkeep : ∀ b,b ∈ (hdr id).fp ++ (hdr j).fp -> w'.heap[b]? = w.heap[b]?:=by
  intro b hb
  rcases List.mem_append.1 hb with hb | hb
  ·exact grown_block r3 (n3 b hb).2 (fun e=>n2 b e hb)
  ·exact grown_block r3 (m3 b hb).2 (fun e=>hdj b (.inl e) (.inr hb))
 have hsim:=hs.moved (ids:=[id,j]) (id:=id) (o':={ o with elems:=o.elems ++ oj.elems }) (w':=w') (h':=⟨v',(hdr id).fp ++ (hdr j).fp⟩) r3.os r3.tape r3.output r3.size (fun k hk' hn=>grown_block r3 hk' (hn o ho))
  (fun e=>by simp [inL] at e) ?_ ?_
 ·refine ⟨v',w',_,?_,hsim,?_⟩
  ·simp [execOp,resolve,invoke,builtin,hvx,hvy,f1,r1]
  ·unfold VR
   exact ⟨by simp [St.ctx,takeIn],by simp [St.ctx]⟩
 ·intro _
  refine ⟨hpos,?_,⟨?_,?_,?_⟩,cs ++ csj,?_,?_,CellsR_deep (sh:=sh) hk ?_⟩
  ·intro z hz'
   rcases List.mem_append.1 hz' with hz' | hz'
   ·exact hlens z hz'
   ·rw [hlensj z hz',hszj]; exact hesz.symm
  ·rw [List.nodup_append]
   exact ⟨n1,m1,fun p hp q hq e=>hdj p (.inr hp) (.inr (e ▸ hq))⟩
  ·intro b hb hb'
   rcases r4 b hb with q | q
   ·rcases List.mem_append.1 hb' with hb' | hb'
    ·exact n2 b q hb'
    ·exact hdj b (.inl q) (.inr hb')
   ·rcases List.mem_append.1 hb' with hb' | hb'
    ·have : b < w.heap.size:=(n3 b hb').2
     omega
    ·have : b < w.heap.size:=(m3 b hb').2
     omega
  ·intro b hb
   rcases List.mem_append.1 hb with hb | hb
   ·exact ⟨(n3 b hb).1,Nat.lt_of_lt_of_le (n3 b hb).2 r3.size⟩
   ·exact ⟨(m3 b hb).1,Nat.lt_of_lt_of_le (m3 b hb).2 r3.size⟩
  ·show OwnR w' w0.N o.ty o.esz v' (o.elems ++ oj.elems).length (cs ++ csj)
   rw [laT]
   exact r2
  ·intro u hu'
   rcases List.mem_append.1 hu' with hu' | hu'
   ·exact hcs u hu'
   ·exact hcsj u hu'
  ·show TEs w' o.esz sh (o.elems ++ oj.elems) (cs ++ csj) ((hdr id).fp ++ (hdr j).fp)
   refine TEs.append (TEs.mono _ _ _ _ _ (fun b hb=>hkeep b (by simp [hb])) ht) ?_
   have htj':=TEs.mono (w':=w') _ _ _ _ _ (fun b hb=>hkeep b (by simp [hb])) htj
   rw [hszj,<- hesz] at htj'
   exact htj'
 ·intro b hb
  rcases hb with hb | hb
  ·rcases r4 b hb with q | q
   ·exact .inl ⟨o,ho,.inl q⟩
   ·exact .inr (.inr q)
  ·rcases List.mem_append.1 hb with hb | hb
   ·exact .inl ⟨o,ho,.inr hb⟩
   ·exact .inr (.inl ⟨j,oj,by simp [inL_mem],hoj,.inr hb⟩)
theorem deepId_own {y : AV} {j : Nat} (h : deepId s y = some j) : y = .own j:=by
 unfold deepId at h
 split at h
 ·split at h
  ·cases h; rfl
  ·cases h
 ·cases h
theorem AppN_ok {x y : Operand} {T e : TypeId} {i : TypeInfo} {nid j : Nat} (hxv : s.val x = .nil) (hj : deepId s (s.val y) = some j) (hu : P.underlying T = some (.slice e)) (hi : P.info? e = some i)
  (h : AppN P e i s nid j dst K) : OpOk P ⟨dst,.call ⟨.builtin .append,#[x,y],#[T,T]⟩,type,pos,after,guard⟩ s K:=by
 have hyv:=deepId_own hj
 unfold AppN at h
 obtain ⟨oj,sh,hoj,hid,⟨hkj,hszj,hz0,hzs⟩,⟨hm,hby⟩,hk2⟩:=h
 rw [forceS_eq] at hk2
 refine ok_value hk2 fun F w0 gv a w hdr hs=>?_
 obtain ⟨z,hz⟩:=Option.isSome_iff_exists.1 hz0
 have hzs' : z.cells.size = i.size:=by simpa [hz] using hzs
 have hvx:=hs.val x
 rw [hxv] at hvx
 unfold VR at hvx
 obtain ⟨b0,hvx⟩:=hvx
 have hvy:=hs.val y
 rw [hyv] at hvy
 unfold VR at hvy
 obtain ⟨_,hvy⟩:=hvy
 replace hvy : a.eval y = (hdr j).v:=hvy
 obtain ⟨hposj,hlensj,⟨m1,m2,m3⟩,csj,hrowj,hcsj,hclj⟩:=hs.objs j oj hoj
 have htj:=hclj.deep hkj
 have hnl : csj.length = oj.elems.length * i.size:=by rw [htj.length,hszj]
 obtain ⟨base,cap,f1,f3⟩ : ∃ base cap,(hdr j).v = .slice base oj.elems.length cap /\ ((oj.elems.length = 0 /\ base = none) \/ ∃ ad,base = some ad /\ ∀ k u,csj[k]? = some u -> w.cell? (ad.add k) = some u):=by
  rcases hrowj.2 with ⟨base,e1,e2⟩ | ⟨g,cap,cur,e1,e0,rest⟩
  ·refine ⟨base,0,by rw [e1,e2],?_⟩
   cases base with
   | none=>exact .inl ⟨e2,rfl⟩
   | some ad =>
    refine .inr ⟨ad,rfl,fun k u hku=>?_⟩
    have : csj = []:=List.length_eq_zero_iff.1 (by rw [hnl,e2]; simp)
    rw [this] at hku
    simp at hku
  ·exact ⟨some ⟨g,0,none⟩,cap,e1,.inr ⟨_,rfl,hrowj.cells (g:=g) (by rw [e1]; exact blk_slice e0)⟩⟩
 obtain ⟨v',w',r1,r2,r3,r4⟩:=run_append (P:=P) (w:=w) (N:=w0.N) (e:=e) (size:=i.size) (v:=.slice b0 0 0) (n:=0) (xs:=[]) ⟨by simp,.inl ⟨b0,rfl,rfl⟩⟩ (t:=T) (ty:=type) hu hi hz rfl hzs' (fun b hb=>w0.up b (Nat.le_trans hs.below.size hb)) (base:=base) (c:=cap) hnl f3 hcsj (by simpa using hm) (by simpa using hby)
 have hblk : Value.blk (.slice b0 0 0) = none:=blk_zero
 rw [hblk] at r3
 simp only [Nat.zero_add,List.nil_append] at r2
 have hall : ∀ k,k < w.heap.size -> w'.heap[k]? = w.heap[k]?:=fun k hk=>r3.block k hk (by simp)
 have hnew : ∀ b,v'.blk = some b -> w.heap.size <= b:=fun b hb=>by
  rcases r4 b hb with q | q
  ·rw [hblk] at q; cases q
  ·exact q
 have hjn : j ≠ nid:=fun e'=>by rw [e',hid] at hoj; cases hoj
 have hsim:=hs.moved (ids:=[j]) (id:=nid) (o':=⟨.deep sh,e,i.size,oj.elems⟩) (w':=w') (h':=⟨v',(hdr j).fp⟩) r3.os r3.tape r3.output r3.size (fun k hk' _=>hall k hk')
  (fun _ o ho=>by rw [hid] at ho; cases ho) ?_ ?_
 ·refine ⟨v',w',_,?_,hsim,?_⟩
  ·simp [execOp,resolve,invoke,builtin,hvx,hvy,f1,r1]
  ·unfold VR
   exact ⟨by simp [St.ctx,takeIn],by simp [St.ctx]⟩
 ·intro _
  refine ⟨by show 0 < i.size; rw [<- hszj]; exact hposj,fun z hz'=>by rw [hlensj z hz',hszj],⟨m1,?_,?_⟩,csj,r2,hcsj,CellsR_deep (sh:=sh) rfl ?_⟩
  ·intro b hb hb'
   have h1:=hnew b hb
   have h2 : b < w.heap.size:=(m3 b hb').2
   omega
  ·intro b hb
   exact ⟨(m3 b hb).1,Nat.lt_of_lt_of_le (m3 b hb).2 r3.size⟩
  ·show TEs w' i.size sh oj.elems csj (hdr j).fp
   have htj':=TEs.mono (w':=w') _ _ _ _ _ (fun b hb=>hall b (m3 b hb).2) htj
   rw [hszj] at htj'
   exact htj'
 ·intro b hb
  rcases hb with hb | hb
  ·exact .inr (.inr (hnew b hb))
  ·exact .inr (.inl ⟨j,oj,by simp [inL_mem],hoj,.inr hb⟩)
theorem ok_append {x y : Operand} {T : TypeId} {args : Array Operand} {tys : Array TypeId} {nid : Nat} (ha : args.toList = [x,y]) (hty : tys.toList = [T,T]) (h : appA P T (s.val x) (s.val y) s nid dst K) :
  OpOk P ⟨dst,.call ⟨.builtin .append,args,tys⟩,type,pos,after,guard⟩ s K:=by
 have ha' : args = #[x,y]:=by rw [<- ha]
 have ht' : tys = #[T,T]:=by rw [<- hty]
 subst ha' ht'
 unfold appA at h
 cases he : elemOf? P T with
 | none=>simp [he] at h
 | some e =>
  have hu:=elemOf?_some he
  cases hi : P.info? e with
  | none=>simp [he,hi] at h
  | some i =>
   simp only [he,hi] at h
   generalize hxv : s.val x = xv at h
   cases xv <;> try (exact h.elim)
   case own id =>
    cases ho : s.objs id with
    | none=>simp [ho] at h
    | some o =>
     simp only [ho] at h
     split at h
     ·exact h.elim
     ·rename_i sh hk
      exact AppD_ok hxv ho hk hu hi h
     rename_i hk
     cases hy : elemsOf s (s.val y) with
     | none=>simp [hy] at h
     | some ys =>
      simp only [hy] at h
      obtain ⟨⟨hbox,hoty,hesz,hne,hz0,hzs⟩,hn,hone,⟨hm,hby⟩,hk⟩:=h
      rw [forceS_eq] at hk
      refine ok_value hk fun F w0 gv a w hdr hs=>?_
      obtain ⟨z,hz⟩:=Option.isSome_iff_exists.1 hz0
      have hzs' : z.cells.size = i.size:=by simpa [hz] using hzs
      have hvx:=hs.val x
      rw [hxv] at hvx
      unfold VR at hvx
      obtain ⟨_,hvx⟩:=hvx
      replace hvx : a.eval x = (hdr id).v:=hvx
      obtain ⟨hpos,hlens,_,cs,hrow,hcs,hcl⟩:=hs.objs id o ho
      have hlr:=(hcl.slc hbox).1
      obtain ⟨base,cap,news,f1,f2,f3⟩:=appArg hs (hs.val y) hy hn
      have hnl : news.length = ys.length * o.esz:=by rw [<- f2.length,flatten_length i.size ys hn,hesz]
      have hones:=onesOf (c:=s.ctx F w hdr) hs.hdrOne f2 hone
      have hx3 : (ys.length = 0 /\ base = none) \/ ∃ ad,base = some ad /\ ∀ j u,news[j]? = some u -> w.cell? (ad.add j) = some u:=by
       rcases f3 with ⟨q1,q2⟩ | q
       ·exact .inl ⟨by rw [q1]; rfl,q2⟩
       ·exact .inr q
      obtain ⟨v',w',r1,r2,r3,r4⟩:=run_append (P:=P) (w:=w) hrow (t:=T) (ty:=type) (by rw [hoty]; exact hu) (by rw [hoty]; exact hi) hz hesz.symm (by rw [hesz]; exact hzs') (fun b hb=>w0.up b (Nat.le_trans hs.below.size hb)) (base:=base) (c:=cap) hnl hx3 hones hm hby
      have hsim:=hs.appended ho hbox hlr hcs (fun z hz=>by rw [hesz]; exact hn z hz) f2 hones (v':=v') (by simpa using r2) r3 r4
      refine ⟨v',w',_,?_,hsim,?_⟩
      ·simp [execOp,resolve,invoke,builtin,hvx,f1,r1]
      ·unfold VR
       exact ⟨by simp [St.ctx,turned],by simp [St.ctx]⟩
   case nil =>
    cases hj : deepId s (s.val y) with
    | some j =>
     simp only [hj] at h
     exact AppN_ok hxv hj hu hi h
    | none =>
    simp only [hj] at h
    cases hy : elemsOf s (s.val y) with
    | none=>simp [hy] at h
    | some ys =>
     simp only [hy] at h
     cases hid : s.objs nid with
     | some _=>simp [hid] at h
     | none =>
      simp only [hid] at h
      obtain ⟨⟨hpos,hz0,hzs⟩,hn,hone,⟨hm,hby⟩,hk⟩:=h
      rw [forceS_eq] at hk
      refine ok_value hk fun F w0 gv a w hdr hs=>?_
      obtain ⟨z,hz⟩:=Option.isSome_iff_exists.1 hz0
      have hzs' : z.cells.size = i.size:=by simpa [hz] using hzs
      have hvx:=hs.val x
      rw [hxv] at hvx
      unfold VR at hvx
      obtain ⟨b0,hvx⟩:=hvx
      obtain ⟨base,cap,news,f1,f2,f3⟩:=appArg hs (hs.val y) hy hn
      have hnl : news.length = ys.length * i.size:=by rw [<- f2.length,flatten_length i.size ys hn]
      have hones:=onesOf (c:=s.ctx F w hdr) hs.hdrOne f2 hone
      have hx3 : (ys.length = 0 /\ base = none) \/ ∃ ad,base = some ad /\ ∀ j u,news[j]? = some u -> w.cell? (ad.add j) = some u:=by
       rcases f3 with ⟨q1,q2⟩ | q
       ·exact .inl ⟨by rw [q1]; rfl,q2⟩
       ·exact .inr q
      obtain ⟨v',w',r1,r2,r3,r4⟩:=run_append (P:=P) (w:=w) (N:=fun b=>w.heap.size <= b) (e:=e) (size:=i.size) (v:=.slice b0 0 0) (n:=0) (xs:=[]) ⟨by simp,.inl ⟨b0,rfl,rfl⟩⟩ (t:=T) (ty:=type) hu hi hz rfl hzs' (fun b hb=>hb) (base:=base) (c:=cap) hnl hx3 hones (by simpa using hm) (by simpa using hby)
      have hblk : Value.blk (.slice b0 0 0) = none:=blk_zero
      rw [hblk] at r3
      have hbel : Below w.heap.size w w':=⟨r3.os,r3.tape,r3.output,r3.size,fun k hk=>r3.block k hk (by simp)⟩
      simp only [Nat.zero_add,List.nil_append] at r2
      have hne : ∀ j oj,s.objs j = some oj -> j ≠ nid:=fun j oj hj e=>by rw [e,hid] at hj; cases hj
      have hro : ∀ b,roOf F w hdr s.objs b -> roOf F w' (fun j=>if j = nid then (⟨v',[]⟩ : Hdr) else hdr j) (fun j=>if j = nid then some ⟨.slc,e,i.size,ys⟩ else s.objs j) b:=by
       intro b ⟨k0,k1,k2⟩
       refine ⟨k0,Nat.lt_of_lt_of_le k1 r3.size,fun j oj hj ej=>?_⟩
       by_cases hx : j = nid
       ·simp only [hx,if_true] at ej
        rcases ej with ej | ej
        ·rcases r4 b ej with q | q
         ·rw [hblk] at q; cases q
         ·omega
        ·cases ej
       ·simp only [hx,if_false] at hj ej
        exact k2 j oj hj ej
      have hcell : ∀ k j,roOf F w hdr s.objs k -> w'.cell? ⟨k,j,none⟩ = w.cell? ⟨k,j,none⟩:=fun k j hk=>hbel.cell (p:=⟨k,j,none⟩) hk.2.1
      have hlr:=LR.mono hcell hro _ _ f2
      refine ⟨v',w',_,?_,hs.laid (o:=⟨.slc,e,i.size,ys⟩) (v:=⟨v',[]⟩) hid hbel ⟨hpos,hn,nd_nil,news,r2,hones,CellsR_slc rfl hlr⟩,?_⟩
      ·simp [execOp,resolve,invoke,builtin,hvx,f1,r1]
      ·unfold VR
       exact ⟨by simp [addSlc,St.ctx],by simp [St.ctx]⟩
end
end Go.Ab
