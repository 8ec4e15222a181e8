/-
  That each operation does what is said of it: stores, slices made, pieces, lengths, conversions.
  No condition: lemmas over any program.
-/
import Derived.Test.YtjjjalcmcifncaaGreatAb10e
namespace Go.Ab
open Go.RowKit
section
variable {F : Nat -> Prop} {w0 : Base} {gv : List Value} {a : Act} {w : World} {hdr : Nat -> Hdr}
theorem frzIds_ok : ∀ (ids : List Nat) (s : St),Sim F w0 gv s a w hdr -> Sim F w0 gv (frzIds s ids) a w hdr /\
  ∀ i o',(frzIds s ids).objs i = some o' -> ∃ o,s.objs i = some o /\ o'.kind = o.kind /\ (o'.box = false -> i ∉ ids /\ o' = o)
 | [],s,h=>⟨h,fun i o' ho=>⟨o',ho,rfl,fun _=>⟨by simp,rfl⟩⟩⟩
 | id :: ids,s,h=>by
  simp only [frzIds]
  cases ho : s.objs id with
  | none =>
   simp only
   obtain ⟨h1,h2⟩:=frzIds_ok ids s h
   refine ⟨h1,fun i o' hi=>?_⟩
   obtain ⟨o,k1,k2,k3⟩:=h2 i o' hi
   refine ⟨o,k1,k2,fun hb=>⟨?_,(k3 hb).2⟩⟩
   simp only [List.mem_cons,not_or]
   exact ⟨(fun e=>by rw [e,ho] at k1; cases k1),(k3 hb).1⟩
  | some ob =>
   simp only
   by_cases hbx : ob.box = true
   ·simp only [hbx,if_true]
    obtain ⟨h1,h2⟩:=frzIds_ok ids s h
    refine ⟨h1,fun i o' hi=>?_⟩
    obtain ⟨o,k1,k2,k3⟩:=h2 i o' hi
    refine ⟨o,k1,k2,fun hb=>⟨?_,(k3 hb).2⟩⟩
    simp only [List.mem_cons,not_or]
    exact ⟨(fun e=>by rw [e,ho] at k1; cases k1; have hb':=hb; unfold AObj.box at hb' hbx; rw [k2] at hb'; rw [hb'] at hbx; cases hbx),(k3 hb).1⟩
   ·have hbf : ob.box = false:=by simpa using hbx
    simp only [hbf,Bool.false_eq_true,if_false]
    obtain ⟨h1,h2⟩:=frzIds_ok ids _ (h.freeze ho hbf)
    refine ⟨h1,fun i o' hi=>?_⟩
    obtain ⟨o,k1,k2,k3⟩:=h2 i o' hi
    by_cases e : i = id
    ·subst e; simp [turned] at k1
    ·simp only [turned,e,if_false] at k1
     cases hs : s.objs i with
     | none=>simp [hs] at k1
     | some o1 =>
      have e1 : o = subO (frzO id ob.elems) (killP id) (killC id) o1:=by simpa [hs] using k1.symm
      have hb1 : o.kind = o1.kind:=by rw [e1]; exact (subO_esz _ _ _ o1).2.2.1
      refine ⟨o1,rfl,by rw [k2,hb1],fun hb=>⟨?_,?_⟩⟩
      ·simp only [List.mem_cons,not_or]
       exact ⟨e,(k3 hb).1⟩
      ·have hb2 : o1.box = false:=by unfold AObj.box at hb ⊢; rw [<- hb1,<- k2]; exact hb
       rw [(k3 hb).2,e1]
       unfold subO
       cases hk1 : o1.kind with
       | box=>unfold AObj.box at hb2; rw [hk1] at hb2; cases hb2
       | slc=>rfl
       | deep sh=>rfl
theorem mem_ownsOf : ∀ (cs : List AV) (id : Nat),.own id ∈ cs -> id ∈ ownsOf cs
 | [],_,h=>by simp at h
 | c :: cs,id,h=>by
  simp only [List.mem_cons] at h
  rcases h with h | h
  ·subst h; simp [ownsOf]
  ·have:=mem_ownsOf cs id h
   cases c <;> simp [ownsOf,this]
def AV.inner : AV -> Bool
 | .cel _ _ _ _=>true
 | .prt _ _ _ _=>true
 | _=>false
theorem frz_vals {s : St} (h : Sim F w0 gv s a w hdr) (ids : List Nat) : ∀ (cs : List AV) (vs : List Value),(∀ id,.own id ∈ cs -> id ∈ ids) -> (∀ q,AV.inner q = true -> q ∈ cs -> False) -> VL (s.ctx F w hdr) cs vs -> VL ((frzIds s ids).ctx F w hdr) (cs.map (rf0 s)) vs
 | [],[],_,_,_=>VL.nil
 | c :: cs,v :: vs,hm,hm2,hv=>by
  unfold VL at hv
  obtain ⟨h1,h2⟩:=frzIds_ok ids s h
  have hro : ∀ b,roOf F w hdr s.objs b -> roOf F w hdr (frzIds s ids).objs b:=by
   intro b ⟨k0,k1,k2⟩
   refine ⟨k0,k1,fun i oi hi=>?_⟩
   obtain ⟨o,q1,_⟩:=h2 i oi hi
   exact k2 i o q1
  refine VL.cons ?_ (frz_vals h ids cs vs (fun id hid=>hm id (by simp [hid])) (fun q hq hid=>hm2 q hq (by simp [hid])) hv.2)
  have hRR : ∀ x u,RR w (roOf F w hdr s.objs) x u -> VR ((frzIds s ids).ctx F w hdr) x u:=fun x u hx=>RR.value (c:=(frzIds s ids).ctx F w hdr) x u (RR.mono (fun _ _ _=>rfl) hro x u hx)
  cases c <;> simp only [rf0]
  case any=>unfold VR; trivial
  case ptr=>unfold VR; trivial
  case agg=>unfold VR; trivial
  case tup=>unfold VR; trivial
  case fn=>unfold VR; trivial
  case rp=>have:=hv.1; unfold VR at this; exact hRR _ _ this
  case cel id' idx off xs=>exact (hm2 (.cel id' idx off xs) rfl (by simp)).elim
  case prt id' lo n cp=>exact (hm2 (.prt id' lo n cp) rfl (by simp)).elim
  case own id =>
   cases ho : s.objs id with
   | none=>unfold VR; trivial
   | some o =>
    simp only
    by_cases hb : o.box = true
    ·simp only [hb,if_true]; unfold VR; trivial
    ·have hbf : o.box = false:=by simpa using hb
     simp only [hbf]
     have hvo:=hv.1
     unfold VR at hvo
     obtain ⟨_,hvo⟩:=hvo
     replace hvo : v = (hdr id).v:=hvo
     subst hvo
     unfold VR
     refine own_reads (h.objs id o ho) hbf _ hro (fun b hb=>?_)
     refine ⟨h.free b (h.ge ho hb).1,(h.ge ho hb).2,fun i oi hi e=>?_⟩
     obtain ⟨oj,q1,q2,q3⟩:=h2 i oi hi
     have ei : i = id:=h.dis i id oj o b q1 ho e hb
     subst ei
     rw [ho] at q1
     cases q1
     have : oi.box = false:=by unfold AObj.box at hbf ⊢; rw [q2]; exact hbf
     exact (q3 this).1 (hm i (by simp))
  all_goals exact hRR _ _ (hv.1.readOnly rfl)
 | [],_ :: _,_,_,hv=>by unfold VL at hv; exact hv.elim
 | _ :: _,[],_,_,hv=>by unfold VL at hv; exact hv.elim
theorem frzL_ok {s : St} (h : Sim F w0 gv s a w hdr) {cs : List AV} {vs : List Value} (hv : VL (s.ctx F w hdr) cs vs) (hc : ∀ q,AV.inner q = true -> q ∈ cs -> False) :
  Sim F w0 gv (frzL s cs).1 a w hdr /\ VL ((frzL s cs).1.ctx F w hdr) (frzL s cs).2 vs :=
 ⟨(frzIds_ok (ownsOf cs) s h).1,frz_vals h (ownsOf cs) cs vs (mem_ownsOf cs) hc hv⟩
theorem one_noCel {cs : List AV} (h : cs.all AV.one = true) : ∀ q,AV.inner q = true -> q ∈ cs -> False:=fun q hq hm=>by
 have:=List.all_eq_true.1 h _ hm
 cases q <;> simp [AV.one,AV.inner] at this hq
theorem cells?_one {x : AV} {cs : List AV} (h : x.cells? = some cs) : cs.all AV.one = true:=by
 unfold AV.cells? at h
 split at h
 ·split at h
  ·cases h; assumption
  ·cases h
 ·split at h
  ·rename_i h1; cases h; simp [h1]
  ·cases h
end
section
variable {P : Program} {s : St} {K : St -> Prop} {dst : Option Tmp} {type : TypeId} {pos : String} {after : Array Edge} {guard : Option (Nat × Bool)}
theorem sizeOf?_info {T : TypeId} {n : Nat} (h : sizeOf? P T = some n) : ∃ i,P.info? T = some i /\ i.size = n:=by
 unfold sizeOf? at h
 cases hi : P.info? T with
 | none=>simp [hi] at h
 | some i=>exact ⟨i,rfl,by simpa [hi] using h⟩
theorem ptr_at {F : Nat -> Prop} {w0 : Base} {gv : List Value} {a : Act} {w : World} {hdr : Nat -> Hdr} {s1 : St} (hs : Sim F w0 gv s1 a w hdr) {x : Operand} {id idx off : Nat} (hx : s1.val x = .ptr id idx off) {ob : AObj} (ho : s1.objs id = some ob) :
  ∃ b,(hdr id).blk = some b /\ a.eval x = .pointer (some ⟨b,idx * ob.esz + off,none⟩):=by
 have h:=hs.val x
 rw [hx] at h
 unfold VR at h
 obtain ⟨o,b,h1,h2,h3⟩:=h
 replace h1 : s1.objs id = some o:=h1
 rw [ho] at h1
 cases h1
 exact ⟨b,h2,h3⟩
theorem ok_storeBox {T : TypeId} {x y : Operand} {id idx off n : Nat} {ob : AObj} {cs e : List AV} (hx : s.val x = .ptr id idx off) (ho : s.objs id = some ob) (hc : (s.val y).cells? = some cs) (hn : sizeOf? P T = some n) (hbox : ob.kind = .box)
  (he : ob.elems[idx]? = some e) (hf : cs.length = n /\ off + n <= ob.esz) (h : K { s with objs:=fun i=>if i = id then some { ob with elems:=ob.elems.set idx (splice e off cs) } else s.objs i }) :
  OpOk P ⟨none,.store T x y,type,pos,after,guard⟩ s K :=
 ok_skip rfl h fun F w0 gv a w hdr hs=>by
  obtain ⟨e1,e2⟩:=cells?_ok hs.hdrOne (hs.val y) hc
  obtain ⟨b,hb,hp⟩:=ptr_at hs hx ho
  obtain ⟨w',hr,hs'⟩:=hs.store (off:=off) ho he e1 e2 (by omega) (.inl hbox) hb
  obtain ⟨i,hi,hsz⟩:=sizeOf?_info hn
  have hl : cs.length = (a.eval y).cells.size:=by simpa using e1.length
  refine ⟨w',hdr,?_,hs'⟩
  simp [execOp,Instr.storeAt,Instr.sureAddr,hp,storeVar,sizeOf,typeInfo,hi,show (a.eval y).cells.size = i.size by omega,hr P]
theorem ok_storeSlc {T : TypeId} {x y : Operand} {id idx off n : Nat} {ob' : AObj} {cs e : List AV} (hx : s.val x = .ptr id idx off) (hc : (s.val y).cells? = some cs) (hn : sizeOf? P T = some n)
  (ho : (frzL s cs).1.objs id = some ob') (he : ob'.elems[idx]? = some e) (hf : ob'.kind = .slc /\ cs.length = n /\ off + n <= ob'.esz /\ (frzL s cs).2.all AV.plain = true)
  (h : K { (frzL s cs).1 with objs:=fun i=>if i = id then some { ob' with elems:=ob'.elems.set idx (splice e off (frzL s cs).2) } else (frzL s cs).1.objs i }) :
  OpOk P ⟨none,.store T x y,type,pos,after,guard⟩ s K :=
 ok_skip rfl h fun F w0 gv a w hdr hs=>by
  obtain ⟨e1,e2⟩:=cells?_ok hs.hdrOne (hs.val y) hc
  obtain ⟨hs1,hv1⟩:=frzL_ok hs e1 (one_noCel (cells?_one hc))
  obtain ⟨o0,q1,q2,q3⟩:=(frzIds_ok (ownsOf cs) s hs).2 id ob' ho
  have hoo : s.objs id = some ob':=by rw [q1,(q3 (kindBox hf.1)).2]
  obtain ⟨b,hb,hp⟩:=ptr_at hs hx hoo
  have hlen : (frzL s cs).2.length = cs.length:=by simp [frzL]
  obtain ⟨w',hr,hs'⟩:=hs1.store (off:=off) ho he hv1 e2 (by omega) (.inr ⟨hf.1,hf.2.2.2⟩) hb
  obtain ⟨i,hi,hsz⟩:=sizeOf?_info hn
  have hl : cs.length = (a.eval y).cells.size:=by simpa using e1.length
  refine ⟨w',hdr,?_,hs'⟩
  simp [execOp,Instr.storeAt,Instr.sureAddr,hp,storeVar,sizeOf,typeInfo,hi,show (a.eval y).cells.size = i.size by omega,hr P]
theorem Sim.keep {F : Nat -> Prop} {w0 : Base} {gv : List Value} {s : St} {a : Act} {w : World} {hdr : Nat -> Hdr} {k : Option (Nat × AV)} (h : Sim F w0 gv s a w hdr) (hk : ∀ t x,k = some (t,x) -> VR (s.ctx F w hdr) x (a.eval (.tmp t))) : Sim F w0 gv (keepC k s) a w hdr:=by
 cases k with
 | none=>exact h
 | some tx =>
  obtain ⟨t,x⟩:=tx
  obtain ⟨e,z,o,n,g⟩:=s
  refine ⟨fun t'=>?_,h.sz,h.defers,h.gh,h.objs,h.dis,h.below,h.free⟩
  show VR _ (upd t x e t') _
  rw [upd_eq]
  by_cases e' : t' = t
  ·subst e'
   simp only [if_true]
   exact hk t' x rfl
  ·simp only [e',if_false]
   exact h.env t'
theorem splice_at {α : Type} {e cs : List α} {off p : Nat} (h : off <= e.length) (hp : p < cs.length) : (splice e off cs)[off + p]? = cs[p]?:=by
 unfold splice
 have h1 : (e.take off).length = off:=by rw [List.length_take]; omega
 rw [List.append_assoc,List.getElem?_append_right (by omega),h1,show off + p - off = p by omega,List.getElem?_append_left hp]
theorem ok_storeD {T : TypeId} {x y : Operand} {id idx off n : Nat} {ob : AObj} {sh : List Shp} {cs : List AV} (hx : s.val x = .ptr id idx off) (ho : s.objs id = some ob) (hk : ob.kind = .deep sh) (hc : (s.val y).cells? = some cs) (hn : sizeOf? P T = some n)
  (hf : cs.length = n /\ off + n <= ob.esz) (h : ∃ e,ob.elems[idx]? = some e /\ StoreD s id idx off ob sh cs e K) : OpOk P ⟨none,.store T x y,type,pos,after,guard⟩ s K:=by
 obtain ⟨e,he,h⟩:=h
 unfold StoreD at h
 obtain ⟨hfit,⟨hni,hdup⟩,k,s2,hkeep,hle,h⟩:=h
 suffices hs : OpOk P ⟨none,.store T x y,type,pos,after,guard⟩ s (fun s1=>s1 = keepC k (takeIn s (ownsOf cs) id { ob with elems:=ob.elems.set idx (splice e off (cs.map (absA s))) })) from
  fun F w0 gv a w hsim next Q hn=>hs F w0 gv a w hsim next Q fun s1 a' w' e1 h1=>hn _ _ _ h (hle F w0 gv a' w' (e1 ▸ h1))
 refine ok_skip rfl rfl fun F w0 gv a w hdr hs=>?_
 obtain ⟨e1,e2⟩:=cells?_ok hs.hdrOne (hs.val y) hc
 obtain ⟨b,hb,hp⟩:=ptr_at hs hx ho
 obtain ⟨i,hi,hsz⟩:=sizeOf?_info hn
 have hl : cs.length = (a.eval y).cells.toList.length:=e1.length
 have hl2 : cs.length = (a.eval y).cells.size:=by simpa using hl
 obtain ⟨hpos,hlens,⟨n1,n2,n3⟩,cs0,hrow,hone,hcl⟩:=hs.objs id ob ho
 have hilt : idx < ob.elems.length:=(List.getElem?_eq_some_iff.1 he).1
 have hidx : idx * ob.esz + ob.esz <= ob.elems.length * ob.esz:=by
  have:=Nat.mul_le_mul_right ob.esz (show idx + 1 <= ob.elems.length by omega)
  simpa [Nat.add_mul] using this
 obtain ⟨w',hrun,hw1,hsz',hos,htp,hou,hrow'⟩:=row_store hrow hb e2 (at':=idx * ob.esz + off) (by omega)
 obtain ⟨S1,Se,S2,q1,q2,q3,q4⟩:=(hcl.deep hk).at he
 obtain ⟨T1,T2',t1,t2,t3⟩:=q2.cut off
 obtain ⟨T2,T3,t4,t5,t6⟩:=t3.cut cs.length
 obtain ⟨Sm,m1,m2,m3⟩:=fitL_ok hs hfit e1 hdup
 have hmid : ∀ j,inL j (ownsOf cs) = true -> j ≠ id:=fun j hj e'=>by rw [e',hni] at hj; cases hj
 have hSm : ∀ p ∈ Sm,¬ (hdr id).has p /\ p < w.heap.size /\ w0.N p:=by
  intro p hp'
  obtain ⟨j,oj,r1,r2,r3⟩:=m3 p hp'
  exact ⟨fun hh=>hmid j r1 (hs.dis j id oj ob p r2 ho r3 hh),(hs.ge r2 r3).2,(hs.ge r2 r3).1⟩
 have hfp : (hdr id).fp = (S1 ++ T1) ++ T2 ++ (T3 ++ S2):=by rw [q1,t1,t4]; simp [List.append_assoc]
 have hkeepF : ∀ p,p ∈ (hdr id).fp -> w'.heap[p]? = w.heap[p]?:=fun p hp'=>hw1 p fun e'=>n2 p (by rw [e']; exact hb) hp'
 have hkeepM : ∀ p,p ∈ Sm -> w'.heap[p]? = w.heap[p]?:=fun p hp'=>hw1 p fun e'=>(hSm p hp').1 (.inl (by rw [e']; exact hb))
 have hcl0 : cs0.length = ob.elems.length * ob.esz:=hrow.1
 have hve : ((cs0.drop (idx * ob.esz)).take ob.esz).length = ob.esz:=by rw [List.length_take,List.length_drop]; omega
 have hTL : TL w' (splice e off (cs.map (absA s))) sh (splice ((cs0.drop (idx * ob.esz)).take ob.esz) off (a.eval y).cells.toList) (T1 ++ Sm ++ T3):=by
  refine TL.splice (by rw [List.length_map]; exact hl) (TL.mono _ _ _ _ (fun p hp'=>hkeepF p (by rw [hfp]; simp [hp'])) t2) ?_ ?_
  ·rw [<- hl]
   exact TL.mono _ _ _ _ hkeepM m1
  ·rw [<- hl]
   have:=TL.mono (w':=w') _ _ _ _ (fun p hp'=>hkeepF p (by rw [hfp]; simp [hp'])) t6
   rw [List.drop_drop,List.drop_drop,List.drop_drop] at this
   exact this
 have hsp : splice cs0 (idx * ob.esz + off) (a.eval y).cells.toList = cs0.take (idx * ob.esz) ++ splice ((cs0.drop (idx * ob.esz)).take ob.esz) off (a.eval y).cells.toList ++ cs0.drop (idx * ob.esz + ob.esz):=(splice_mid (by omega)).symm
 have hel : e.length = ob.esz:=hlens e (mgE he)
 have hsim:=hs.moved (ids:=ownsOf cs) (id:=id) (o':={ ob with elems:=ob.elems.set idx (splice e off (cs.map (absA s))) }) (w':=w') (h':=⟨(hdr id).v,(S1 ++ T1) ++ Sm ++ (T3 ++ S2)⟩) hos htp hou (by rw [hsz']; exact Nat.le_refl _)
  (fun k _ hk'=>hw1 k fun e'=>hk' ob ho (by rw [e']; exact hb)) (fun _ o1 ho1=>by rw [ho] at ho1; cases ho1; exact ⟨rfl,rfl⟩) ?_ ?_
 ·refine ⟨w',_,?_,hsim.keep fun t x ek=>?_⟩
  rotate_left
  ·obtain ⟨j,p,xs,q1,q2,q3,rfl⟩:=hkeep t x ek
   obtain ⟨u,u1,u2⟩:=e1.get p _ q2
   have hv:=hs.env t
   rw [q1] at hv
   unfold VR at hv u2
   have huv : a.eval (.tmp t) = u:=hv.2.trans u2.2.symm
   have hplt : p < (a.eval y).cells.toList.length:=(List.getElem?_eq_some_iff.1 u1).1
   have hc2:=hrow'.cells hb (idx * ob.esz + off + p) u (by rw [splice_at (by omega) hplt]; exact u1)
   rw [Addr.add_lit,Nat.zero_add] at hc2
   unfold VR
   refine ⟨{ ob with elems:=ob.elems.set idx (splice e off (cs.map (absA s))) },b,sh,splice e off (cs.map (absA s)),?_,hk,?_,q3,?_,?_⟩
   ·show (takeIn s (ownsOf cs) id _).objs id = _
    simp [takeIn]
   ·show (ob.elems.set idx _)[idx]? = _
    simp [hilt]
   ·show Hdr.blk (if id = id then _ else _) = _
    rw [if_pos rfl]
    exact hb
   ·show w'.cell? ⟨b,idx * ob.esz + (off + p),none⟩ = _
    rw [huv,<- Nat.add_assoc]
    exact hc2
  have hrunP : (storeCells ⟨b,idx * ob.esz + off,none⟩ (a.eval y).cells.toList).run P w = .ok () w':=hrun P
  simp [execOp,Instr.storeAt,Instr.sureAddr,hp,storeVar,sizeOf,typeInfo,hi,show (a.eval y).cells.size = i.size by omega,hrunP]
 ·intro _
  refine ⟨hpos,?_,⟨?_,?_,?_⟩,splice cs0 (idx * ob.esz + off) (a.eval y).cells.toList,?_,?_,CellsR_deep (sh:=sh) hk ?_⟩
  ·intro x' hx'
   rcases List.mem_or_eq_of_mem_set hx' with hx' | hx'
   ·exact hlens x' hx'
   ·rw [hx',splice_length _ _ _ (by rw [hel,List.length_map]; omega)]; exact hel
  ·rw [hfp] at n1
   exact nodup_mid n1 m2 fun p hp'=>by
    have:=(hSm p hp').1
    constructor
    ·intro hh; exact this (.inr (by rw [hfp]; exact List.mem_append_left _ (List.mem_append_left _ hh)))
    ·intro hh; exact this (.inr (by rw [hfp]; exact List.mem_append_right _ hh))
  ·intro p hp' hh
   rcases List.mem_append.1 hh with hh | hh
   ·rcases List.mem_append.1 hh with hh | hh
    ·exact n2 p hp' (by rw [hfp]; exact List.mem_append_left _ (List.mem_append_left _ hh))
    ·exact (hSm p hh).1 (.inl hp')
   ·exact n2 p hp' (by rw [hfp]; exact List.mem_append_right _ hh)
  ·intro p hh
   show w0.N p /\ p < w'.heap.size
   rw [hsz']
   rcases List.mem_append.1 hh with hh | hh
   ·rcases List.mem_append.1 hh with hh | hh
    ·exact n3 p (by rw [hfp]; exact List.mem_append_left _ (List.mem_append_left _ hh))
    ·exact ⟨(hSm p hh).2.2,(hSm p hh).2.1⟩
   ·exact n3 p (by rw [hfp]; exact List.mem_append_right _ hh)
  ·show OwnR w' w0.N ob.ty ob.esz (hdr id).v (ob.elems.set idx (splice e off (cs.map (absA s)))).length _
   rw [List.length_set]
   exact hrow'
  ·intro u hu
   unfold splice at hu
   simp only [List.mem_append] at hu
   rcases hu with (hu | hu) | hu
   ·exact hone u (List.mem_of_mem_take hu)
   ·exact e2 u hu
   ·exact hone u (List.mem_of_mem_drop hu)
  ·show TEs w' ob.esz sh (ob.elems.set idx (splice e off (cs.map (absA s)))) (splice cs0 (idx * ob.esz + off) (a.eval y).cells.toList) ((S1 ++ T1) ++ Sm ++ (T3 ++ S2))
   rw [hsp]
   have:=TEs.set (w':=w') (esz:=ob.esz) (cells:=sh) (vs:=cs0) hilt (by rw [splice_length _ _ _ (by rw [hve]; omega),hve]) (TEs.mono _ _ _ _ _ (fun p hp'=>hkeepF p (by rw [q1]; simp [hp'])) q3) hTL (TEs.mono _ _ _ _ _ (fun p hp'=>hkeepF p (by rw [q1]; simp [hp'])) q4)
   simpa [List.append_assoc] using this
 ·intro p hp'
  rcases hp' with hp' | hp'
  ·exact .inl ⟨ob,ho,.inl hp'⟩
  ·rcases List.mem_append.1 hp' with hh | hh
   ·rcases List.mem_append.1 hh with hh | hh
    ·exact .inl ⟨ob,ho,.inr (by rw [hfp]; exact List.mem_append_left _ (List.mem_append_left _ hh))⟩
    ·obtain ⟨j,oj,r1,r2,r3⟩:=m3 p hh
     exact .inr (.inl ⟨j,oj,r1,r2,r3⟩)
   ·exact .inl ⟨ob,ho,.inr (by rw [hfp]; exact List.mem_append_right _ hh)⟩
theorem ok_loadCel {T : TypeId} {x : Operand} {id idx off : Nat} {ob : AObj} {sh : List Shp} {e : List AV} {xs : List (List AV)} {d : TypeDesc} (hx : s.val x = .ptr id idx off) (ho : s.objs id = some ob) (hk : ob.kind = .deep sh) (he : ob.elems[idx]? = some e) (hoff : e[off]? = some (.sl xs))
  (hd : P.underlying T = some d) (hg : isAggD d = false) (h : s.putK dst (.cel id idx off xs) K) : OpOk P ⟨dst,.load T x,type,pos,after,guard⟩ s K :=
 ok_pure h fun F w0 gv a w hdr hs=>by
  obtain ⟨b,hb,hp⟩:=ptr_at hs hx ho
  obtain ⟨hpos,hlens,_,cs,hrow,hone,hcl⟩:=hs.objs id ob ho
  obtain ⟨S1,Se,S2,e1,hTL,_,_⟩:=(hcl.deep hk).at he
  obtain ⟨T1,Ta,T2,shc,v',f1,f2,f3,f4,_,_⟩:=hTL.at hoff
  have hlt : off < ob.esz:=by
   have:=hlens e (mgE he)
   have:=(List.getElem?_eq_some_iff.1 hoff).1
   omega
  have f5 : cs[idx * ob.esz + off]? = some v':=by
   rw [List.getElem?_take,if_pos hlt,List.getElem?_drop] at f3
   exact f3
  have hc:=hrow.cells hb _ _ f5
  rw [Addr.add_lit,Nat.zero_add] at hc
  replace hc : w.cell? ⟨b,idx * ob.esz + off,none⟩ = some v':=hc
  refine ⟨v',?_,?_⟩
  ·simp [execOp,Instr.loadAt,Instr.sureAddr,loadVar,run_isAgg hd,hg,hp,hc]
  ·unfold VR
   exact ⟨ob,b,sh,e,ho,hk,he,hoff,hb,hc⟩
theorem chunk_flatten {α : Type} (size : Nat) : ∀ (n : Nat) (l : List α),l.length = n * size -> (chunk size n l).flatten = l /\ (∀ e ∈ chunk size n l,e.length = size) /\ (chunk size n l).length = n
 | 0,l,h=>by
  have : l = []:=List.length_eq_zero_iff.1 (by simpa using h)
  subst this
  simp [chunk]
 | n + 1,l,h=>by
  have h' : l.length = n * size + size:=by rw [h,Nat.add_mul,Nat.one_mul]
  obtain ⟨h1,h2,h3⟩:=chunk_flatten size n (l.drop size) (by rw [List.length_drop]; omega)
  refine ⟨by simp [chunk,h1],?_,by simp [chunk,h3]⟩
  intro e he
  simp only [chunk,List.mem_cons] at he
  rcases he with he | he
  ·rw [he,List.length_take]; omega
  ·exact h2 e he
theorem madeCells_flatten (z : Array Value) (n : Nat) (hz : 0 < z.size) : (madeCells z (n * z.size)).toList = (List.replicate n z.toList).flatten:=by
 apply List.ext_getElem?
 intro j
 have hlen : (List.replicate n z.toList).flatten.length = n * z.size:=by simp
 by_cases hj : j < n * z.size
 ·have hq : j / z.size < n:=(Nat.div_lt_iff_lt_mul hz).2 hj
  have hr : j % z.size < z.size:=Nat.mod_lt _ hz
  have hj2 : j / z.size * z.size + j % z.size = j:=by rw [Nat.mul_comm]; exact Nat.div_add_mod j z.size
  have hg:=flatten_get z.size (List.replicate n z.toList) (fun e he=>by rw [List.eq_of_mem_replicate he]; simp) (j / z.size) z.toList (by simp [hq]) (j % z.size) hr
  rw [hj2] at hg
  rw [hg]
  simp [madeCells,hj,hr]
 ·rw [List.getElem?_eq_none (by simp [madeCells]; omega),List.getElem?_eq_none (by omega)]
theorem VL.replicate {c : Ctx} {z : List AV} {vs : List Value} (h : VL c z vs) : ∀ n,VL c (List.replicate n z).flatten (List.replicate n vs).flatten
 | 0=>by simpa using VL.nil
 | n + 1=>by
  simp only [List.replicate_succ,List.flatten_cons]
  exact h.append (VL.replicate h n)
theorem fillA_length (place : Nat -> Option (Nat × Nat)) : ∀ (parts : List (Nat × AV)) (cells r : List AV),fillA place cells parts = some r -> r.length = cells.length
 | [],cells,r,h=>by simp only [fillA,Option.some.injEq] at h; rw [h]
 | (i,x) :: parts,cells,r,h=>by
  simp only [fillA] at h
  cases hp : place i with
  | none=>simp [hp] at h
  | some os =>
   cases hc : x.cells? with
   | none=>simp [hp,hc] at h
   | some cs =>
    simp only [hp,hc] at h
    split at h
    ·rename_i hcond
     rw [fillA_length place parts _ r h,splice_length _ _ _ (by omega)]
    ·cases h
theorem ofVal1_one (v : Value) : (ofVal1 v).one = true \/ ofVal1 v = .any:=by
 unfold ofVal1
 split <;> simp [AV.one]
theorem fillA_noCel (place : Nat -> Option (Nat × Nat)) : ∀ (parts : List (Nat × AV)) (cells r : List AV),(∀ q,AV.inner q = true -> q ∈ cells -> False) -> fillA place cells parts = some r -> ∀ q,AV.inner q = true -> q ∈ r -> False
 | [],cells,r,hc,h=>by simp only [fillA,Option.some.injEq] at h; rw [<- h]; exact hc
 | (i,x) :: parts,cells,r,hc,h=>by
  simp only [fillA] at h
  split at h
  ·split at h
   ·rename_i cs hcs
    split at h
    ·refine fillA_noCel place parts _ r ?_ h
     intro q hq hm
     unfold splice at hm
     simp only [List.mem_append] at hm
     rcases hm with (hm | hm) | hm
     ·exact hc q hq (List.mem_of_mem_take hm)
     ·exact one_noCel (cells?_one hcs) q hq hm
     ·exact hc q hq (List.mem_of_mem_drop hm)
    ·cases h
   ·cases h
  ·cases h
theorem zeroA_noCel {P : Program} {T : TypeId} {z : List AV} (h : zeroA P T = some z) (n : Nat) : ∀ q,AV.inner q = true -> q ∈ (List.replicate n z).flatten -> False:=by
 intro q hq hm
 simp only [List.mem_flatten,List.mem_replicate] at hm
 obtain ⟨l,⟨_,rfl⟩,hm⟩:=hm
 unfold zeroA at h
 split at h
 ·split at h
  ·cases h
   simp only [List.mem_map] at hm
   obtain ⟨v,_,hv⟩:=hm
   rcases ofVal1_one v with h1 | h1
   ·rw [hv] at h1; cases q <;> simp [AV.one,AV.inner] at h1 hq
   ·rw [hv] at h1; subst h1; cases hq
  ·cases h
 ·cases h
theorem allOnes {c : Ctx} (hh : ∀ id,(c.objs id).isSome = true -> (c.hdr id).v.oneCell' = true) {as : List AV} {vs : List Value} (h : VL c as vs) (ho : as.all AV.plain = true) : ∀ u ∈ vs,u.oneCell' = true :=
 VL.ones hh h (by rw [List.all_eq_true] at ho ⊢; exact fun x hx=>plain_one (ho x hx))
theorem ok_buildSlice {T e : TypeId} {n nid : Nat} {parts : Array (Nat × Operand)} {i : TypeInfo} {z r : List AV} (he : elemOf? P T = some e) (hi : P.info? e = some i) (hz : zeroA P e = some z)
  (hr : fillA (fun j=>some (j * i.size,i.size)) (List.replicate n z).flatten (parts.toList.map fun p=>(p.1,s.val p.2)) = some r)
  (hc : 0 < i.size /\ z.length = i.size /\ n <= 100000 /\ n * i.size <= 16777216 /\ (frzL s r).2.all AV.plain = true /\ (frzL s r).1.objs nid = none)
  (h : (addSlc (frzL s r).1 nid e i.size (chunk i.size n (frzL s r).2)).putK dst (.own nid) K) : OpOk P ⟨dst,.buildSlice T n parts,type,pos,after,guard⟩ s K :=
 ok_value h fun F w0 gv a w hdr hs=>by
  obtain ⟨hpos,hzl,hn,hns,hpl,hid⟩:=hc
  obtain ⟨i',v,e1,e2,e3⟩:=zeroA_ok hz
  rw [hi] at e1
  cases e1
  have hu:=elemOf?_some he
  have hvz : v.cells.size = i.size:=by have:=(e3 (s.ctx F w hdr)).length; rw [<- hzl,this]; simp
  obtain ⟨r',q1,q2⟩:=fillA_ok (c:=s.ctx F w hdr) hs.hdrOne (fun j=>some (j * i.size,i.size)) (parts.toList.map fun p=>(p.1,s.val p.2)) (parts.toList.map fun p=>(p.1,a.eval p.2)) (List.replicate n z).flatten (madeCells v.cells (n * i.size)) r (by simp) (fun j p q hp hq=>by
   simp only [List.getElem?_map,Option.map_eq_some_iff] at hp hq
   obtain ⟨x,f1,rfl⟩:=hp
   obtain ⟨y,f2,rfl⟩:=hq
   rw [f1] at f2
   cases f2
   exact ⟨rfl,hs.val x.2⟩) (by rw [<- hvz,madeCells_flatten _ _ (by omega)]; exact (e3 _).replicate n) hr
  obtain ⟨hs1,hv1⟩:=frzL_ok hs q2 (fillA_noCel _ _ _ _ (zeroA_noCel hz n) hr)
  have hrl : r.length = n * i.size:=by rw [fillA_length _ _ _ _ hr]; simp [hzl]
  have hl2 : (frzL s r).2.length = n * i.size:=by simp [frzL,hrl]
  obtain ⟨c1,c2,c3⟩:=chunk_flatten i.size n (frzL s r).2 hl2
  have hones:=allOnes (c:=(frzL s r).1.ctx F w hdr) hs1.hdrOne hv1 hpl
  have hb:=hs1.newBlock (k:=.slc) (ty:=e) (esz:=i.size) (es:=chunk i.size n (frzL s r).2) (vs:=r'.toList) hid hpos c2 (by rw [c1]; exact hv1) hones (.inr ⟨rfl,by rw [c1]; exact hpl⟩) (by rw [c3]; simp only [maxLen]; omega)
  rw [c3] at hb
  refine ⟨.slice (some ⟨w.heap.size,0,none⟩) n n,_,_,?_,hb,?_⟩
  ·by_cases hz0 : n * i.size = 0
   ·have hn0 : n = 0:=by
     rcases Nat.mul_eq_zero.1 hz0 with h | h
     ·exact h
     ·omega
    subst hn0
    have hq1 : Instr.fill (fun j=>some (j * i.size,i.size)) #[] (parts.toList.map fun p=>(p.1,a.eval p.2)) = some r':=by
     rw [<- q1]
     congr 1
     simp [madeCells]
    simp [execOp,Instr.buildSlice,run_underlying hu,sizeOf,typeInfo,hi,hq1,newRow,Array.range_zero']
   ·have hrun:=run_buildSlice (P:=P) w T e n (parts.map fun p=>(p.1,a.eval p.2)) r' i v hu hi e2 (by omega) hz0 (by simpa [madeCells] using q1)
    simp [execOp,hrun]
  ·unfold VR
   exact ⟨by simp [addSlc,St.ctx],by simp [St.ctx]⟩
theorem ok_buildD0 {T e : TypeId} {n nid : Nat} {parts : Array (Nat × Operand)} {i : TypeInfo} {z r : List AV} {sh : List Shp} (he : elemOf? P T = some e) (hi : P.info? e = some i) (hz : zeroA P e = some z)
  (hr : fillA (fun j=>some (j * i.size,i.size)) (List.replicate n z).flatten (parts.toList.map fun p=>(p.1,s.val p.2)) = some r) (hid : s.objs nid = none) (hc : 0 < i.size /\ z.length = i.size /\ i.size <= 16777216) (hn1 : n = 1)
  (hfd : fitL s sh r = true /\ dupL (ownsOf r) = false /\ inL nid (ownsOf r) = false) (h : forceS (takeIn s (ownsOf r) nid ⟨.deep sh,e,i.size,[r.map (absA s)]⟩) fun s'=>s'.putK dst (.own nid) K) : OpOk P ⟨dst,.buildSlice T n parts,type,pos,after,guard⟩ s K:=by
 subst hn1
 obtain ⟨hfit,hdup,hni⟩:=hfd
 rw [forceS_eq] at h
 refine ok_value h fun F w0 gv a w hdr hs=>?_
 obtain ⟨hpos,hzl,hmaxs⟩:=hc
 obtain ⟨i',v,e1,e2,e3⟩:=zeroA_ok hz
 rw [hi] at e1
 cases e1
 have hu:=elemOf?_some he
 have hvz : v.cells.size = i.size:=by have:=(e3 (s.ctx F w hdr)).length; rw [<- hzl,this]; simp
 obtain ⟨r',q1,q2⟩:=fillA_ok (c:=s.ctx F w hdr) hs.hdrOne (fun j=>some (j * i.size,i.size)) (parts.toList.map fun p=>(p.1,s.val p.2)) (parts.toList.map fun p=>(p.1,a.eval p.2)) (List.replicate 1 z).flatten (madeCells v.cells (1 * i.size)) r (by simp) (fun j p q hp hq=>by
  simp only [List.getElem?_map,Option.map_eq_some_iff] at hp hq
  obtain ⟨x,f1,rfl⟩:=hp
  obtain ⟨y,f2,rfl⟩:=hq
  rw [f1] at f2
  cases f2
  exact ⟨rfl,hs.val x.2⟩) (by rw [<- hvz,madeCells_flatten _ _ (by omega)]; exact (e3 _).replicate 1) hr
 obtain ⟨Sm,m1,m2,m3⟩:=fitL_ok hs hfit q2 hdup
 have hrl : r.length = i.size:=by rw [fillA_length _ _ _ _ hr]; simp [hzl]
 have hr'l : r'.toList.length = i.size:=by rw [<- q2.length,hrl]
 have hone : ∀ u ∈ r'.toList,u.oneCell' = true:=by
  have hmo : ∀ (as : List AV) (shs : List Shp) (us : List Value) ,fitL s shs as = true -> VL (s.ctx F w hdr) as us -> ∀ u ∈ us,u.oneCell' = true:=by
   intro as
   induction as with
   | nil=>intro shs us _ hv u hu'; cases us with
    | nil=>cases hu'
    | cons=>unfold VL at hv; exact hv.elim
   | cons c as ih=>intro shs us hf hv u hu'; cases us with
    | nil=>unfold VL at hv; exact hv.elim
    | cons u0 us =>
     cases shs with
     | nil=>simp [fitL] at hf
     | cons sh0 shs =>
      simp only [fitL,baT] at hf
      unfold VL at hv
      rcases List.mem_cons.1 hu' with rfl | hu'
      ·refine hv.1.oneCell ?_ hs.hdrOne
       have hf1:=hf.1
       unfold fitA at hf1
       split at hf1
       ·split at hf1 <;> first | rfl | cases hf1
       ·split at hf1 <;> first | rfl | cases hf1
      ·exact ih shs us hf.2 hv.2 u hu'
  exact hmo r sh _ hfit q2
 have hw' : ∀ k,k < w.heap.size -> (w.alloc (.cells r' e)).heap[k]? = w.heap[k]?:=fun k hk=>(Below.alloc' w _).block k hk
 have hsim:=hs.moved (ids:=ownsOf r) (id:=nid) (o':=⟨.deep sh,e,i.size,[r.map (absA s)]⟩) (w':=w.alloc (.cells r' e)) (h':=⟨.slice (some ⟨w.heap.size,0,none⟩) 1 1,Sm⟩) rfl rfl rfl (by simp)
  (fun k hk _=>hw' k hk) (fun _ o ho=>by rw [hid] at ho; cases ho) ?_ ?_
 ·refine ⟨.slice (some ⟨w.heap.size,0,none⟩) 1 1,_,_,?_,hsim,?_⟩
  ·have hrun:=run_buildSlice (P:=P) w T e 1 (parts.map fun p=>(p.1,a.eval p.2)) r' i v hu hi e2 (by omega) (by omega) (by simpa [madeCells] using q1)
   simp [execOp,hrun]
  ·unfold VR
   exact ⟨by simp [St.ctx,takeIn],by simp [St.ctx]⟩
 ·intro _
  have hlt : ∀ p ∈ Sm,w0.N p /\ p < w.heap.size:=fun p hp=>by
   obtain ⟨j,oj,r1,r2,r3⟩:=m3 p hp
   exact hs.ge r2 r3
  refine ⟨hpos,fun x hx=>by simp at hx; subst hx; rw [List.length_map]; exact hrl,⟨m2,?_,fun p hp=>⟨(hlt p hp).1,by show p < (w.alloc _).heap.size; have:=(hlt p hp).2; simp; omega⟩⟩,r'.toList,?_,hone,CellsR_deep (sh:=sh) rfl ?_⟩
  ·intro p hp hp'
   have h1:=(hlt p hp').2
   simp only [Hdr.blk,Value.blk] at hp
   split at hp
   ·cases hp
   ·cases hp; omega
  ·have:=World.ownsRow_lit (e:=e) (size:=i.size) w r' 1 (Nat.le_refl _) (by simp [maxLen]) (by simpa using hr'l)
   have h2 : OwnR (w.alloc (.cells r' e)) w0.N e i.size (.slice (some ⟨w.heap.size,0,none⟩) 1 1) 1 r'.toList:=OwnR.of_row this (fun b hb=>w0.up b (Nat.le_trans hs.below.size hb)) |> fun h=>by simpa using h
   exact h2
  ·show TEs (w.alloc (.cells r' e)) i.size sh [r.map (absA s)] r'.toList Sm
   unfold TEs
   refine ⟨r'.toList,[],Sm,[],by simp,hr'l,by simp,TL.mono _ _ _ _ (fun p hp=>hw' p (hlt p hp).2) m1,?_⟩
   unfold TEs
   exact ⟨rfl,rfl⟩
 ·intro p hp
  rcases hp with hp | hp
  ·simp only [Hdr.blk,Value.blk] at hp
   split at hp
   ·cases hp
   ·cases hp; exact .inr (.inr (Nat.le_refl _))
  ·exact .inr (.inl (m3 p hp))
theorem ok_buildD {T e : TypeId} {n nid : Nat} {parts : Array (Nat × Operand)} {i : TypeInfo} {z r : List AV} (he : elemOf? P T = some e) (hi : P.info? e = some i) (hz : zeroA P e = some z)
  (hr : fillA (fun j=>some (j * i.size,i.size)) (List.replicate n z).flatten (parts.toList.map fun p=>(p.1,s.val p.2)) = some r) (hid : s.objs nid = none) (hc : 0 < i.size /\ z.length = i.size /\ i.size <= 16777216)
  (h : BuildD s nid e i.size n r dst K) : OpOk P ⟨dst,.buildSlice T n parts,type,pos,after,guard⟩ s K:=by
 unfold BuildD at h
 obtain ⟨l,hp,sh,hn1,hfd,h⟩:=h
 have hval : ∀ x,(promS s l).val x = s.val x:=fun x=>by cases s; rfl
 have h0:=ok_buildD0 (s:=promS s l) (type:=type) (pos:=pos) (after:=after) (guard:=guard) he hi hz (by simp only [hval]; exact hr) (by show (s.objs nid).map _ = none; rw [hid]; rfl) hc hn1 hfd h
 intro F w0 gv a w ⟨hdr,hs⟩ next Q hn
 exact h0 F w0 gv a w ⟨hdr,(hs.prom hp).1⟩ next Q hn
theorem ok_build0 {T e : TypeId} {parts : Array (Nat × Operand)} {i : TypeInfo} {z : List AV} (he : elemOf? P T = some e) (hi : P.info? e = some i) (hz : zeroA P e = some z) (hp : parts.toList = [])
  (h : s.putK dst .nil K) : OpOk P ⟨dst,.buildSlice T 0 parts,type,pos,after,guard⟩ s K :=
 ok_value h fun F w0 gv a w hdr hs=>by
  obtain rfl : parts = #[]:=by
   cases parts
   simp at hp
   subst hp
   rfl
  obtain ⟨i',v,e1,e2,e3⟩:=zeroA_ok hz
  rw [hi] at e1
  cases e1
  have hu:=elemOf?_some he
  have hq1 : Instr.fill (fun j=>some (j * i.size,i.size)) #[] ([] : List (Nat × Value)) = some #[]:=rfl
  refine ⟨.slice (some ⟨w.heap.size,0,none⟩) 0 0,w.alloc (.cells #[] e),hdr,?_,hs.grow (objs':=s.objs) (Below.alloc' w _) (fun id o ho=>⟨ho,rfl⟩) (fun id o ho hn=>by rw [hn] at ho; cases ho) (fun i j o o' b hi hj ni=>by rw [ni] at hi; cases hi),?_⟩
  ·simp [execOp,Instr.buildSlice,run_underlying hu,sizeOf,typeInfo,hi,hq1,newRow,Array.range_zero']
  ·unfold VR
   exact ⟨_,rfl⟩
theorem ok_makeSlice {T e : TypeId} {nid : Nat} {l c : Operand} {i : TypeInfo} {z : List AV} {k k' : IntKind} {n m : Int} (he : elemOf? P T = some e) (hi : P.info? e = some i) (hz : zeroA P e = some z)
  (hl : intA (s.val l) = some (k,n)) (hm : intA (s.val c) = some (k',m)) (hid : s.objs nid = none) (hc : 0 < i.size /\ z.length = i.size /\ z.all AV.plain = true) (hb : 0 <= n /\ m = n /\ n <= 70368744177664 /\ (i.bytes : Int) * n <= 281474976710656)
  (h : (addSlc s nid e i.size (List.replicate n.toNat z)).putK dst (.own nid) K) : OpOk P ⟨dst,.makeSlice T l c,type,pos,after,guard⟩ s K :=
 ok_value h fun F w0 gv a w hdr hs=>by
  obtain ⟨hpos,hzl,hpl⟩:=hc
  obtain ⟨h0,rfl,h1,h2⟩:=hb
  obtain ⟨i',v,e1,e2,e3⟩:=zeroA_ok hz
  rw [hi] at e1
  cases e1
  have hu:=elemOf?_some he
  have hvz : v.cells.size = i.size:=by have:=(e3 (s.ctx F w hdr)).length; rw [<- hzl,this]; simp
  have hall : (List.replicate m.toNat z).flatten.all AV.plain = true:=by
   rw [List.all_eq_true] at hpl ⊢
   intro x hx
   simp only [List.mem_flatten,List.mem_replicate] at hx
   obtain ⟨y,⟨_,rfl⟩,hx⟩:=hx
   exact hpl x hx
  have hv : VL (s.ctx F w hdr) (List.replicate m.toNat z).flatten (madeCells v.cells (m.toNat * i.size)).toList:=by
   rw [<- hvz,madeCells_flatten _ _ (by omega)]
   exact (e3 _).replicate _
  have hnb:=hs.newBlock (k:=.slc) (ty:=e) (esz:=i.size) (es:=List.replicate m.toNat z) (vs:=(madeCells v.cells (m.toNat * i.size)).toList) hid hpos (fun x hx=>by rw [List.eq_of_mem_replicate hx]; exact hzl) hv (allOnes (c:=s.ctx F w hdr) hs.hdrOne hv hall) (.inr ⟨rfl,hall⟩) (by simp only [List.length_replicate,maxLen]; omega)
  simp only [List.length_replicate] at hnb
  have hrun:=run_make (P:=P) w T e i v hu hi e2 k k' m m h0 (Int.le_refl _) h2 (by omega)
  refine ⟨.slice (some ⟨w.heap.size,0,none⟩) m.toNat m.toNat,_,_,?_,hnb,?_⟩
  ·simp [execOp,intA_ok (hs.val l) hl,intA_ok (hs.val c) hm,hrun]
  ·unfold VR
   exact ⟨by simp [addSlc,St.ctx],by simp [St.ctx]⟩
theorem lenA_ok {F : Nat -> Prop} {w0 : Base} {gv : List Value} {a : Act} {w : World} {hdr : Nat -> Hdr} (hs : Sim F w0 gv s a w hdr) {x : AV} {v : Value} (hv : VR (s.ctx F w hdr) x v) {n : Nat} (hn : lenA s x = some n) :
  (∃ l : ByteArray,v = .string l /\ l.size = n) \/ ∃ b c,v = .slice b n c:=by
 cases x <;> simp only [lenA] at hn <;> try (cases hn; done)
 case str l =>
  cases hn
  unfold VR at hv
  exact .inl ⟨_,hv,rfl⟩
 case nil =>
  cases hn
  unfold VR at hv
  obtain ⟨b,hv⟩:=hv
  exact .inr ⟨b,0,hv⟩
 case sl xs =>
  cases hn
  unfold VR RR at hv
  obtain ⟨b,c,hv,_⟩:=hv
  exact .inr ⟨b,c,hv⟩
 case own id =>
  cases ho : s.objs id with
  | none=>simp [ho] at hn
  | some o =>
   simp only [ho] at hn
   split at hn
   ·cases hn
   ·cases hn
    unfold VR at hv
    obtain ⟨_,hv⟩:=hv
    replace hv : v = (hdr id).v:=hv
    obtain ⟨_,_,_,cs,hrow,_⟩:=hs.objs id o ho
    rcases hrow.2 with ⟨b,e1,e2⟩ | ⟨g,cap,cur,e1,_⟩
    ·exact .inr ⟨b,0,by rw [hv,e1,e2]⟩
    ·exact .inr ⟨_,cap,by rw [hv,e1]⟩
 case cel id idx off xs =>
  cases hn
  have h1:=hs.celRead hv
  unfold RR at h1
  obtain ⟨b,c,h1,_⟩:=h1
  exact .inr ⟨b,c,h1⟩
theorem ok_len {x : Operand} {T : TypeId} {args : Array Operand} {tys : Array TypeId} {n : Nat} (ha : args.toList = [x]) (hty : tys.toList = [T]) (hT : lenT P T (s.val x) = true) (hn : lenA s (s.val x) = some n) (h : s.putK dst (.int .i64 (n : Int)) K) :
  OpOk P ⟨dst,.call ⟨.builtin .len,args,tys⟩,type,pos,after,guard⟩ s K:=by
 have ha' : args = #[x]:=by rw [<- ha]
 have ht' : tys = #[T]:=by rw [<- hty]
 subst ha' ht'
 refine ok_pure h fun F w0 gv a w hdr hs=>⟨.int .i64 (n : Int),?_,by unfold VR; rfl⟩
 unfold lenT at hT
 have hl:=lenA_ok hs (hs.val x) hn
 have hv:=hs.val x
 cases hu : P.underlying T with
 | none=>simp [hu] at hT
 | some d =>
  cases d <;> simp only [hu] at hT <;> try (cases hT; done)
  case string =>
   cases hx : s.val x <;> rw [hx] at hT <;> simp [AV.isStr] at hT
   rw [hx] at hv
   unfold VR at hv
   rcases hl with ⟨l,e1,e2⟩ | ⟨b,c,e1⟩
   ·subst e2
    simp [execOp,resolve,invoke,builtin,Builtin.len_,e1,run_underlying hu,goInt]
   ·rw [hv] at e1; cases e1
  case slice e =>
   rcases hl with ⟨l,e1,e2⟩ | ⟨b,c,e1⟩
   ·exfalso
    cases hx : s.val x <;> rw [hx] at hT hn hv <;> simp [AV.isStr] at hT <;> simp only [lenA] at hn <;> try (cases hn; done)
    case nil=>unfold VR at hv; obtain ⟨_,hv⟩:=hv; rw [hv] at e1; cases e1
    case sl=>unfold VR RR at hv; obtain ⟨_,_,hv,_⟩:=hv; rw [hv] at e1; cases e1
    case own id =>
     unfold VR at hv
     obtain ⟨h1,hv⟩:=hv
     replace hv : a.eval x = (hdr id).v:=hv
     obtain ⟨o,ho⟩:=Option.isSome_iff_exists.1 h1
     obtain ⟨_,_,_,cs,hrow,_⟩:=hs.objs id o ho
     rcases hrow.2 with ⟨b,q1,q2⟩ | ⟨g,cap,cur,q1,_⟩ <;> rw [hv,q1] at e1 <;> cases e1
    case cel id idx off xs =>
     have h1:=hs.celRead hv
     unfold RR at h1
     obtain ⟨b,c,h1,_⟩:=h1
     rw [h1] at e1
     cases e1
   ·simp [execOp,resolve,invoke,builtin,Builtin.len_,e1,run_underlying hu,goInt]
theorem int_ok {c : Ctx} {x : AV} {v : Value} {k : IntKind} {n : Int} (h : VR c x v) (hx : x = .int k n) : v = .int k n:=by
 subst hx
 unfold VR at h
 exact h
theorem ok_max2 {x y : Operand} {args : Array Operand} {tys : Array TypeId} {k k' : IntKind} {m n : Int} (ha : args.toList = [x,y]) (hx : s.val x = .int k m) (hy : s.val y = .int k' n) (h : s.putK dst (.int k (if n > m then n else m)) K) :
  OpOk P ⟨dst,.call ⟨.builtin .max,args,tys⟩,type,pos,after,guard⟩ s K:=by
 have ha' : args = #[x,y]:=by rw [<- ha]
 subst ha'
 refine ok_pure h fun F w0 gv a w hdr hs=>⟨_,?_,by unfold VR; rfl⟩
 simp [execOp,resolve,invoke,builtin,Builtin.max_,Builtin.max2,int_ok (hs.val x) hx,int_ok (hs.val y) hy]
theorem ok_max3 {x y z : Operand} {args : Array Operand} {tys : Array TypeId} {k k' k'' : IntKind} {m n l : Int} (ha : args.toList = [x,y,z]) (hx : s.val x = .int k m) (hy : s.val y = .int k' n) (hz : s.val z = .int k'' l)
  (h : s.putK dst (.int k (if l > (if n > m then n else m) then l else (if n > m then n else m))) K) :
  OpOk P ⟨dst,.call ⟨.builtin .max,args,tys⟩,type,pos,after,guard⟩ s K:=by
 have ha' : args = #[x,y,z]:=by rw [<- ha]
 subst ha'
 refine ok_pure h fun F w0 gv a w hdr hs=>⟨_,?_,by unfold VR; rfl⟩
 simp [execOp,resolve,invoke,builtin,Builtin.max_,Builtin.max2,int_ok (hs.val x) hx,int_ok (hs.val y) hy,int_ok (hs.val z) hz]
theorem ok_min2 {x y : Operand} {args : Array Operand} {tys : Array TypeId} {k k' : IntKind} {m n : Int} (ha : args.toList = [x,y]) (hx : s.val x = .int k m) (hy : s.val y = .int k' n) (h : s.putK dst (.int k (if n < m then n else m)) K) :
  OpOk P ⟨dst,.call ⟨.builtin .min,args,tys⟩,type,pos,after,guard⟩ s K:=by
 have ha' : args = #[x,y]:=by rw [<- ha]
 subst ha'
 refine ok_pure h fun F w0 gv a w hdr hs=>⟨_,?_,by unfold VR; rfl⟩
 simp [execOp,resolve,invoke,builtin,Builtin.min_,Builtin.min2,int_ok (hs.val x) hx,int_ok (hs.val y) hy]
theorem ok_index {T : TypeId} {x i : Operand} {l : List UInt8} {k : IntKind} {n : Int} (hT : P.underlying T = some .string) (hx : s.val x = .str l) (hi : intA (s.val i) = some (k,n)) (hb : 0 <= n /\ n < l.length) (h : s.putK dst (.int .u8 ((l.getD n.toNat 0).toNat : Int)) K) :
  OpOk P ⟨dst,.index T x i,type,pos,after,guard⟩ s K :=
 ok_pure h fun F w0 gv a w hdr hs=>by
  have h1:=hs.val x
  rw [hx] at h1
  unfold VR at h1
  have hlt : n.toNat < l.length:=by omega
  refine ⟨.int .u8 ((l.getD n.toNat 0).toNat : Int),?_,by unfold VR; rfl⟩
  have hg : (⟨l.toArray⟩ : ByteArray)[n.toNat]? = some (l.getD n.toNat 0):=by
   have hs0 : n.toNat < (⟨l.toArray⟩ : ByteArray).size:=hlt
   rw [getElem?_pos (⟨l.toArray⟩ : ByteArray) n.toNat hs0]
   congr 1
   show l.toArray[n.toNat] = _
   simp [List.getD_eq_getElem?_getD,hlt]
  simp [execOp,Instr.index,asIntOf,intA_ok (hs.val i) hi,h1,run_underlying hT,hb.1,hg]
theorem ok_convInt {S T : TypeId} {x : Operand} {d : TypeDesc} {k k' : IntKind} {n : Int} (hS : P.underlying S = some d) (hT : P.underlying T = some (.int k)) (hx : s.val x = .int k' n) (h : s.putK dst (.int k (k.wrap n)) K) :
  OpOk P ⟨dst,.convert S T x,type,pos,after,guard⟩ s K :=
 ok_pure h fun F w0 gv a w hdr hs=>⟨.int k (k.wrap n),by simp [execOp,convert,run_underlying hS,run_underlying hT,int_ok (hs.val x) hx,Conv.intToInt],by unfold VR; rfl⟩
theorem ok_convStr {S T : TypeId} {x : Operand} {d : TypeDesc} {l : List UInt8} (hS : P.underlying S = some d) (hT : P.underlying T = some .string) (hx : s.val x = .str l) (h : s.putK dst (.str l) K) :
  OpOk P ⟨dst,.convert S T x,type,pos,after,guard⟩ s K :=
 ok_pure h fun F w0 gv a w hdr hs=>by
  have h1:=hs.val x
  rw [hx] at h1
  have h2:=h1
  unfold VR at h1
  refine ⟨a.eval x,?_,h2⟩
  rw [h1]
  cases d <;> simp [execOp,convert,run_underlying hS,run_underlying hT,h1]
theorem ok_convBytes {S T e : TypeId} {x : Operand} {l : List UInt8} {xs : List (List AV)} (hS : P.underlying S = some (.slice e)) (he : P.underlying e = some (.int .u8)) (hT : P.underlying T = some .string) (hx : elemsOf s (s.val x) = some xs)
  (hl : xs = l.map (fun b=>[.int .u8 (b.toNat : Int)])) (h : s.putK dst (.str l) K) :
  OpOk P ⟨dst,.convert S T x,type,pos,after,guard⟩ s K :=
 ok_pure h fun F w0 gv a w hdr hs=>by
  obtain ⟨base,cap,news,f1,f2,f3⟩:=appArg hs (hs.val x) hx (n:=1) (fun z hz=>by
   rw [hl] at hz
   simp only [List.mem_map] at hz
   obtain ⟨b,_,rfl⟩:=hz
   rfl)
  have hfl : xs.flatten = l.map (fun b=>AV.int .u8 (b.toNat : Int)):=by
   rw [hl]
   clear hl f1 f2 f3 hx h hs
   induction l with
   | nil=>rfl
   | cons b l ih=>simpa using ih
  have hxl : xs.length = l.length:=by rw [hl]; simp
  rw [hfl] at f2
  have hnews : news = l.map (fun b=>Value.int .u8 (b.toNat : Int)):=by
   clear hl f1 f3 hx h hs hfl hxl
   induction l generalizing news with
   | nil =>
    cases news with
    | nil=>rfl
    | cons _ _=>unfold LR at f2; exact f2.elim
   | cons b l ih =>
    cases news with
    | nil=>unfold LR at f2; exact f2.elim
    | cons u us =>
     unfold LR at f2
     have e1:=f2.1
     unfold RR at e1
     simp only [List.map_cons]
     rw [e1,ih us f2.2]
  refine ⟨.string ⟨l.toArray⟩,?_,by unfold VR; rfl⟩
  rw [hxl] at f1
  rcases f3 with ⟨q1,rfl⟩ | ⟨ad,rfl,hc⟩
  ·have hl0 : l = []:=by rw [q1] at hxl; exact List.length_eq_zero_iff.1 hxl.symm
   subst hl0
   have hr:=run_convert_bytes_string (P:=P) w S T e none 0 cap hS he hT
   have e0 : (ByteArray.empty) = ⟨#[]⟩:=rfl
   simp [execOp,f1,hr,Conv.bytesToString,e0]
  ·have hr:=run_convert_bytes_back (P:=P) w S T e ad cap l hS he hT (fun j hj=>hc j _ (by rw [hnews]; simp [hj]))
   simp [execOp,f1,hr]
theorem ok_sliceStr {T : TypeId} {x : Operand} {lo hi : Option Operand} {l : List UInt8} {m n : Int} (hT : P.underlying T = some .string) (hx : s.val x = .str l)
  (hlo : (lo = none /\ m = 0) \/ ∃ y k,lo = some y /\ intA (s.val y) = some (k,m)) (hhi : (hi = none /\ n = l.length) \/ ∃ y k,hi = some y /\ intA (s.val y) = some (k,n))
  (hb : 0 <= m /\ m <= n /\ n <= l.length) (h : s.putK dst (.str ((l.take n.toNat).drop m.toNat)) K) : OpOk P ⟨dst,.slice T x lo hi none,type,pos,after,guard⟩ s K :=
 ok_pure h fun F w0 gv a w hdr hs=>by
  have h1:=hs.val x
  rw [hx] at h1
  unfold VR at h1
  refine ⟨.string ⟨((l.take n.toNat).drop m.toNat).toArray⟩,?_,by unfold VR; rfl⟩
  have hsz : (⟨l.toArray⟩ : ByteArray).size = l.length:=rfl
  have hex : (⟨l.toArray⟩ : ByteArray).extract m.toNat n.toNat = ⟨((l.take n.toNat).drop m.toNat).toArray⟩:=by
   apply ByteArray.ext
   rw [ByteArray.data_extract,List.extract_toArray,List.extract_eq_take_drop,List.drop_take]
  have hbs : (Instr.sliceBounds false l.length l.length (lo.map a.eval) (hi.map a.eval) none).run P w = .ok (m.toNat,n.toNat,l.length) w:=by
   have hh : n <= (l.length : Int):=hb.2.2
   have hn0 : 0 <= n:=by omega
   have hml : m <= ((n.toNat : Nat) : Int):=by omega
   rcases hlo with ⟨rfl,rfl⟩ | ⟨y,k,rfl,hy⟩ <;> rcases hhi with ⟨rfl,rfl⟩ | ⟨y',k',rfl,hy'⟩
   ·simp [Instr.sliceBounds]
   ·simp [Instr.sliceBounds,intA_ok (hs.val y') hy',run_sliceBound,hn0,hh]
   ·simp [Instr.sliceBounds,intA_ok (hs.val y) hy,run_sliceBound,hb.1,hb.2.1]
   ·have hsb:=run_sliceBound (P:=P) (w:=w) k m n.toNat .sliceB hb.1 hml
    simp [Instr.sliceBounds,intA_ok (hs.val y) hy,intA_ok (hs.val y') hy',run_sliceBound,hn0,hh,hsb]
  simp [execOp,Instr.sliceAt,run_underlying hT,h1,Instr.slice,hsz,hbs,hex]
end
end Go.Ab
