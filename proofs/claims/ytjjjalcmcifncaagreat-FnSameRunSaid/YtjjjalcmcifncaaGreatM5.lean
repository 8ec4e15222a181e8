/-
  Parts of an object as values: slices of it, their lengths, copies, clears and appends in place.
  The rules of the operations on parts of objects.
  Appends to parts of objects; slices.overlaps; a part that becomes the object.
  Contracts of functions that objects are handed over to.
  A call of a function that objects are handed over to.
  Plain laws: lists from which elements are struck, into which elements are put.
  A slice that lies in a cell of an object becomes an object of its own (an append to it).
  A copy out of a part of an object of which only the first elements are known.
  No condition: definitions and lemmas over any program.
-/
import Derived.Test.YtjjjalcmcifncaaGreatAb31
import Derived.Lib.Overlaps
namespace Go.Ab
open Go.RowKit
set_option linter.unusedVariables false
theorem flatten_take {α : Type} (n : Nat) : ∀ (k : Nat) (xs : List (List α)),(∀ e ∈ xs,e.length = n) -> (xs.take k).flatten = xs.flatten.take (k * n)
 | 0,xs,_=>by simp
 | k + 1,[],_=>by simp
 | k + 1,x :: xs,h=>by
  have hx : x.length = n:=h x (by simp)
  simp only [List.take_succ_cons,List.flatten_cons]
  rw [flatten_take n k xs (fun e he=>h e (by simp [he])),List.take_append,List.take_of_length_le (l:=x) (by rw [hx,Nat.add_mul]; omega),hx,show (k + 1) * n - n = k * n by rw [Nat.add_mul]; omega]
theorem flatten_drop' {α : Type} (n : Nat) : ∀ (k : Nat) (xs : List (List α)),(∀ e ∈ xs,e.length = n) -> (xs.drop k).flatten = xs.flatten.drop (k * n)
 | 0,xs,_=>by simp
 | k + 1,[],_=>by simp
 | k + 1,x :: xs,h=>by
  have hx : x.length = n:=h x (by simp)
  simp only [List.drop_succ_cons,List.flatten_cons]
  rw [flatten_drop' n k xs (fun e he=>h e (by simp [he])),List.drop_append,List.drop_of_length_le (l:=x) (by rw [hx,Nat.add_mul]; omega),hx,show (k + 1) * n - n = k * n by rw [Nat.add_mul]; omega]
  rfl
theorem flatten_spliceE {α : Type} (n : Nat) (xs ys : List (List α)) (hx : ∀ e ∈ xs,e.length = n) (hy : ∀ e ∈ ys,e.length = n) (k : Nat) : (splice xs k ys).flatten = splice xs.flatten (k * n) ys.flatten:=by
 unfold splice
 rw [List.flatten_append,List.flatten_append,flatten_take n k xs hx,flatten_drop' n _ xs hx,flatten_length n ys hy,Nat.add_mul]
theorem splice_len {α : Type} (xs ys : List α) (k : Nat) (hk : k <= xs.length) : (splice xs k ys).length = max xs.length (k + ys.length):=by
 unfold splice
 simp
 omega
theorem splice_nil {α : Type} (xs : List α) (k : Nat) : splice xs k [] = xs:=by
 unfold splice
 simp
theorem splice_memE {α : Type} {xs ys : List α} {k : Nat} {e : α} (h : e ∈ splice xs k ys) : e ∈ xs \/ e ∈ ys:=by
 unfold splice at h
 simp only [List.mem_append] at h
 rcases h with (h | h) | h
 ·exact .inl (List.mem_of_mem_take h)
 ·exact .inr h
 ·exact .inl (List.mem_of_mem_drop h)
theorem row_storeX {w : World} {N : Nat -> Prop} {ty esz n : Nat} {b cap : Nat} {cs0 : List Value} (hrow : OwnR w N ty esz (.slice (some ⟨b,0,none⟩) n cap) n cs0) (hcap : 0 < cap) {vs : List Value} (h1 : ∀ u ∈ vs,u.oneCell' = true) {k m : Nat} (hk : k <= n) (hm : vs.length = m * esz) (hfit : k + m <= cap) :
  ∃ w',(∀ P : Program,(storeCells ⟨b,k * esz,none⟩ vs).run P w = .ok () w') /\ (∃ cur,w.heap[b]? = some (.cells cur ty (0,0)) /\ cur.size = cap * esz /\ w' = w.setRow b ((cur.toList.take (k * esz) ++ vs ++ cur.toList.drop (k * esz + vs.length)).toArray)) /\ w.grownBy w' (some b) /\
   OwnR w' N ty esz (.slice (some ⟨b,0,none⟩) (max n (k + m)) cap) (max n (k + m)) (splice cs0 (k * esz) vs):=by
 obtain ⟨cap',cur,hh,hc0',hBb,hg,hcap',hmax,hcur,htake⟩:=ownsRow_cells hrow (blk_slice hcap)
 cases hh
 have hle : k * esz + vs.length <= cap * esz:=by rw [hm,<- Nat.add_mul]; exact Nat.mul_le_mul_right _ hfit
 have hrun:=fun P : Program=>run_storeCells_at P b (k * esz) ty vs 0 cur w hg (by rw [hcur]; omega) h1
 simp only [Nat.add_zero] at hrun
 refine ⟨_,hrun,⟨cur,hg,hcur,rfl⟩,⟨rfl,rfl,rfl,by simp [World.setRow],fun j _ hj=>setRow_other w b j _ (fun e=>hj (by rw [e]))⟩,?_⟩
 have hw2:=setRow_heap w b cur ((cur.toList.take (k * esz) ++ vs ++ cur.toList.drop (k * esz + vs.length)).toArray) ty (0,0) hg
 have hc0 : cs0.length = n * esz:=hrow.1
 have hkn : k * esz <= n * esz:=Nat.mul_le_mul_right _ hk
 have hnc : n * esz <= cap * esz:=Nat.mul_le_mul_right _ hcap'
 have hcl : cur.toList.length = cap * esz:=by simpa using hcur
 have l1 : (cur.toList.take (k * esz)).length = k * esz:=by rw [List.length_take,hcl]; omega
 have l2 : (cur.toList.take (k * esz) ++ vs).length = (k + m) * esz:=by rw [laT,l1,hm,Nat.add_mul]
 have hs : splice cs0 (k * esz) vs = cur.toList.take (k * esz) ++ vs ++ ((cur.toList.take (n * esz)).drop (k * esz + vs.length)):=by
  unfold splice
  rw [<- htake,List.take_take,Nat.min_eq_left hkn]
 have hlen : (splice cs0 (k * esz) vs).length = (max n (k + m)) * esz:=by
  rw [splice_len _ _ _ (by rw [hc0]; exact hkn),hc0,hm,<- Nat.add_mul,<- Nat.mul_max_mul_right]
 refine ⟨hlen,.inr ⟨b,cap,_,rfl,hcap,hBb,hw2,by omega,hmax,?_,?_⟩⟩
 ·simp only [List.size_toArray,laT,List.length_take,List.length_drop,Array.length_toList,hcur]
  omega
 ·show (cur.toList.take (k * esz) ++ vs ++ cur.toList.drop (k * esz + vs.length)).take _ = _
  rw [hs,List.take_append,l2]
  by_cases hc : n <= k + m
  ·have e1 : max n (k + m) = k + m:=by omega
   rw [e1,List.take_of_length_le (by rw [l2]; exact Nat.le_refl _),Nat.sub_self,List.take_zero]
   rw [List.drop_of_length_le (l:=cur.toList.take (n * esz)) (by
    rw [List.length_take,hm,<- Nat.add_mul]
    exact Nat.le_trans (Nat.min_le_left _ _) (Nat.mul_le_mul_right _ hc))]
  ·have e1 : max n (k + m) = n:=by omega
   have : (k + m) * esz <= n * esz:=Nat.mul_le_mul_right _ (by omega)
   rw [e1,List.take_of_length_le (by rw [l2]; exact this),List.drop_take,hm,<- Nat.add_mul]
section
variable {F : Nat -> Prop} {w0 : Base} {gv : List Value} {s : St} {a : Act} {w : World} {hdr : Nat -> Hdr}
def extS (s : St) (id : Nat) (o' : AObj) : St:=turned s (killO id) (killP id) (fun j x y z=>.cel j x y z) id (some o')
theorem Sim.storeEs (h : Sim F w0 gv s a w hdr) {id ty esz : Nat} {es : List (List AV)} (ho : s.objs id = some ⟨.slc,ty,esz,es⟩) {b m cap : Nat} (hv : (hdr id).v = .slice (some ⟨b,0,none⟩) m cap) (hcap : 0 < cap) {k : Nat} {ys : List (List AV)} {vs : List Value}
  (hk : k <= es.length) (hfit : k + ys.length <= cap) (hys : ∀ y ∈ ys,y.length = esz) (hlr : LR w (roOf F w hdr s.objs) ys.flatten vs) (h1 : ∀ u ∈ vs,u.oneCell' = true) :
  ∃ w',(∀ P : Program,(storeCells ⟨b,k * esz,none⟩ vs).run P w = .ok () w') /\ (∃ cur,w.heap[b]? = some (.cells cur ty (0,0)) /\ cur.size = cap * esz /\ w' = w.setRow b ((cur.toList.take (k * esz) ++ vs ++ cur.toList.drop (k * esz + vs.length)).toArray)) /\
   (k + ys.length <= es.length -> ∃ hdr',(hdr' id).v = (hdr id).v /\ (∀ j,j ≠ id -> hdr' j = hdr j) /\ Sim F w0 gv (setObj s id ⟨.slc,ty,esz,splice es k ys⟩) a w' hdr') /\
   ∃ hdr',(hdr' id).v = .slice (some ⟨b,0,none⟩) (max es.length (k + ys.length)) cap /\ (∀ j,j ≠ id -> hdr' j = hdr j) /\ Sim F w0 gv (extS s id ⟨.slc,ty,esz,splice es k ys⟩) a w' hdr':=by
 obtain ⟨hpos,hlens,hnd,cs,hrow,hone,hcl⟩:=h.objs id _ ho
 obtain ⟨hlr0,hfp⟩:=hcl.slc rfl
 simp only at hlens hrow hlr0 hpos
 rw [hv] at hrow
 have hmn : m = es.length:=by
  obtain ⟨c1,c2,e1,_⟩:=ownsRow_cells hrow (blk_slice hcap)
  cases e1; rfl
 subst hmn
 have hvl : vs.length = ys.length * esz:=by rw [<- hlr.length,flatten_length esz ys hys]
 obtain ⟨w',hrun,hcur,hg,hrow'⟩:=row_storeX hrow hcap h1 hk hvl hfit
 have hlr' : LR w (roOf F w hdr s.objs) (splice es k ys).flatten (splice cs (k * esz) vs):=by
  rw [flatten_spliceE esz es ys hlens hys]
  exact hlr0.splice _ hlr
 have hone' : ∀ u ∈ splice cs (k * esz) vs,u.oneCell' = true:=fun u hu=>(splice_memE hu).elim (hone u) (h1 u)
 have hlens' : ∀ e ∈ splice es k ys,e.length = esz:=fun e he=>(splice_memE he).elim (hlens e) (hys e)
 have hblk : (hdr id).blk = some b:=by unfold Hdr.blk; rw [hv]; exact blk_slice hcap
 have hlen:=splice_len es ys k hk
 refine ⟨w',hrun,hcur,fun hle=>?_,?_⟩
 ·have e1 : max es.length (k + ys.length) = es.length:=by omega
  rw [e1] at hrow' hlen
  have:=h.reown (so:=fun j=>.own j) (sp:=fun j x y=>.ptr j x y) (sc:=fun j x y z=>.cel j x y z) ho rfl (w':=w') (v':=(hdr id).v) (es':=splice es k ys) (cs':=splice cs (k * esz) vs)
   (fun _ _=>rfl) (fun _ _ _ _=>rfl) (fun _ _ _ _ _=>rfl) (.inr ⟨rfl,rfl⟩) (.inr ⟨fun _ _=>rfl,rfl⟩) (.inr ⟨rfl,fun _ m _ h=>⟨m,h⟩⟩) hlens' hlr' hone' (by rw [hlen,hv]; exact hrow') (by rw [hblk]; exact hg) (fun b hb=>.inl hb)
  rw [turned_id] at this
  exact ⟨_,by simp,fun j hj=>by simp [hj],this⟩
 ·have:=h.reown (so:=killO id) (sp:=killP id) (sc:=fun j x y z=>.cel j x y z) ho rfl (w':=w') (v':=.slice (some ⟨b,0,none⟩) (max es.length (k + ys.length)) cap) (es':=splice es k ys) (cs':=splice cs (k * esz) vs)
   (fun j hj=>by simp [killO,hj]) (fun j x y hj=>by simp [killP,hj]) (fun _ _ _ _ _=>rfl) (.inl (by simp [killO])) (.inl (fun _ _=>by simp [killP])) (.inr ⟨rfl,fun b' m' c' e=>by rw [hv] at e; cases e; exact ⟨_,rfl⟩⟩) hlens' hlr' hone' (by rw [hlen]; exact hrow') (by rw [hblk]; exact hg)
   (fun b' hb'=>.inl (by rw [hblk]; rw [blk_slice hcap] at hb'; exact hb'))
  exact ⟨_,by simp,fun j hj=>by simp [hj],this⟩
def srcE (s : St) : AV -> Option (Nat × List (List AV))
 | .own id =>
  match s.objs id with
  | some o =>
   match o.kind with
   | .slc=>some (o.esz,o.elems)
   | .box=>none
   | .deep _=>none
  | none=>none
 | .prt id lo n _ =>
  match s.objs id with
  | some o =>
   match o.kind with
   | .slc=>some (o.esz,(o.elems.drop lo).take n)
   | .box=>none
   | .deep _=>none
  | none=>none
 | _=>none
def srcFit (s : St) : AV -> Prop
 | .prt id lo n _ =>
  match s.objs id with
  | some o=>lo + n <= o.elems.length
  | none=>False
 | _=>True
theorem srcArg (h : Sim F w0 gv s a w hdr) {y : AV} {v : Value} (hv : VR (s.ctx F w hdr) y v) {esz : Nat} {ys : List (List AV)} (hy : srcE s y = some (esz,ys)) (hf : srcFit s y) :
  ∃ base cap news,v = .slice base ys.length cap /\ LR w (roOf F w hdr s.objs) ys.flatten news /\ (∀ u ∈ news,u.oneCell' = true) /\ (∀ z ∈ ys,z.length = esz) /\
   ((ys = [] /\ base = none) \/ ∃ ad,base = some ad /\ ∀ j u,news[j]? = some u -> w.cell? (ad.add j) = some u):=by
 cases y <;> simp only [srcE] at hy <;> try (cases hy; done)
 case own id =>
  cases ho : s.objs id with
  | none=>simp [ho] at hy
  | some o =>
   simp only [ho] at hy
   split at hy
   ·rename_i hk
    cases hy
    obtain ⟨base,cap,news,e1,e2,e3⟩:=appArg h hv (ys:=o.elems) (by simp only [elemsOf,ho,hk]) (n:=o.esz) (h.objs id o ho).lens
    unfold VR at hv
    obtain ⟨_,hv⟩:=hv
    replace hv : v = (hdr id).v:=hv
    obtain ⟨hpos,hlens,_,cs,hrow,hone,hcl⟩:=h.objs id o ho
    have hlr:=(hcl.slc hk).1
    rcases hrow.2 with ⟨base',q1,q2⟩ | ⟨g,cap',cur,q1,q0,rest⟩
    ·have hnil : o.elems = []:=List.length_eq_zero_iff.1 q2
     refine ⟨base',0,[],by rw [hv,q1,q2],by rw [hnil]; simp only [List.flatten_nil]; unfold LR; trivial,by simp,hlens,?_⟩
     cases base' with
     | none=>exact .inl ⟨hnil,rfl⟩
     | some ad=>exact .inr ⟨ad,rfl,fun j u hj=>by simp at hj⟩
    ·refine ⟨some ⟨g,0,none⟩,cap',cs,by rw [hv,q1],hlr,hone,hlens,.inr ⟨_,rfl,?_⟩⟩
     exact hrow.cells (g:=g) (by rw [q1]; exact blk_slice q0)
   ·cases hy
   ·cases hy
 case prt id lo n cp =>
  cases ho : s.objs id with
  | none=>simp [ho] at hy
  | some o =>
   simp only [ho] at hy
   simp only [srcFit,ho] at hf
   split at hy
   ·rename_i hk
    cases hy
    unfold VR at hv
    obtain ⟨o',p1,p2,p3,p4⟩:=hv
    replace p1 : s.objs id = some o':=p1
    rw [ho] at p1
    cases p1
    obtain ⟨hpos,hlens,_,cs,hrow,hone,hcl⟩:=h.objs id o ho
    have hlr:=(hcl.slc hk).1
    have hll : ((o.elems.drop lo).take n).length = n:=by simp; omega
    have hlz : ∀ z ∈ (o.elems.drop lo).take n,z.length = o.esz:=fun z hz=>hlens z (List.mem_of_mem_drop (List.mem_of_mem_take hz))
    rcases p4 with ⟨q1,base,q2⟩ | ⟨q1,b,m,q2,q3⟩
    ·have hn : n = 0:=by omega
     subst hn
     refine ⟨base,0,[],by rw [q2]; simp,by simp only [List.take_zero,List.flatten_nil]; unfold LR; trivial,by simp,by simp,?_⟩
     cases base with
     | none=>exact .inl ⟨by simp,rfl⟩
     | some ad=>exact .inr ⟨ad,rfl,fun j u hj=>by simp at hj⟩
    ·replace q2 : (hdr id).v = .slice (some ⟨b,0,none⟩) m (lo + cp):=q2
     have hfl : ((o.elems.drop lo).take n).flatten = (o.elems.flatten.drop (lo * o.esz)).take (n * o.esz):=by
      rw [flatten_take o.esz n _ (fun e he=>hlens e (List.mem_of_mem_drop he)),flatten_drop' o.esz lo _ hlens]
     refine ⟨some ⟨b,lo * o.esz,none⟩,cp,(cs.drop (lo * o.esz)).take (n * o.esz),by rw [hll]; exact q3,by rw [hfl]; exact (hlr.drop _).take _,fun u hu=>hone u (List.mem_of_mem_drop (List.mem_of_mem_take hu)),hlz,.inr ⟨_,rfl,fun j u hj=>?_⟩⟩
     have hj' : cs[lo * o.esz + j]? = some u:=by
      rw [List.getElem?_take] at hj
      split at hj
      ·rwa [List.getElem?_drop] at hj
      ·cases hj
     have:=hrow.cells (g:=b) (by rw [q2]; exact blk_slice (by omega)) _ _ hj'
     rw [Addr.add_lit,Nat.zero_add] at this
     rw [Addr.add_lit]
     exact this
   ·cases hy
   ·cases hy
end
theorem run_copyK {P : Program} {w w' : World} {T T' ty e : TypeId} {esz : Nat} (he : P.underlying T = some (.slice e)) {i : TypeInfo} (hi : P.info? e = some i) (hz : i.size = esz) {dbase sbase : Option Addr} {n cp k scap : Nat} {news : List Value} (hl : news.length = k * esz)
  (hx : (k = 0 /\ sbase = none) \/ ∃ ad,sbase = some ad /\ ∀ j u,news[j]? = some u -> w.cell? (ad.add j) = some u) (hst : ∀ a,dbase = some a -> (storeCells a (news.take (Nat.min k n * esz))).run P w = .ok () w') (hno : dbase = none -> w' = w) :
  (Builtin.copy_ #[T,T'] ty #[.slice dbase n cp,.slice sbase k scap]).run P w = .ok (goInt (Nat.min k n)) w':=by
 subst hz
 have hload : (Builtin.firstCells i.size (Nat.min k n) (.slice sbase k scap)).run P w = .ok (news.take (Nat.min k n * i.size)).toArray w:=by
  rcases hx with ⟨rfl,rfl⟩ | ⟨ad,rfl,hc⟩
  ·have : news = []:=List.length_eq_zero_iff.1 (by simpa using hl)
   subst this
   simp [Builtin.firstCells]
  ·have hlen : (news.take (Nat.min k n * i.size)).length = Nat.min k n * i.size:=by
    rw [List.length_take,hl]
    exact Nat.min_eq_left (Nat.mul_le_mul_right _ (Nat.min_le_left _ _))
   have:=run_loadCells_list (P:=P) w ad (news.take (Nat.min k n * i.size)) (fun j u hj=>by
    rw [List.getElem?_take] at hj
    split at hj
    ·exact hc j u hj
    ·cases hj)
   rw [hlen] at this
   simp only [Builtin.firstCells]
   exact this
 cases dbase with
 | none =>
  obtain rfl:=hno rfl
  simp [Builtin.copy_,run_underlying he,Builtin.lenOf,sizeOf,typeInfo,hi,hload]
 | some a =>
  have h2:=hst a rfl
  simp [Builtin.copy_,run_underlying he,Builtin.lenOf,sizeOf,typeInfo,hi,hload,h2]
end Go.Ab
namespace Go.Ab
open Go.RowKit
set_option linter.unusedVariables false
theorem hook_of {P : Program} {o : Oper} {nid : Nat} {s : St} {K : St -> Prop} (h : OpOk P o s K) : HookA P o nid s K:=by
 unfold HookA
 exact ⟨rfl,h⟩
theorem prt_val {c : Ctx} {id lo n cp : Nat} {v : Value} (h : PrtR c id lo n cp v) : ∃ base,v = .slice base n cp:=by
 obtain ⟨o,_,_,h3,h4⟩:=h
 rcases h4 with ⟨q1,base,q2⟩ | ⟨_,b,m,_,q3⟩
 ·have hn : n = 0:=by omega
  subst hn q1
  exact ⟨base,q2⟩
 ·exact ⟨_,q3⟩
theorem setObj_self {s : St} {id : Nat} {o : AObj} (h : s.objs id = some o) : setObj s id o = s:=by
 cases s
 simp only [setObj]
 congr
 funext i
 by_cases e : i = id
 ·subst e
  rw [if_pos rfl]
  exact h.symm
 ·rw [if_neg e]
def optI (s : St) (d : Int) : Option Operand -> Option Int
 | none=>some d
 | some y =>
  match intA (s.val y) with
  | some (_,n)=>some n
  | none=>none
section
variable {P : Program} {s : St} {K : St -> Prop} {dst : Option Tmp} {type : TypeId} {pos : String} {after : Array Edge} {guard : Option (Nat × Bool)} {nid : Nat}
def rawS (s : St) (id n cp : Nat) (o : AObj) : St:=turned s (fun j=>if j = id then .prt id 0 n cp else .own j) (fun j x y=>.ptr j x y) (fun j x y z=>.cel j x y z) id (some o)
theorem Sim.raw {F : Nat -> Prop} {w0 : Base} {gv : List Value} {a : Act} {w : World} {hdr : Nat -> Hdr} (h : Sim F w0 gv s a w hdr) {id ty esz : Nat} {es : List (List AV)} (ho : s.objs id = some ⟨.slc,ty,esz,es⟩) :
  ∃ cp base,es.length <= cp /\ cp <= maxLen /\ (hdr id).v = .slice base es.length cp /\ Sim F w0 gv (rawS s id es.length cp ⟨.slc,ty,esz,es⟩) a w hdr:=by
 obtain ⟨hpos,hlens,hnd,cs,hrow,hone,hcl⟩:=h.objs id _ ho
 have key : ∀ cp,((cp = 0 /\ ∃ base,(hdr id).v = .slice base 0 0) \/ (0 < cp /\ ∃ b m,(hdr id).v = .slice (some ⟨b,0,none⟩) m (0 + cp) /\ (hdr id).v = .slice (some ⟨b,0 * esz,none⟩) es.length cp)) -> es.length <= cp -> Sim F w0 gv (rawS s id es.length cp ⟨.slc,ty,esz,es⟩) a w hdr:=by
  intro cp hp hle
  refine h.turn (o0:=⟨.slc,ty,esz,es⟩) ho ⟨rfl,rfl,rfl,Nat.le_refl _,fun _ _ _=>rfl⟩ (fun _ _=>rfl) (fun j hj=>by simp [hj]) (fun _ _ _ _=>rfl) (fun _ _ _ _ _=>rfl) ?_ ?_ ?_ ?_ ?_ ?_
  ·intro v hv
   unfold VR at hv
   obtain ⟨_,hv⟩:=hv
   replace hv : v = (hdr id).v:=hv
   subst hv
   simp only [if_true]
   unfold VR
   exact ⟨⟨.slc,ty,esz,es⟩,by simp [St.ctx,turned],rfl,hle,hp⟩
  ·intro x y v hv
   unfold VR at hv ⊢
   obtain ⟨o1,b,k1,k2,k3⟩:=hv
   replace k1 : s.objs id = some o1:=k1
   rw [ho] at k1; cases k1
   exact ⟨⟨.slc,ty,esz,es⟩,b,by simp [St.ctx,turned],k2,k3⟩
  ·intro x y z v hv
   exfalso
   unfold VR at hv
   obtain ⟨o1,b,sh,e,k1,k2,_⟩:=hv
   replace k1 : s.objs id = some o1:=k1
   rw [ho] at k1; cases k1
   cases k2
  ·intro j x y z lo n cp' v e hv
   cases e
   obtain ⟨o1,k1,k2,k3,k4⟩:=hv
   replace k1 : s.objs id = some o1:=k1
   rw [ho] at k1; cases k1
   exact ⟨⟨.slc,ty,esz,es⟩,by simp [St.ctx,turned],rfl,k3,k4⟩
  ·intro hR o1 e1
   cases e1
   refine ⟨hpos,hlens,hnd,cs,hrow,hone,?_⟩
   obtain ⟨q1,q2⟩:=hcl.slc rfl
   rw [q2]
   exact CellsR_slc rfl (LR.ofR hR _ _ q1)
  ·intro o1 b e hb
   exact .inl hb
 rcases hrow.2 with ⟨base,e,e2⟩ | ⟨g,cap,cur,e,e0,e1,e3,e4,e5,e6,e7⟩
 ·replace e2 : es.length = 0:=e2
  exact ⟨0,base,by omega,by simp [maxLen],by rw [e2]; exact e,key 0 (.inl ⟨rfl,base,e⟩) (by omega)⟩
 ·exact ⟨cap,_,e4,e5,e,key cap (.inr ⟨e0,g,es.length,by rw [Nat.zero_add]; exact e,by rw [Nat.zero_mul]; exact e⟩) e4⟩
theorem optI_lo {F : Nat -> Prop} {w0 : Base} {gv : List Value} {a : Act} {w : World} {hdr : Nat -> Hdr} (hs : Sim F w0 gv s a w hdr) {lo hi : Option Operand} {m n : Int} {len cap : Nat} (hlo : optI s 0 lo = some m) (hhi : optI s (len : Int) hi = some n) (hb : 0 <= m /\ m <= n /\ n <= cap) (hl : len <= cap) :
  (Instr.sliceBounds true len cap (lo.map a.eval) (hi.map a.eval) none).run P w = .ok (m.toNat,n.toNat,cap) w:=by
 have hn0 : 0 <= n:=by omega
 have hml : m <= ((n.toNat : Nat) : Int):=by omega
 cases lo with
 | none =>
  simp only [optI,Option.some.injEq] at hlo
  subst hlo
  cases hi with
  | none =>
   simp only [optI,Option.some.injEq] at hhi
   subst hhi
   simp [Instr.sliceBounds]
  | some y' =>
   simp only [optI] at hhi
   split at hhi
   ·rename_i k n' hy'
    cases hhi
    simp [Instr.sliceBounds,intA_ok (hs.val y') hy',run_sliceBound,hn0,hb.2.2]
   ·cases hhi
 | some y =>
  simp only [optI] at hlo
  split at hlo
  ·rename_i k m' hy
   cases hlo
   cases hi with
   | none =>
    simp only [optI,Option.some.injEq] at hhi
    subst hhi
    simp [Instr.sliceBounds,intA_ok (hs.val y) hy,run_sliceBound,hb.1,hb.2.1]
   | some y' =>
    simp only [optI] at hhi
    split at hhi
    ·rename_i k' n' hy'
     cases hhi
     have hsb:=run_sliceBound (P:=P) (w:=w) k m n.toNat .sliceB hb.1 hml
     simp [Instr.sliceBounds,intA_ok (hs.val y) hy,intA_ok (hs.val y') hy',run_sliceBound,hn0,hb.2.2,hsb]
    ·cases hhi
  ·cases hlo
theorem hook_sliceO {x : Operand} {lo hi : Option Operand} {T e : TypeId} {id ty esz : Nat} {es : List (List AV)} {m1 m2 : Int} (he : elemOf? P T = some e) (hz : sizeOf? P e = some esz) (hx : s.val x = .own id) (ho : s.objs id = some ⟨.slc,ty,esz,es⟩)
  (hlo : optI s 0 lo = some m1) (hhi : optI s (es.length : Int) hi = some m2) (hb : 0 <= m1 /\ m1 <= m2 /\ m2 <= es.length) (h : ∀ cp,es.length <= cp /\ cp <= maxLen -> s.putK dst (.prt id (m1.toNat) (m2.toNat - m1.toNat) (cp - m1.toNat)) K) : HookA P ⟨dst,.slice T x lo hi none,type,pos,after,guard⟩ nid s K:=by
 refine hook_of ?_
 intro F w0 gv a w ⟨hdr,hs⟩ next Q hn
 obtain ⟨cp,base,h1,h2,h3,_⟩:=hs.raw ho
 obtain ⟨k1,k2⟩:=putK_elim (h cp ⟨h1,h2⟩)
 have hv:=hs.val x
 rw [hx] at hv
 unfold VR at hv
 obtain ⟨_,hv⟩:=hv
 replace hv : a.eval x = (hdr id).v:=hv
 have hT:=elemOf?_some he
 obtain ⟨i',hi',hsz⟩:=sizeOf?_info hz
 subst hsz
 have hbs:=optI_lo (P:=P) hs hlo hhi ⟨hb.1,hb.2.1,by omega⟩ h1
 have hrun : (execOp a.eval ⟨dst,.slice T x lo hi none,type,pos,after,guard⟩).run P w = .ok (.value (.slice (if cp = m1.toNat then base else base.map (·.add (m1.toNat * i'.size))) (m2.toNat - m1.toNat) (cp - m1.toNat))) w:=by
  simp [execOp,Instr.sliceAt,run_underlying hT,hv,h3,Instr.slice,hbs,sizeOf,typeInfo,hi']
 unfold Oper.wp
 rw [hrun]
 refine hn _ _ _ k2 ⟨hdr,hs.put k1 ?_⟩
 unfold VR
 refine ⟨⟨.slc,ty,i'.size,es⟩,ho,rfl,by omega,?_⟩
 obtain ⟨cs,hrow,_⟩:=(hs.objs id _ ho).row
 rcases hrow.2 with ⟨b0,e1,e2⟩ | ⟨g,cap,cur,e1,e0,_⟩
 ·replace e1 : (hdr id).v = _:=e1
  rw [h3] at e1
  injection e1 with e1a e1b e1c
  subst e1c
  left
  have q1 : m1.toNat = 0:=by omega
  have q2 : m2.toNat = 0:=by omega
  rw [q1,q2]
  exact ⟨rfl,_,rfl⟩
 ·replace e1 : (hdr id).v = _:=e1
  rw [h3] at e1
  cases e1
  by_cases hc : cp = m1.toNat
  ·left
   have q2 : m2.toNat = m1.toNat:=by omega
   rw [q2,if_pos hc]
   exact ⟨by omega,_,by rw [Nat.sub_self,show cp - m1.toNat = 0 by omega]⟩
  ·right
   rw [if_neg hc]
   refine ⟨by omega,g,es.length,?_,?_⟩
   ·show (hdr id).v = _
    rw [h3]; congr 1; omega
   ·simp only [Option.map_some,Addr.add_lit,Nat.zero_add]
theorem hook_copy {x y : Operand} {T T' e : TypeId} {args : Array Operand} {tys : Array TypeId} {id lo n cp ty esz m : Nat} {es ys : List (List AV)} (ha : args.toList = [x,y]) (hty : tys.toList = [T,T']) (he : elemOf? P T = some e) (hz : sizeOf? P e = some esz)
  (hx : s.val x = .prt id lo n cp) (ho : s.objs id = some ⟨.slc,ty,esz,es⟩) (hy : srcE s (s.val y) = some (esz,ys)) (hf : srcFit s (s.val y)) (hm : min ys.length n = m) (hle : lo + m <= es.length)
  (h : forceS (setObj s id ⟨.slc,ty,esz,splice es lo (ys.take m)⟩) fun s'=>s'.putK dst (.int .i64 (m : Int)) K) : HookA P ⟨dst,.call ⟨.builtin .copy,args,tys⟩,type,pos,after,guard⟩ nid s K:=by
 replace hm : Nat.min ys.length n = m:=hm
 have ha' : args = #[x,y]:=by rw [<- ha]
 have ht' : tys = #[T,T']:=by rw [<- hty]
 subst ha' ht'
 rw [forceS_eq] at h
 refine hook_of ?_
 intro F w0 gv a w ⟨hdr,hs⟩ next Q hn
 obtain ⟨k1,k2⟩:=putK_elim h
 have hT:=elemOf?_some he
 obtain ⟨i',hi',hsz⟩:=sizeOf?_info hz
 have hv:=hs.val x
 rw [hx] at hv
 unfold VR at hv
 obtain ⟨base,hbv⟩:=prt_val hv
 obtain ⟨o,h1,h2,h3,h4⟩:=hv
 replace h1 : s.objs id = some o:=h1
 rw [ho] at h1
 cases h1
 obtain ⟨sb,sc,news,f1,f2,f3,f4,f5⟩:=srcArg hs (hs.val y) hy hf
 have hnl : news.length = ys.length * esz:=by rw [<- f2.length,flatten_length esz ys f4]
 have hmy : m <= ys.length:=by rw [<- hm]; exact Nat.min_le_left _ _
 have hmn : m <= n:=by rw [<- hm]; exact Nat.min_le_right _ _
 replace f5:=f5.imp_left fun q=>(⟨by rw [q.1]; rfl,q.2⟩ : ys.length = 0 /\ sb = none)
 have htl : (ys.take m).length = m:=by rw [List.length_take]; omega
 have hfl : LR w (roOf F w hdr s.objs) (ys.take m).flatten (news.take (m * esz)):=by
  rw [flatten_take esz m ys f4]
  exact f2.take _
 have fin : ∀ w' hdr',(Builtin.copy_ #[T,T'] type #[a.eval x,a.eval y]).run P w = .ok (goInt m) w' -> Sim F w0 gv (setObj s id ⟨.slc,ty,esz,splice es lo (ys.take m)⟩) a w' hdr' -> Oper.wp P ⟨dst,.call ⟨.builtin .copy,#[x,y],#[T,T']⟩,type,pos,after,guard⟩ a w next Q:=by
  intro w' hdr' hr hsim
  have hrun : (execOp a.eval ⟨dst,.call ⟨.builtin .copy,#[x,y],#[T,T']⟩,type,pos,after,guard⟩).run P w = .ok (.value (.int .i64 (m : Int))) w':=by
   simp [execOp,resolve,invoke,builtin,hr,goInt]
  unfold Oper.wp
  rw [hrun]
  exact hn _ _ _ k2 ⟨hdr',hsim.put k1 (by unfold VR; rfl)⟩
 rcases h4 with ⟨q1,base',q2⟩ | ⟨q1,b,mm,q2,q3⟩
 ·have hm0 : m = 0:=by rw [<- hm]; exact Nat.le_zero.1 (Nat.le_trans (Nat.min_le_right _ _) (by omega))
  refine fin w hdr ?_ ?_
  ·rw [hbv,f1,<- hm]
   refine run_copyK hT hi' hsz hnl f5 (fun ad _=>?_) (fun _=>rfl)
   rw [hm,hm0]
   simp [storeCells]
  ·rw [hm0,List.take_zero,splice_nil,setObj_self ho]
   exact hs
 ·obtain ⟨w',r1,_,r2,_⟩:=hs.storeEs ho (b:=b) (m:=mm) (cap:=lo + cp) q2 (by omega) (k:=lo) (ys:=ys.take m) (vs:=news.take (m * esz)) (by omega) (by rw [htl]; omega) (fun z hz=>f4 z (List.mem_of_mem_take hz)) hfl (fun u hu=>f3 u (List.mem_of_mem_take hu))
  obtain ⟨hdr',_,_,hsim⟩:=r2 (by rw [htl]; exact hle)
  rw [hbv] at q3
  cases q3
  refine fin w' hdr' ?_ hsim
  rw [hbv,f1,<- hm]
  refine run_copyK hT hi' hsz hnl f5 (fun ad had=>?_) (fun e=>by cases e)
  cases had
  rw [hm]
  exact r1 P
end
end Go.Ab
namespace Go.Ab
open Go.RowKit
set_option linter.unusedVariables false
section
variable {P : Program} {s : St} {K : St -> Prop} {dst : Option Tmp} {type : TypeId} {pos : String} {after : Array Edge} {guard : Option (Nat × Bool)} {nid : Nat}
end
end Go.Ab
namespace Go.Ab
open Go.RowKit
set_option linter.unusedVariables false
structure XRes (os : List AObj) (hdr : Nat -> Hdr) (os' : List AObj) (r : AV) (w w' : World) (hdr' : Nat -> Hdr) (v : Value) : Prop where
 sys : w'.os = w.os
 tape : w'.tape = w.tape
 output : w'.output = w.output
 size : w.heap.size <= w'.heap.size
 block : ∀ k,k < w.heap.size -> (∀ (i : Nat) o,os[i]? = some o -> ¬ (hdr i).has k) -> w'.heap[k]? = w.heap[k]?
 val : VR ⟨w',fun _=>False,hdr',fun i=>os'[i]?⟩ r v
 objs : ∀ (i : Nat) o,os'[i]? = some o -> o.box = false /\ ObjR (fun b=>w.heap.size <= b \/ ∃ (j : Nat) (oj : AObj),os[j]? = some oj /\ (hdr j).has b) ⟨w',fun _=>False,hdr',fun i=>os'[i]?⟩ o (hdr' i)
 dis : ∀ (i j : Nat) o o' b,os'[i]? = some o -> os'[j]? = some o' -> (hdr' i).has b -> (hdr' j).has b -> i = j
structure XC (P : Program) (f : Nat) (os : List AObj) (args : List AV) (r : AV) (os' : List AObj) : Prop where
 run : ∀ (w : World) (R : Nat -> Prop) (hdr : Nat -> Hdr) (vals : List Value),Tab w (fun b=>w.heap.size <= b \/ ∃ (j : Nat) (oj : AObj),os[j]? = some oj /\ (hdr j).has b) ->
  (∀ b,R b -> b < w.heap.size /\ ∀ (i : Nat) o,os[i]? = some o -> ¬ (hdr i).has b) ->
  (∀ (i : Nat) o,os[i]? = some o -> ObjR (fun _=>True) ⟨w,R,hdr,fun i=>os[i]?⟩ o (hdr i)) ->
  (∀ (i j : Nat) o o' b,os[i]? = some o -> os[j]? = some o' -> (hdr i).has b -> (hdr j).has b -> i = j) ->
  VL ⟨w,R,hdr,fun i=>os[i]?⟩ args vals ->
  Ans P f vals.toArray w fun v w'=>∃ hdr',XRes os hdr os' r w w' hdr' v
def idxO (os : List AObj) (k i : Nat) : Option AObj :=
 match os with
 | []=>none
 | o :: l=>match Nat.beq i k with | true=>some o | false=>idxO l (k + 1) i
theorem idxO_at : ∀ (os : List AObj) (k i : Nat),idxO os k i = if k <= i then os[i - k]? else none
 | [],k,i=>by simp [idxO]
 | o :: l,k,i=>by
  unfold idxO
  cases h : Nat.beq i k with
  | true =>
   have : i = k:=Nat.eq_of_beq_eq_true h
   subst this
   simp
  | false =>
   have hne : i ≠ k:=Nat.ne_of_beq_eq_false h
   simp only
   rw [idxO_at l (k + 1) i]
   by_cases hk : k <= i
   ·rw [if_pos (by omega),if_pos hk,show i - k = (i - (k + 1)) + 1 by omega,List.getElem?_cons_succ]
   ·rw [if_neg (by omega),if_neg hk]
theorem idxO_eq (os : List AObj) : idxO os 0 = fun i=>os[i]?:=by
 funext i
 rw [idxO_at]
 simp
theorem ObjR.reN {N N' : Nat -> Prop} {c c' : Ctx} {o : AObj} {h : Hdr} (hw : c'.w = c.w) (hN : ∀ b,h.has b -> N' b) (hC : ∀ cs,CellsR c o cs h.fp -> CellsR c' o cs h.fp) (ho : ObjR N c o h) : ObjR N' c' o h:=by
 obtain ⟨h1,h2,⟨n1,n2,n3⟩,cs,h3,h4,h5⟩:=ho
 exact ⟨h1,h2,⟨n1,n2,fun b hb=>⟨hN b (.inr hb),by rw [hw]; exact (n3 b hb).2⟩⟩,cs,by rw [hw]; exact h3.mono (fun _ _=>rfl) (fun b hb _=>hN b (.inl hb)),h4,hC cs h5⟩
theorem xc_at {P : Program} {f : Nat} {fn : Func} {c : Code} (hf : P.funcs[f]? = some fn) (hb : fn.body = some c) (hname : (fn.name == "runtime.NumGoroutine") = false) {os : List AObj} {args : List AV} {r : AV} {os' : List AObj} (z : Nat) (rs : List ResultVar)
  (hz : args.length + (fn.ntmps - args.length) = z) (hr : fn.results.toList = rs) (hbx : os.all (fun o=>!o.box) = true)
  (h : codeA P c (fun e s=>match e with
   | .normal=>OutA P false rs r os' s
   | .ret=>OutA P false rs r os' s
   | _=>False) ⟨fun t=>args.getD t .any,z,idxO os 0,16,[]⟩) : XC P f os args r os':=by
 subst hz hr
 rw [idxO_eq] at h
 refine ⟨fun w R hdr vals hT hR hobj hdis hargs=>(Ans_body hf hname hb).2 ?_⟩
 have hlen:=hargs.length
 generalize hw0 : (⟨w,fun b=>w.heap.size <= b \/ ∃ (j : Nat) (oj : AObj),os[j]? = some oj /\ (hdr j).has b,fun _ h=>.inl h,hT⟩ : Base) = w0
 have hN : ∀ b,w0.N b ↔ (w.heap.size <= b \/ ∃ (j : Nat) (oj : AObj),os[j]? = some oj /\ (hdr j).has b):=by rw [<- hw0]; exact fun _=>Iff.rfl
 have hww : w0.w = w:=by rw [<- hw0]
 have hnb : ∀ (i : Nat) o,os[i]? = some o -> o.box = false:=fun i o hi=>by
  have:=List.all_eq_true.1 hbx o (mgE hi)
  simpa using this
 have hro : ∀ b,R b -> roOf (fun b=>R b \/ w0.N b) w hdr (fun i=>os[i]?) b:=fun b hb=>⟨.inl hb,(hR b hb).1,(hR b hb).2⟩
 have hs : SimE (fun b=>R b \/ w0.N b) w0 [] ⟨fun t=>args.getD t .any,args.length + (fn.ntmps - args.length),fun i=>os[i]?,16,[]⟩ { tmps:=vals.toArray ++ Array.replicate (fn.ntmps - vals.toArray.size) undef,defers:=[] } w:=by
  refine ⟨hdr,fun t=>?_,?_,rfl,VL.nil,?_,hdis,by rw [<- hww]; exact Frame.refl _,fun b hb=>.inr hb⟩
  ·show VR _ (args.getD t .any) _
   cases ha : args[t]? with
   | none=>rw [List.getD_eq_getElem?_getD,ha]; unfold VR; trivial
   | some x =>
    have hL : VL (St.ctx ⟨fun t=>args.getD t .any,args.length + (fn.ntmps - args.length),fun i=>os[i]?,16,[]⟩ (fun b=>R b \/ w0.N b) w hdr) args vals:=by
     refine VL.mono (c:=⟨w,R,hdr,fun i=>os[i]?⟩) (c':=St.ctx ⟨fun t=>args.getD t .any,args.length + (fn.ntmps - args.length),fun i=>os[i]?,16,[]⟩ (fun b=>R b \/ w0.N b) w hdr) (fun x v=>RR.mono (fun _ _ _=>rfl) hro x v) (fun id x y z v hv=>?_) (fun id lo n cp v hv=>hv) (fun id o ho=>⟨o,ho,rfl,rfl⟩) _ _ hargs
     unfold VR at hv ⊢
     exact hv
    obtain ⟨v,e1,e2⟩:=hL.get t x ha
    have hlt : t < vals.length:=(List.getElem?_eq_some_iff.1 e1).1
    rw [List.getD_eq_getElem?_getD,ha]
    have hev : Act.eval { tmps:=vals.toArray ++ Array.replicate (fn.ntmps - vals.toArray.size) undef,defers:=[] } (.tmp t) = v:=by
     simp only [Act.eval,Array.getD_eq_getD_getElem?]
     rw [Array.getElem?_append_left (by simpa using hlt)]
     simp [e1]
    rw [hev]
    exact e2
  ·simp [hlen]
  ·intro id o ho
   replace ho : os[id]? = some o:=ho
   refine (hobj id o ho).reN (c:=⟨w,R,hdr,fun i=>os[i]?⟩) rfl (fun b hb=>(hN b).2 (.inr ⟨id,o,ho,hb⟩)) (fun cs hcs=>?_)
   cases hk : o.kind with
   | box=>have:=hnb id o ho; unfold AObj.box at this; rw [hk] at this; cases this
   | slc =>
    obtain ⟨q1,q2⟩:=hcs.slc hk
    rw [q2]
    exact CellsR_slc hk (LR.mono (fun _ _ _=>rfl) hro _ _ q1)
   | deep sh=>exact CellsR_deep hk (hcs.deep hk)
 refine calls_of_wp hf hb (codeA_ok c _ _ h _ w0 [] _ w hs _ ?_)
 intro e s' a' w' hk ⟨hdr2,hsim⟩
 have main : OutA P false fn.results.toList r os' s' -> a'.defers = [] /\ ∃ v,(results fn a'.tmps).run P w' = .ok v w' /\ ∃ v',Ending.returned v = .returned v' /\ ∃ hdr',XRes os hdr os' r w w' hdr' v':=by
  intro hout
  unfold OutA at hout
  obtain ⟨s',hle,ρ,⟨hl,hnd,hfine⟩,hres,hos,hflat⟩:=hout
  obtain ⟨hdr2,hsim⟩:=hle _ _ _ _ _ ⟨hdr2,hsim⟩
  obtain ⟨v,q1,q2⟩:=resA_ok hsim hres
  have hbel:=hsim.below
  refine ⟨hsim.defers,v,q1,v,rfl,fun k=>hdr2 (ρ.getD k 0),⟨by rw [hbel.os,hww],by rw [hbel.tape,hww],by rw [hbel.output,hww],by rw [<- hww]; exact hbel.size,fun k hk hn=>?_,?_,?_,?_⟩⟩
  ·rw [hbel.block k (by rw [hww]; exact hk) (fun hnk=>?_),hww]
   rcases (hN k).1 hnk with h1 | ⟨j,oj,h1,h2⟩
   ·omega
   ·exact hn j oj h1 h2
  ·refine VR.unname (c:=s'.ctx (fun b=>R b \/ w0.N b) w' hdr2) (c1:=⟨w',fun _=>False,fun k=>hdr2 (ρ.getD k 0),fun i=>os'[i]?⟩) (ρ:=ρ) (sh:=false) (n:=os'.length) (fun e=>by cases e) ?_ r v hfine q2
   intro k hk
   exact ⟨by show (os'[k]?).isSome = true; simp [hk],rfl⟩
  ·intro k o hk
   have hnb':=(hos k o hk).2
   refine ⟨hnb',(hsim.objs _ o (hos k o hk).1).reN (c:=s'.ctx (fun b=>R b \/ w0.N b) w' hdr2) rfl (fun b hb=>(hN b).1 (hsim.ge (hos k o hk).1 hb).1) (fun cs hcs=>?_)⟩
   have hom:=mgE hk
   cases hkd : o.kind with
   | box=>unfold AObj.box at hnb'; rw [hkd] at hnb'; cases hnb'
   | deep shp=>exact CellsR_deep hkd (hcs.deep hkd)
   | slc =>
    obtain ⟨hlr0,q2⟩:=hcs.slc hkd
    rw [q2]
    refine CellsR_slc hkd ?_
    rcases hflat with (hsh | hfl) | hfl
    ·cases hsh
    ·exact flat_RR (hfl o hom) hlr0
    ·have:=hfl o hom
     simp only [AObj.isOwn,hkd,Bool.false_or] at this
     exact flat_RR this hlr0
  ·intro i j o o' b hi hj bi bj
   have:=hsim.dis _ _ o o' b (hos i o hi).1 (hos j o' hj).1 bi bj
   exact noDup_inj hnd i j (by rw [hl]; exact (List.getElem?_eq_some_iff.1 hi).1) (by rw [hl]; exact (List.getElem?_eq_some_iff.1 hj).1) this
 cases e <;> simp only at hk
 case normal=>exact main hk
 case ret=>exact main hk
def ok0 (ids : List Nat) : AV -> Bool
 | .own id=>!inL id ids
 | .cel id _ _ _=>!inL id ids
 | _=>true
def ok1 (s : St) (ids : List Nat) : AV -> Bool
 | .agg cs=>cs.all (ok0 ids)
 | .ptr id idx off=>!inL id ids && (match s.cellsAt (.ptr id idx off) with | some cs=>cs.all (ok0 ids) | none=>true)
 | a=>ok0 ids a
def okX (s : St) (ids : List Nat) : AV -> Bool
 | .fn _ caps=>caps.all (ok1 s ids)
 | a=>ok1 s ids a
def posL (id : Nat) : List Nat -> Nat -> Option Nat
 | [],_=>none
 | j :: l,k=>match Nat.beq id j with | true=>some k | false=>posL id l (k + 1)
def xarg (s : St) (ids : List Nat) (x : AV) : AV :=
 match x with
 | .own id =>
  match posL id ids 0 with
  | some k=>.own k
  | none=>rf s (.own id)
 | x=>rf s x
def xok (s : St) (ids : List Nat) (x : AV) : Bool :=
 match x with
 | .own _=>true
 | x=>okX s ids x
theorem posL_some : ∀ {ids : List Nat} {id k j : Nat},posL id ids k = some j -> k <= j /\ ids[j - k]? = some id
 | [],_,_,_,h=>by cases h
 | i :: l,id,k,j,h=>by
  unfold posL at h
  cases hb : Nat.beq id i with
  | true =>
   rw [hb] at h
   cases h
   exact ⟨Nat.le_refl _,by simp [Nat.eq_of_beq_eq_true hb]⟩
  | false =>
   rw [hb] at h
   obtain ⟨h1,h2⟩:=posL_some h
   exact ⟨by omega,by rw [show j - k = (j - (k + 1)) + 1 by omega,List.getElem?_cons_succ]; exact h2⟩
theorem posL_none : ∀ {ids : List Nat} {id k : Nat},posL id ids k = none -> inL id ids = false
 | [],_,_,_=>rfl
 | i :: l,id,k,h=>by
  unfold posL at h
  unfold inL
  cases hb : Nat.beq id i with
  | true=>rw [hb] at h; cases h
  | false=>rw [hb] at h; exact posL_none h
section
variable {F : Nat -> Prop} {w0 : Base} {gv : List Value} {s : St} {a : Act} {w : World} {hdr : Nat -> Hdr} {R : Nat -> Prop} {ids : List Nat}
theorem rf0_okR (h : Sim F w0 gv s a w hdr) (hro : ∀ b,roOf F w hdr s.objs b -> R b) (hM : ∀ id o b,inL id ids = false -> s.objs id = some o -> (hdr id).has b -> R b) {x : AV} {v : Value} (hx : ok0 ids x = true) (hv : VR (s.ctx F w hdr) x v) : RR w R (rf0 s x) v:=by
 have roA : ∀ x v,RR w (roOf F w hdr s.objs) x v -> RR w R x v:=fun x v=>RR.mono (fun _ _ _=>rfl) hro x v
 cases x <;> simp only [rf0]
 case any=>unfold RR; trivial
 case ptr=>unfold RR; trivial
 case agg=>unfold RR; trivial
 case tup=>unfold RR; trivial
 case fn=>unfold RR; trivial
 case prt=>unfold RR; trivial
 case own id =>
  simp only [ok0,Bool.not_eq_true'] at hx
  cases ho : s.objs id with
  | none=>unfold RR; trivial
  | some o =>
   simp only
   by_cases hb : o.box = true
   ·simp only [hb,if_true]; unfold RR; trivial
   ·have hbf : o.box = false:=by simpa using hb
    simp only [hbf]
    unfold VR at hv
    obtain ⟨_,hv⟩:=hv
    replace hv : v = (hdr id).v:=hv
    subst hv
    exact own_reads (h.objs id o ho) hbf _ hro (fun b hb=>hM id o b hx ho hb)
 case rp=>unfold VR at hv; exact roA _ _ hv
 case cel id idx off xs =>
  simp only [ok0,Bool.not_eq_true'] at hx
  obtain ⟨o,sh,shc,S,h1,h2,h3,h4,h5⟩:=h.celAt hv
  exact TR.reads _ _ _ _ (fun b hb=>hM id o b hx h1 (.inr (h5 b hb))) h4
 all_goals exact roA _ _ (hv.readOnly rfl)
theorem rf0s_okR (h : Sim F w0 gv s a w hdr) (hro : ∀ b,roOf F w hdr s.objs b -> R b) (hM : ∀ id o b,inL id ids = false -> s.objs id = some o -> (hdr id).has b -> R b) : ∀ {xs : List AV} {vs : List Value},xs.all (ok0 ids) = true -> VL (s.ctx F w hdr) xs vs -> LR w R (xs.map (rf0 s)) vs
 | [],[],_,_=>by simp only [List.map_nil]; unfold LR; trivial
 | x :: xs,v :: vs,hx,hv=>by
  simp only [List.all_cons,baT] at hx
  unfold VL at hv
  simp only [List.map_cons]
  unfold LR
  exact ⟨rf0_okR h hro hM hx.1 hv.1,rf0s_okR h hro hM hx.2 hv.2⟩
 | [],_ :: _,_,hv=>by unfold VL at hv; exact hv.elim
 | _ :: _,[],_,hv=>by unfold VL at hv; exact hv.elim
theorem rf1_okR (h : Sim F w0 gv s a w hdr) (hro : ∀ b,roOf F w hdr s.objs b -> R b) (hM : ∀ id o b,inL id ids = false -> s.objs id = some o -> (hdr id).has b -> R b) {x : AV} {v : Value} (hx : ok1 s ids x = true) (hv : VR (s.ctx F w hdr) x v) : RR w R (rf1 s x) v:=by
 cases x
 case agg cs =>
  simp only [rf1]
  simp only [ok1] at hx
  unfold VR at hv
  unfold RR
  obtain ⟨vs,e1,e2⟩:=hv
  exact ⟨vs,e1,rf0s_okR h hro hM hx e2⟩
 case ptr id idx off =>
  simp only [ok1,baT,Bool.not_eq_true'] at hx
  simp only [rf1]
  split
  ·split
   ·cases hc : s.cellsAt (.ptr id idx off) with
    | none=>simp only; unfold RR; trivial
    | some cs =>
     simp only
     have hx2:=hx.2
     rw [hc] at hx2
     obtain ⟨b,o,vs,e1,e2,e3⟩:=h.cellsAt hv hc
     have hRb : R b:=by
      unfold VR at hv
      obtain ⟨ob,b',k1,k2,k3⟩:=hv
      rw [e1] at k3
      cases k3
      exact hM id ob b hx.1 k1 (.inl k2)
     unfold RR
     exact ⟨b,o,e1,hRb,LR.cells _ (rf0s_okR h hro hM hx2 e2) (fun j u hj=>by have:=e3 j u hj; rwa [Addr.add_lit] at this)⟩
   ·unfold RR; trivial
  ·unfold RR; trivial
 all_goals exact rf0_okR h hro hM (by exact hx) hv
theorem rf1s_okR (h : Sim F w0 gv s a w hdr) (hro : ∀ b,roOf F w hdr s.objs b -> R b) (hM : ∀ id o b,inL id ids = false -> s.objs id = some o -> (hdr id).has b -> R b) : ∀ {xs : List AV} {vs : List Value},xs.all (ok1 s ids) = true -> VL (s.ctx F w hdr) xs vs -> LR w R (xs.map (rf1 s)) vs
 | [],[],_,_=>by simp only [List.map_nil]; unfold LR; trivial
 | x :: xs,v :: vs,hx,hv=>by
  simp only [List.all_cons,baT] at hx
  unfold VL at hv
  simp only [List.map_cons]
  unfold LR
  exact ⟨rf1_okR h hro hM hx.1 hv.1,rf1s_okR h hro hM hx.2 hv.2⟩
 | [],_ :: _,_,hv=>by unfold VL at hv; exact hv.elim
 | _ :: _,[],_,hv=>by unfold VL at hv; exact hv.elim
theorem rf_okR (h : Sim F w0 gv s a w hdr) (hro : ∀ b,roOf F w hdr s.objs b -> R b) (hM : ∀ id o b,inL id ids = false -> s.objs id = some o -> (hdr id).has b -> R b) {x : AV} {v : Value} (hx : okX s ids x = true) (hv : VR (s.ctx F w hdr) x v) : RR w R (rf s x) v:=by
 cases x
 case fn f caps =>
  simp only [rf]
  simp only [okX] at hx
  unfold VR at hv
  unfold RR
  obtain ⟨vs,e1,e2⟩:=hv
  exact ⟨vs,e1,rf1s_okR h hro hM hx e2⟩
 all_goals exact rf1_okR h hro hM (by exact hx) hv
end
end Go.Ab
namespace Go.Ab
open Go.RowKit
set_option linter.unusedVariables false
def outS (s : St) (ids : List Nat) : St :=
 match s with
 | ⟨e,z,o,n,g⟩=>⟨fun t=>(e t).sub (killsO ids) (killsP ids) (killsC ids),z,fun i=>match inL i ids with | true=>none | false=>(o i).map (subO (killsO ids) (killsP ids) (killsC ids)),n,AV.sub.subL (killsO ids) (killsP ids) (killsC ids) g⟩
def ObjsX (s : St) : List Nat -> List AObj -> Prop
 | [],[]=>True
 | id :: ids,o :: os=>s.objs id = some o /\ ObjsX s ids os
 | _,_=>False
theorem ObjsX_get {s : St} : ∀ {ids : List Nat} {os : List AObj},ObjsX s ids os -> ids.length = os.length /\ ∀ (k : Nat) (o : AObj),os[k]? = some o -> ∃ id,ids[k]? = some id /\ s.objs id = some o
 | [],[],_=>⟨rfl,fun k o h=>by simp at h⟩
 | id :: ids,o :: os,h=>by
  unfold ObjsX at h
  obtain ⟨e1,e2⟩:=ObjsX_get h.2
  refine ⟨by simp [e1],fun k o' hk=>?_⟩
  cases k with
  | zero=>simp at hk; subst hk; exact ⟨id,by simp,h.1⟩
  | succ k =>
   obtain ⟨id',q1,q2⟩:=e2 k o' (by simpa using hk)
   exact ⟨id',by simpa using q1,q2⟩
 | [],_ :: _,h=>by unfold ObjsX at h; exact h.elim
 | _ :: _,[],h=>by unfold ObjsX at h; exact h.elim
theorem ObjsX_back {s : St} : ∀ {ids : List Nat} {os : List AObj},ObjsX s ids os -> ∀ (k : Nat) id,ids[k]? = some id -> ∃ o,os[k]? = some o /\ s.objs id = some o
 | [],[],_=>fun k id h=>by simp at h
 | id :: ids,o :: os,h=>by
  unfold ObjsX at h
  intro k id' hk
  cases k with
  | zero=>simp at hk; subst hk; exact ⟨o,by simp,h.1⟩
  | succ k=>simpa using ObjsX_back h.2 k id' (by simpa using hk)
 | [],_ :: _,h=>by unfold ObjsX at h; exact h.elim
 | _ :: _,[],h=>by unfold ObjsX at h; exact h.elim
theorem dup_inj : ∀ {ids : List Nat},dupL ids = false -> ∀ (i j id : Nat),ids[i]? = some id -> ids[j]? = some id -> i = j
 | [],_,i,j,id,h,_=>by simp at h
 | x :: l,hd,i,j,id,hi,hj=>by
  simp only [dupL,Bool.or_eq_false_iff] at hd
  have hx:=inL_no.1 hd.1
  cases i with
  | zero =>
   simp at hi
   subst hi
   cases j with
   | zero=>rfl
   | succ j=>exact absurd (mgE (by simpa using hj)) hx
  | succ i =>
   cases j with
   | zero =>
    simp at hj
    subst hj
    exact absurd (mgE (by simpa using hi)) hx
   | succ j=>rw [dup_inj hd.2 i j id (by simpa using hi) (by simpa using hj)]
theorem CallX {P : Program} {f : Nat} {args args' : List AV} {s : St} {nid : Nat} {d : Option Nat} {K : St -> Prop} {r : AV} {os os' : List AObj} (hx : XC P f os args' r os') (ids : List Nat)
  (he : args.map (xarg s ids) = args') (hos : ObjsX s ids os) (hbx : os.all (fun o=>!o.box) = true) (hok : (!dupL ids && args.all (xok s ids)) = true) (hfree : freeFrom nid os' (outS s ids).objs = true)
  (h : addK (outS s ids) nid os' fun s'=>s'.putN d (r.shift nid) K) : CallA P f args s nid d K:=by
 subst he
 simp only [baT,Bool.not_eq_true'] at hok
 obtain ⟨hdup,hxok⟩:=hok
 unfold CallA
 refine .inl ?_
 intro F w0 gv a w hdr hs vals hv
 have hk : ∃ s1 : St,s1 = { outS s ids with objs:=addObjs nid os' (outS s ids).objs } /\ St.putN s1 d (r.shift nid) K:=by
  refine ⟨_,rfl,?_⟩
  unfold addK at h
  cases s
  exact h
 obtain ⟨s1,hs1,hk⟩:=hk
 obtain ⟨k1,k2⟩:=putK_elim (putN_elim hk)
 have hget:=(ObjsX_get hos).2
 have hlenI:=(ObjsX_get hos).1
 have hback:=ObjsX_back hos
 have hidsome : ∀ k id,ids[k]? = some id -> ids.getD k 0 = id:=fun k id h=>by rw [List.getD_eq_getElem?_getD,h]; rfl
 have hmem : ∀ id,inL id ids = true ↔ ∃ k,ids[k]? = some id:=fun id=>by
  rw [inL_mem]
  exact List.mem_iff_getElem?
 have hob : ∀ i,(outS s ids).objs i = if inL i ids = true then none else (s.objs i).map (subO (killsO ids) (killsP ids) (killsC ids)):=by
  intro i
  cases s
  show (match inL i ids with | true=>none | false=>_) = _
  cases inL i ids <;> simp
 have hR1 : ∀ b,(b < w.heap.size /\ ∀ (i : Nat) o,os[i]? = some o -> ¬ (hdr (ids.getD i 0)).has b) -> b < w.heap.size /\ ∀ (i : Nat) o,os[i]? = some o -> ¬ (hdr (ids.getD i 0)).has b:=fun _ h=>h
 have hro : ∀ b,roOf F w hdr s.objs b -> (b < w.heap.size /\ ∀ (i : Nat) o,os[i]? = some o -> ¬ (hdr (ids.getD i 0)).has b):=by
  intro b ⟨f1,f2,f3⟩
  refine ⟨f2,fun i o hi hb=>?_⟩
  obtain ⟨id,q1,q2⟩:=hget i o hi
  rw [hidsome i id q1] at hb
  exact f3 id o q2 hb
 have hM : ∀ id o b,inL id ids = false -> s.objs id = some o -> (hdr id).has b -> (b < w.heap.size /\ ∀ (i : Nat) o,os[i]? = some o -> ¬ (hdr (ids.getD i 0)).has b):=by
  intro id o b hid ho hb
  refine ⟨(hs.ge ho hb).2,fun i o' hi hb'=>?_⟩
  obtain ⟨id',q1,q2⟩:=hget i o' hi
  rw [hidsome i id' q1] at hb'
  have:=hs.dis id id' o o' b ho q2 hb hb'
  subst this
  have h2 : inL id ids = true:=(hmem id).2 ⟨i,q1⟩
  rw [hid] at h2
  cases h2
 obtain ⟨R,hR,hro,hM⟩ : ∃ R : Nat -> Prop,(∀ b,R b -> b < w.heap.size /\ ∀ (i : Nat) o,os[i]? = some o -> ¬ (hdr (ids.getD i 0)).has b) /\ (∀ b,roOf F w hdr s.objs b -> R b) /\ (∀ id o b,inL id ids = false -> s.objs id = some o -> (hdr id).has b -> R b) :=
  ⟨fun b=>b < w.heap.size /\ ∀ (i : Nat) o,os[i]? = some o -> ¬ (hdr (ids.getD i 0)).has b,hR1,hro,hM⟩
 have hobj : ∀ (i : Nat) o,os[i]? = some o -> ObjR (fun _=>True) ⟨w,R,fun k=>hdr (ids.getD k 0),fun i=>os[i]?⟩ o (hdr (ids.getD i 0)):=by
  intro i o hi
  obtain ⟨id,q1,q2⟩:=hget i o hi
  rw [hidsome i id q1]
  refine (hs.objs id o q2).reN (c:=s.ctx F w hdr) rfl (fun _ _=>trivial) (fun cs hcs=>?_)
  cases hkd : o.kind with
  | box =>
   have:=List.all_eq_true.1 hbx o (mgE hi)
   simp [AObj.box,hkd] at this
  | slc =>
   obtain ⟨q3,q4⟩:=hcs.slc hkd
   rw [q4]
   exact CellsR_slc hkd (LR.mono (fun _ _ _=>rfl) hro _ _ q3)
  | deep sh=>exact CellsR_deep hkd (hcs.deep hkd)
 have hdis : ∀ (i j : Nat) o o' b,os[i]? = some o -> os[j]? = some o' -> (hdr (ids.getD i 0)).has b -> (hdr (ids.getD j 0)).has b -> i = j:=by
  intro i j o o' b hi hj bi bj
  obtain ⟨id,q1,q2⟩:=hget i o hi
  obtain ⟨id',q3,q4⟩:=hget j o' hj
  rw [hidsome i id q1] at bi
  rw [hidsome j id' q3] at bj
  have:=hs.dis id id' o o' b q2 q4 bi bj
  subst this
  exact dup_inj hdup i j id q1 q3
 have hargs : ∀ (al : List AV) (vs : List Value),al.all (xok s ids) = true -> VL (s.ctx F w hdr) al vs -> VL ⟨w,R,fun k=>hdr (ids.getD k 0),fun i=>os[i]?⟩ (al.map (xarg s ids)) vs:=by
  intro al
  induction al with
  | nil=>intro vs _ hv; cases vs with
   | nil=>exact VL.nil
   | cons=>unfold VL at hv; exact hv.elim
  | cons x al ih=>intro vs hx hv; cases vs with
   | nil=>unfold VL at hv; exact hv.elim
   | cons v vs =>
    simp only [List.all_cons,baT] at hx
    unfold VL at hv
    refine VL.cons ?_ (ih vs hx.2 hv.2)
    have plainR : okX s ids x = true -> VR ⟨w,R,fun k=>hdr (ids.getD k 0),fun i=>os[i]?⟩ (rf s x) v:=fun ho=>RR.value (c:=⟨w,R,fun k=>hdr (ids.getD k 0),fun i=>os[i]?⟩) _ _ (rf_okR hs hro hM ho hv.1)
    unfold xarg
    split
    ·rename_i id
     split
     ·rename_i k hp
      obtain ⟨_,p2⟩:=posL_some hp
      rw [Nat.sub_zero] at p2
      obtain ⟨o,r1,r2⟩:=hback k id p2
      have hv1:=hv.1
      unfold VR at hv1 ⊢
      refine ⟨by show (os[k]?).isSome = true; rw [r1]; rfl,?_⟩
      show v = (hdr (ids.getD k 0)).v
      rw [hidsome k id p2]
      exact hv1.2
     ·rename_i hp
      refine plainR ?_
      simp only [okX,ok1,ok0,posL_none hp]
      rfl
    ·rename_i hne
     refine plainR ?_
     have hx1:=hx.1
     unfold xok at hx1
     split at hx1
     ·rename_i id
      exact absurd rfl (hne id)
     ·exact hx1
 have hTab : Tab w (fun b=>w.heap.size <= b \/ ∃ (j : Nat) (oj : AObj),os[j]? = some oj /\ (hdr (ids.getD j 0)).has b):=hs.tab fun x hx=>by
  rcases hx with hx | ⟨j,oj,y1,y2⟩
  ·exact w0.up x (Nat.le_trans hs.below.size hx)
  ·obtain ⟨id,q1,q2⟩:=hget j oj y1
   rw [hidsome j id q1] at y2
   exact (hs.ge q2 y2).1
 have hrun:=hx.run w R (fun k=>hdr (ids.getD k 0)) vals hTab hR hobj hdis (hargs args vals hxok hv)
 have mono : ∀ {A : Array Value} {Q Q' : Value -> World -> Prop},(∀ v w,Q v w -> Q' v w) -> Ans P f A w Q -> Ans P f A w Q':=by
  intro A Q Q' hQ h
  unfold Ans at h ⊢
  split at h
  ·exact hQ _ _ h
  ·exact h.mono fun e w' ⟨v,q1,q2⟩=>⟨v,q1,hQ _ _ q2⟩
  ·exact h.elim
 refine mono (fun v w' ⟨hdr',hr⟩=>?_) hrun
 refine ⟨_,k2,?_⟩
 have hnew : ∀ i,s1.objs i = if nid <= i /\ i < nid + os'.length then os'[i - nid]? else (outS s ids).objs i:=by
  intro i
  rw [hs1]
  exact addObjs_at os' nid _ i
 have hfr:=freeFrom_at os' nid (outS s ids).objs hfree
 have hold : ∀ i o1,inL i ids = false -> s.objs i = some o1 -> ¬ (nid <= i /\ i < nid + os'.length):=by
  intro i o1 hi ho ⟨c1,c2⟩
  have:=hfr i c1 c2
  rw [hob,if_neg (by rw [hi]; decide),ho] at this
  cases this
 have hkp : ∀ i o,s1.objs i = some o -> ¬ (nid <= i /\ i < nid + os'.length) -> inL i ids = false /\ ∃ o1,s.objs i = some o1 /\ o = subO (killsO ids) (killsP ids) (killsC ids) o1:=by
  intro i o hi hc
  rw [hnew,if_neg hc,hob] at hi
  by_cases hl : inL i ids = true
  ·rw [if_pos hl] at hi; cases hi
  ·rw [if_neg hl] at hi
   cases ho : s.objs i with
   | none=>rw [ho] at hi; cases hi
   | some o1 =>
    rw [ho] at hi
    exact ⟨by simpa using hl,o1,rfl,by simpa using hi.symm⟩
 have hon : ∀ i o1,inL i ids = false -> s.objs i = some o1 -> s1.objs i = some (subO (killsO ids) (killsP ids) (killsC ids) o1):=by
  intro i o1 hi ho
  rw [hnew,if_neg (hold i o1 hi ho),hob,if_neg (by rw [hi]; decide),ho]
  rfl
 generalize hH : (fun i=>if nid <= i /\ i < nid + os'.length then hdr' (i - nid) else hdr i) = hdrN
 have hHin : ∀ i,(nid <= i /\ i < nid + os'.length) -> hdrN i = hdr' (i - nid):=fun i hi=>by rw [<- hH]; simp only; rw [if_pos hi]
 have hHout : ∀ i,¬ (nid <= i /\ i < nid + os'.length) -> hdrN i = hdr i:=fun i hi=>by rw [<- hH]; simp only; rw [if_neg hi]
 have hnewO : ∀ i o,s1.objs i = some o -> (nid <= i /\ i < nid + os'.length) -> os'[i - nid]? = some o:=fun i o hi hc=>by rw [hnew,if_pos hc] at hi; exact hi
 have hhand : ∀ b,(∃ (j : Nat) (oj : AObj),os[j]? = some oj /\ (hdr (ids.getD j 0)).has b) -> ∃ j oj,inL j ids = true /\ s.objs j = some oj /\ (hdr j).has b:=by
  intro b ⟨j,oj,q1,q2⟩
  obtain ⟨id,r1,r2⟩:=hget j oj q1
  rw [hidsome j id r1] at q2
  exact ⟨id,oj,(hmem id).2 ⟨j,r1⟩,r2,q2⟩
 have hbl : ∀ k,k < w.heap.size -> ¬ (∃ j oj,inL j ids = true /\ s.objs j = some oj /\ (hdr j).has k) -> w'.heap[k]? = w.heap[k]?:=by
  intro k hk hn
  refine hr.block k hk fun i o hi hb=>hn ?_
  exact hhand k ⟨i,o,hi,hb⟩
 have hsim : Sim F w0 gv s1 a w' hdrN:=by
  refine hs.recast (s':=s1) (hdr':=hdrN) (so:=killsO ids) (sp:=killsP ids) (sc:=killsC ids) (fun k=>∃ j oj,inL j ids = true /\ s.objs j = some oj /\ (hdr j).has k) (fun i=>nid <= i /\ i < nid + os'.length) hr.sys hr.tape hr.output hr.size hbl (fun k ⟨j,oj,q0,q1,q2⟩=>⟨j,oj,q1,q2⟩)
   (fun t=>by rw [hs1]; cases s; rfl) (by rw [hs1]; cases s; rfl) (by rw [hs1]; cases s; rfl) ?_ ?_ ?_ ?_ ?_ ?_ ?_ ?_
  ·intro i o b hi hb
   by_cases hc : nid <= i /\ i < nid + os'.length
   ·rw [hHin i hc] at hb
    rcases ((hr.objs _ o (hnewO i o hi hc)).2.has hb).1 with h1 | h1
    ·exact .inr h1
    ·obtain ⟨j,oj,_,q1,q2⟩:=hhand b h1
     exact .inl ⟨j,oj,q1,q2⟩
   ·obtain ⟨_,o1,ho1,_⟩:=hkp i o hi hc
    rw [hHout i hc] at hb
    exact .inl ⟨i,o1,ho1,hb⟩
  ·intro j v hj
   simp only [killsO]
   cases hl : inL j ids with
   | true=>exact any_ok
   | false =>
    simp only
    unfold VR at hj ⊢
    obtain ⟨h1,h2⟩:=hj
    obtain ⟨o1,ho1⟩:=Option.isSome_iff_exists.1 h1
    replace ho1 : s.objs j = some o1:=ho1
    refine ⟨by show (s1.objs j).isSome = true; rw [hon j o1 hl ho1]; rfl,?_⟩
    show v = (hdrN j).v
    rw [hHout j (hold j o1 hl ho1)]
    exact h2
  ·intro j x y v hj
   simp only [killsP]
   cases hl : inL j ids with
   | true=>exact any_ok
   | false =>
    simp only
    unfold VR at hj ⊢
    obtain ⟨o1,b,h1,h2,h3⟩:=hj
    replace h1 : s.objs j = some o1:=h1
    refine ⟨_,b,hon j o1 hl h1,?_,by rw [(subO_esz _ _ _ o1).1]; exact h3⟩
    show (hdrN j).blk = some b
    rw [hHout j (hold j o1 hl h1)]
    exact h2
  ·intro j x y z v hj
   simp only [killsC]
   cases hl : inL j ids with
   | true=>exact any_ok
   | false =>
    simp only
    unfold VR at hj ⊢
    obtain ⟨o1,b,sh,e,h1,hk,q1,q2,h2,h3⟩:=hj
    replace h1 : s.objs j = some o1:=h1
    have hsame : subO (killsO ids) (killsP ids) (killsC ids) o1 = o1:=by simp [subO,hk]
    have hon1:=hon j o1 hl h1
    rw [hsame] at hon1
    refine ⟨o1,b,sh,e,hon1,hk,q1,q2,?_,?_⟩
    ·show (hdrN j).blk = some b
     rw [hHout j (hold j o1 hl h1)]; exact h2
    ·refine (World.cell?_of_block (w:=w) (w':=w') (a:=⟨b,_,none⟩) (hbl b (hs.ge h1 (.inl h2)).2 fun ⟨k,ok,r0,r1,r2⟩=>?_)).trans h3
     have:=hs.dis j k o1 ok b h1 r1 (.inl h2) r2
     subst this
     rw [hl] at r0; cases r0
  ·intro i j x y z lo n cp v e hj
   simp only [killsC] at e
   cases hl : inL i ids with
   | true=>rw [hl] at e; cases e
   | false =>
    rw [hl] at e
    cases e
    obtain ⟨o1,h1,h2,h3,h4⟩:=hj
    replace h1 : s.objs i = some o1:=h1
    obtain ⟨e1,e2,e3,e4⟩:=subO_esz (killsO ids) (killsP ids) (killsC ids) o1
    refine ⟨_,hon i o1 hl h1,by rw [subO_box]; exact h2,h3,?_⟩
    rw [e1]
    show _ \/ (_ /\ ∃ b m,(hdrN i).v = _ /\ _)
    rw [hHout i (hold i o1 hl h1)]
    exact h4
  ·intro i o hi hc
   obtain ⟨hl,o1,ho1,e⟩:=hkp i o hi hc
   refine ⟨o1,ho1,e,hHout i hc,fun b hb ⟨k,ok,r0,r1,r2⟩=>?_⟩
   have:=hs.dis i k o1 ok b ho1 r1 hb r2
   subst this
   rw [hl] at r0; cases r0
  ·intro hRR i o hi hc
   obtain ⟨hb0,ho⟩:=hr.objs _ o (hnewO i o hi hc)
   rw [hHin i hc]
   refine ho.reN (c:=⟨w',fun _=>False,hdr',fun i=>os'[i]?⟩) rfl (fun b hb=>?_) (fun cs hcs=>?_)
   ·rcases (ho.has hb).1 with h1 | h1
    ·exact w0.up b (Nat.le_trans hs.below.size h1)
    ·obtain ⟨j,oj,_,q1,q2⟩:=hhand b h1
     exact (hs.ge q1 q2).1
   ·cases hkd : o.kind with
    | box=>unfold AObj.box at hb0; rw [hkd] at hb0; cases hb0
    | slc =>
     obtain ⟨q1,q2⟩:=hcs.slc hkd
     rw [q2]
     exact CellsR_slc hkd (LR.mono (fun _ _ h=>h.elim) (fun _ h=>h.elim) _ _ q1)
    | deep sh=>exact CellsR_deep hkd (hcs.deep hkd)
  ·have key : ∀ i j o o' b,s1.objs i = some o -> s1.objs j = some o' -> (nid <= i /\ i < nid + os'.length) -> ¬ (nid <= j /\ j < nid + os'.length) -> (hdrN i).has b -> (hdrN j).has b -> False:=by
    intro i j o o' b hi hj ci cj bi bj
    rw [hHin i ci] at bi
    rw [hHout j cj] at bj
    obtain ⟨hl,o1,ho1,_⟩:=hkp j o' hj cj
    rcases ((hr.objs _ o (hnewO i o hi ci)).2.has bi).1 with h1 | h1
    ·have:=(hs.ge ho1 bj).2; omega
    ·obtain ⟨k,ok,r0,r1,r2⟩:=hhand b h1
     have:=hs.dis j k o1 ok b ho1 r1 bj r2
     subst this
     rw [hl] at r0; cases r0
   intro i j o o' b hi hj bi bj
   by_cases ci : nid <= i /\ i < nid + os'.length
   ·by_cases cj : nid <= j /\ j < nid + os'.length
    ·rw [hHin i ci] at bi
     rw [hHin j cj] at bj
     have:=hr.dis _ _ o o' b (hnewO i o hi ci) (hnewO j o' hj cj) bi bj
     omega
    ·exact (key i j o o' b hi hj ci cj bi bj).elim
   ·by_cases cj : nid <= j /\ j < nid + os'.length
    ·exact (key j i o' o b hj hi cj ci bj bi).elim
    ·obtain ⟨_,o1,ho1,_⟩:=hkp i o hi ci
     obtain ⟨_,o2,ho2,_⟩:=hkp j o' hj cj
     rw [hHout i ci] at bi
     rw [hHout j cj] at bj
     exact hs.dis i j o1 o2 b ho1 ho2 bi bj
 refine ⟨hdrN,hsim.put k1 ?_⟩
 have hin : ∀ id o,os'[id]? = some o -> s1.objs (nid + id) = some o /\ hdrN (nid + id) = hdr' id:=by
  intro id o ho
  have hlt : id < os'.length:=(List.getElem?_eq_some_iff.1 ho).1
  have hc : nid <= nid + id /\ nid + id < nid + os'.length:=⟨by omega,by omega⟩
  refine ⟨by rw [hnew,if_pos hc,show nid + id - nid = id by omega]; exact ho,by rw [hHin _ hc,show nid + id - nid = id by omega]⟩
 unfold AV.shift
 refine VR.sub (c:=⟨w',fun _=>False,hdr',fun i=>os'[i]?⟩) (c':=s1.ctx F w' hdrN) (fun x v=>RR.mono (fun _ _ h=>h.elim) (fun _ h=>h.elim) x v) ?_ ?_ ?_ ?_ r v hr.val
 ·intro id u hu
  unfold VR at hu ⊢
  obtain ⟨u1,u2⟩:=hu
  obtain ⟨o,ho⟩:=Option.isSome_iff_exists.1 u1
  obtain ⟨q1,q2⟩:=hin id o ho
  exact ⟨by show (s1.objs _).isSome = true; rw [q1]; rfl,by show u = (hdrN _).v; rw [q2]; exact u2⟩
 ·intro id x y u hu
  unfold VR at hu ⊢
  obtain ⟨o,b,u1,u2,u3⟩:=hu
  obtain ⟨q1,q2⟩:=hin id o u1
  exact ⟨o,b,q1,by show (hdrN _).blk = _; rw [q2]; exact u2,u3⟩
 ·intro id x y z u hu
  unfold VR at hu ⊢
  obtain ⟨o,b,sh,e,u1,u4,u5,u6,u2,u3⟩:=hu
  obtain ⟨q1,q2⟩:=hin id o u1
  exact ⟨o,b,sh,e,q1,u4,u5,u6,by show (hdrN _).blk = _; rw [q2]; exact u2,u3⟩
 ·intro id j x y z lo m cp u e hu
  cases e
  obtain ⟨o,u1,u2,u3,u4⟩:=hu
  obtain ⟨q1,q2⟩:=hin id o u1
  refine ⟨o,q1,u2,u3,?_⟩
  show _ \/ (_ /\ ∃ b m,(hdrN (nid + id)).v = _ /\ _)
  rw [q2]
  exact u4
end Go.Ab
namespace Go.Ab
open Go.RowKit
set_option linter.unusedVariables false
theorem hook_copyO {P : Program} {s : St} {K : St -> Prop} {dst : Option Tmp} {type : TypeId} {pos : String} {after : Array Edge} {guard : Option (Nat × Bool)} {nid : Nat} {x y : Operand} {T T' e : TypeId} {args : Array Operand} {tys : Array TypeId} {id ty esz m : Nat} {es ys : List (List AV)} (ha : args.toList = [x,y]) (hty : tys.toList = [T,T']) (he : elemOf? P T = some e) (hz : sizeOf? P e = some esz)
  (hx : s.val x = .own id) (ho : s.objs id = some ⟨.slc,ty,esz,es⟩) (hy : srcE s (s.val y) = some (esz,ys)) (hf : srcFit s (s.val y)) (hm : min ys.length es.length = m)
  (h : forceS (setObj s id ⟨.slc,ty,esz,splice es 0 (ys.take m)⟩) fun s'=>s'.putK dst (.int .i64 (m : Int)) K) : HookA P ⟨dst,.call ⟨.builtin .copy,args,tys⟩,type,pos,after,guard⟩ nid s K:=by
 replace hm : Nat.min ys.length es.length = m:=hm
 have ha' : args = #[x,y]:=by rw [<- ha]
 have ht' : tys = #[T,T']:=by rw [<- hty]
 subst ha' ht'
 rw [forceS_eq] at h
 refine hook_of ?_
 intro F w0 gv a w ⟨hdr,hs⟩ next Q hn
 obtain ⟨k1,k2⟩:=putK_elim h
 have hT:=elemOf?_some he
 obtain ⟨i',hi',hsz⟩:=sizeOf?_info hz
 obtain ⟨cp,base,c1,c2,c3,_⟩:=hs.raw ho
 have hv:=hs.val x
 rw [hx] at hv
 unfold VR at hv
 obtain ⟨_,hv⟩:=hv
 replace hv : a.eval x = (hdr id).v:=hv
 rw [c3] at hv
 obtain ⟨sb,sc,news,f1,f2,f3,f4,f5⟩:=srcArg hs (hs.val y) hy hf
 have hnl : news.length = ys.length * esz:=by rw [<- f2.length,flatten_length esz ys f4]
 have hmy : m <= ys.length:=by rw [<- hm]; exact Nat.min_le_left _ _
 have hmn : m <= es.length:=by rw [<- hm]; exact Nat.min_le_right _ _
 replace f5:=f5.imp_left fun q=>(⟨by rw [q.1]; rfl,q.2⟩ : ys.length = 0 /\ sb = none)
 have htl : (ys.take m).length = m:=by rw [List.length_take]; omega
 have hfl : LR w (roOf F w hdr s.objs) (ys.take m).flatten (news.take (m * esz)):=by
  rw [flatten_take esz m ys f4]
  exact f2.take _
 have fin : ∀ w' hdr',(Builtin.copy_ #[T,T'] type #[a.eval x,a.eval y]).run P w = .ok (goInt m) w' -> Sim F w0 gv (setObj s id ⟨.slc,ty,esz,splice es 0 (ys.take m)⟩) a w' hdr' -> Oper.wp P ⟨dst,.call ⟨.builtin .copy,#[x,y],#[T,T']⟩,type,pos,after,guard⟩ a w next Q:=by
  intro w' hdr' hr hsim
  have hrun : (execOp a.eval ⟨dst,.call ⟨.builtin .copy,#[x,y],#[T,T']⟩,type,pos,after,guard⟩).run P w = .ok (.value (.int .i64 (m : Int))) w':=by
   simp [execOp,resolve,invoke,builtin,hr,goInt]
  unfold Oper.wp
  rw [hrun]
  exact hn _ _ _ k2 ⟨hdr',hsim.put k1 (by unfold VR; rfl)⟩
 obtain ⟨cs,hrow,_⟩:=(hs.objs id _ ho).row
 rcases hrow.2 with ⟨b0,e1,e2⟩ | ⟨g,cap,cur,e1,e0,_⟩
 ·have hm0 : m = 0:=by
   have : es.length = 0:=e2
   omega
  refine fin w hdr ?_ ?_
  ·rw [hv,f1,<- hm]
   refine run_copyK hT hi' hsz hnl f5 (fun ad _=>?_) (fun _=>rfl)
   rw [hm,hm0]
   simp [storeCells]
  ·rw [hm0,List.take_zero,splice_nil,setObj_self ho]
   exact hs
 ·replace e1 : (hdr id).v = _:=e1
  rw [c3] at e1
  cases e1
  obtain ⟨w',r1,_,r2,_⟩:=hs.storeEs ho (b:=g) (m:=es.length) (cap:=cp) c3 e0 (k:=0) (ys:=ys.take m) (vs:=news.take (m * esz)) (Nat.zero_le _) (by rw [htl]; omega) (fun z hz=>f4 z (List.mem_of_mem_take hz)) hfl (fun u hu=>f3 u (List.mem_of_mem_take hu))
  obtain ⟨hdr',_,_,hsim⟩:=r2 (by rw [htl]; omega)
  refine fin w' hdr' ?_ hsim
  rw [hv,f1,<- hm]
  refine run_copyK hT hi' hsz hnl f5 (fun ad had=>?_) (fun e=>by cases e)
  cases had
  rw [hm]
  have:=r1 P
  rw [Nat.zero_mul] at this
  exact this
def deNil (a : AV) : AV:=match a with | .nil=>.sl [] | a=>a
def posS : Shp -> Bool
 | .leaf=>true
 | .sl _ e _=>Nat.blt 0 e
theorem TR.deNil {w : World} {a : AV} {sh : Shp} {v : Value} {S : List Nat} (hp : posS sh = true) (h : TR w a sh v S) : TR w (deNil a) sh v S:=by
 unfold Ab.deNil
 split
 ·unfold TR at h
  obtain ⟨⟨ty,esz,cells,rfl⟩,⟨base,rfl⟩,rfl⟩:=h
  have hpos : 0 < esz:=nbT hp
  unfold TR
  refine ⟨ty,esz,cells,[],[],rfl,hpos,⟨by simp,.inl ⟨base,rfl,rfl⟩⟩,by simp,by rw [blk_zero]; rfl,?_⟩
  unfold TEs
  exact ⟨rfl,rfl⟩
 ·exact h
theorem TL.deNil {w : World} : ∀ {al : List AV} {shs : List Shp} {vs : List Value} {S : List Nat},shs.all posS = true -> TL w al shs vs S -> TL w (al.map Ab.deNil) shs vs S
 | [],shs,vs,S,_,h=>by simpa using h
 | a :: al,shs,vs,S,hp,h=>by
  unfold TL at h
  obtain ⟨sh,shs',v,vs',S1,S2,rfl,rfl,rfl,h1,h2⟩:=h
  simp only [List.all_cons,baT] at hp
  simp only [List.map_cons]
  unfold TL
  exact ⟨sh,shs',v,vs',S1,S2,rfl,rfl,rfl,TR.deNil hp.1 h1,TL.deNil hp.2 h2⟩
theorem TEs.deNil {w : World} {esz : Nat} {cells : List Shp} (hp : cells.all posS = true) : ∀ {xs : List (List AV)} {vs : List Value} {S : List Nat},TEs w esz cells xs vs S -> TEs w esz cells (xs.map (List.map Ab.deNil)) vs S
 | [],vs,S,h=>by simpa using h
 | x :: xs,vs,S,h=>by
  unfold TEs at h
  obtain ⟨v1,v2,S1,S2,e1,e2,e3,h1,h2⟩:=h
  simp only [List.map_cons]
  unfold TEs
  exact ⟨v1,v2,S1,S2,e1,e2,e3,TL.deNil hp h1,TEs.deNil hp h2⟩
theorem St.le_deNil {s : St} {ty esz : Nat} {sh : List Shp} {es : List (List AV)} (id : Nat) (ho : s.objs id = some ⟨.deep sh,ty,esz,es⟩) (hp : sh.all posS = true) : s.le (takeIn s [] id ⟨.deep sh,ty,esz,es.map (List.map deNil)⟩):=by
 intro F w0 gv a w ⟨hdr,hs⟩
 obtain ⟨hpos,hlens,hnd,cs,hrow,hone,hcl⟩:=hs.objs id _ ho
 have hH : (fun i=>if i = id then hdr id else hdr i) = hdr:=by
  funext i
  by_cases e : i = id
  ·simp [e]
  ·simp [e]
 have:=hs.moved (ids:=[]) (id:=id) (o':=⟨.deep sh,ty,esz,es.map (List.map deNil)⟩) (w':=w) (h':=hdr id) rfl rfl rfl (Nat.le_refl _) (fun _ _ _=>rfl) (fun _ o1 h1=>by rw [ho] at h1; cases h1; exact ⟨rfl,rfl⟩) ?_ ?_
 ·exact ⟨_,this⟩
 ·intro _
  refine ⟨hpos,fun e he=>?_,hnd,cs,?_,hone,CellsR_deep (sh:=sh) rfl ?_⟩
  ·simp only [List.mem_map] at he
   obtain ⟨e0,h0,rfl⟩:=he
   rw [List.length_map]
   exact hlens e0 h0
  ·show OwnR w w0.N ty esz (hdr id).v (es.map (List.map deNil)).length cs
   rw [List.length_map]
   exact hrow
  ·exact TEs.deNil hp (hcl.deep rfl)
 ·intro b hb
  exact .inl ⟨_,ho,hb⟩
theorem OutA_deNil {P : Program} {sh : Bool} {rs : List ResultVar} {r : AV} {os : List AObj} {s : St} {ty esz : Nat} {shp : List Shp} {es : List (List AV)} (id : Nat) (ho : s.objs id = some ⟨.deep shp,ty,esz,es⟩) (hp : shp.all posS = true)
  (h : OutA P sh rs r os (takeIn s [] id ⟨.deep shp,ty,esz,es.map (List.map deNil)⟩)) : OutA P sh rs r os s:=OutA_le (St.le_deNil id ho hp) h
section
variable {α : Type} {q : α -> Bool} {xs es : List α} {i j : Nat} {x : α}
theorem idxF_some : ∀ {xs : List α} {k i : Nat},idxF q k xs = ((k + i : Nat) : Int) -> ∃ x,xs[i]? = some x /\ q x = true /\ ∀ y ∈ xs.take i,q y = false
 | [],k,i,h=>by unfold idxF at h; omega
 | y :: ys,k,i,h=>by
  unfold idxF at h
  split at h
  ·rename_i hq
   have : i = 0:=by omega
   subst this
   exact ⟨y,rfl,hq,fun z hz=>by simp at hz⟩
  ·rename_i hq
   have hi : i ≠ 0:=by
    intro e
    subst e
    rcases Int.lt_or_le (idxF q (k + 1) ys) 0 with h1 | h1
    ·omega
    ·obtain ⟨_,_,_,h2⟩:=idxF_lt (q:=q) (xs:=ys) (k:=k + 1) rfl h1
     omega
   obtain ⟨i',rfl⟩ : ∃ i',i = i' + 1:=⟨i - 1,by omega⟩
   obtain ⟨x,h1,h2,h3⟩:=idxF_some (xs:=ys) (k:=k + 1) (i:=i') (by rw [h]; congr 1; omega)
   refine ⟨x,by simpa using h1,h2,fun z hz=>?_⟩
   simp only [List.take_succ_cons,List.mem_cons] at hz
   rcases hz with rfl | hz
   ·simpa using hq
   ·exact h3 z hz
theorem idxF_bound (q : α -> Bool) (xs : List α) : idxF q 0 xs = -1 \/ (0 <= idxF q 0 xs /\ idxF q 0 xs < xs.length):=by
 rcases Int.lt_or_le (idxF q 0 xs) 0 with h | h
 ·left
  have : ∀ (xs : List α) (k : Nat),idxF q k xs < 0 -> idxF q k xs = -1:=by
   intro xs
   induction xs with
   | nil=>intro k _; rfl
   | cons y ys ih =>
    intro k hk
    unfold idxF at hk ⊢
    split
    ·rename_i hq; rw [if_pos hq] at hk; omega
    ·rename_i hq; rw [if_neg hq] at hk; exact ih _ hk
  exact this xs 0 h
 ·right
  obtain ⟨x,h1,_⟩:=idxF_lt (q:=q) (xs:=xs) (k:=0) rfl h
  have:=(List.getElem?_eq_some_iff.1 h1).1
  omega
def DelInv (q : α -> Bool) (xs es : List α) (i j : Nat) : Prop:=es.length = xs.length /\ i < j /\ j <= xs.length /\ es.take i = (xs.take j).filter (fun y=>!q y) /\ es.drop j = xs.drop j
theorem DelInv.start (h : ¬ idxF q 0 xs = -1) : DelInv q xs xs (idxF q 0 xs).toNat ((idxF q 0 xs).toNat + 1):=by
 rcases idxF_bound q xs with h1 | ⟨h1,h2⟩
 ·exact absurd h1 h
 ·obtain ⟨x,e1,e2,e3⟩:=idxF_some (q:=q) (xs:=xs) (k:=0) (i:=(idxF q 0 xs).toNat) (by omega)
  refine ⟨rfl,by omega,by omega,?_,rfl⟩
  rw [List.take_add_one,e1,List.filter_append,List.filter_eq_self.2 (fun y hy=>by rw [e3 y hy]; rfl)]
  simp [e2]
theorem DelInv.get (h : DelInv q xs es i j) (hx : es[j]? = some x) : xs[j]? = some x:=by
 have h1 : (es.drop j)[0]? = some x:=by simpa using hx
 rw [h.2.2.2.2] at h1
 simpa using h1
theorem DelInv.keep (h : DelInv q xs es i j) (hx : es[j]? = some x) (hq : q x = false) : DelInv q xs (es.set i x) (i + 1) (j + 1):=by
 have hx2:=h.get hx
 obtain ⟨h1,h2,h3,h4,h5⟩:=h
 have hj:=(List.getElem?_eq_some_iff.1 hx2).1
 refine ⟨by simp [h1],by omega,by omega,?_,?_⟩
 ·rw [List.take_add_one,List.take_set_of_le (Nat.le_refl _),h4,List.getElem?_set,if_pos rfl,if_pos (by omega),List.take_add_one,hx2,List.filter_append]
  simp [hq]
 ·rw [List.drop_set_of_lt (by omega)]
  rw [<- List.drop_drop,<- List.drop_drop,h5]
theorem DelInv.skip (h : DelInv q xs es i j) (hx : es[j]? = some x) (hq : q x = true) : DelInv q xs es i (j + 1):=by
 have hx2:=h.get hx
 obtain ⟨h1,h2,h3,h4,h5⟩:=h
 have hj:=(List.getElem?_eq_some_iff.1 hx2).1
 refine ⟨h1,by omega,by omega,?_,?_⟩
 ·rw [h4,List.take_add_one,hx2,List.filter_append]
  simp [hq]
 ·rw [<- List.drop_drop,<- List.drop_drop,h5]
theorem DelInv.done (h : DelInv q xs es i j) (hj : ¬ (j : Int) < xs.length) : es.take i = xs.filter (fun y=>!q y):=by
 rw [h.2.2.2.1,List.take_of_length_le (by omega)]
end
theorem splice_lenU {α : Type} {A ys : List α} {k : Nat} : (splice A k ys).length = min k A.length + ys.length + (A.length - (k + ys.length)):=by
 unfold splice
 simp only [laT,List.length_take,List.length_drop]
end Go.Ab
namespace Go.Ab
open Go.RowKit
set_option linter.unusedVariables false
def detO (s : St) (id nid : Nat) (o1 o2 : AObj) : St :=
 match takeIn s [] id o1 with
 | ⟨e,z,ob,n,g⟩=>⟨e,z,fun i=>if i = nid then some o2 else ob i,n,g⟩
def detK (dp : Bool) (cells : List Shp) : BK:=match dp with | true=>.deep cells | false=>.slc
def detS (s : St) (t id nid : Nat) (o1 o2 : AObj) : St :=
 match detO s id nid o1 o2 with
 | ⟨e,z,ob,n,g⟩=>⟨upd t (.own nid) e,z,ob,n,g⟩
section
variable {F : Nat -> Prop} {w0 : Base} {gv : List Value} {s : St} {a : Act} {w : World} {hdr : Nat -> Hdr}
theorem Sim.detach {id nid ty esz ty' esz' idx off : Nat} {sh cells : List Shp} {es : List (List AV)} {e : List AV} {xs : List (List AV)} {v : Value} (dp : Bool) (hs : Sim F w0 gv s a w hdr)
  (ho : s.objs id = some ⟨.deep sh,ty,esz,es⟩) (he : es[idx]? = some e) (hsh : sh[off]? = some (.sl ty' esz' cells)) (hid : s.objs nid = none) (hv : VR (s.ctx F w hdr) (.cel id idx off xs) v) :
  ∃ hdr',(hdr' nid).v = v /\ Sim F w0 gv (detO s id nid ⟨.deep sh,ty,esz,es.set idx (e.set off .any)⟩ ⟨detK dp cells,ty',esz',xs⟩) a w hdr':=by
 unfold VR at hv
 obtain ⟨o1,blk,sh1,e1,r1,r2,r3,r4,r5,r6⟩:=hv
 replace r1 : s.objs id = some o1:=r1
 rw [ho] at r1
 cases r1
 cases r2
 replace r3 : es[idx]? = some e1:=r3
 rw [he] at r3
 cases r3
 obtain ⟨hpos,hlens,⟨n1,n2,n3⟩,cs,hrow,hone,hcl⟩:=hs.objs id _ ho
 have htree:=hcl.deep rfl
 obtain ⟨S1,Se,S2,q1,q2,q3,q4⟩:=htree.at he
 obtain ⟨T1,Ta,T2,shc',v',f1,f2,f3,f4,f5,f6⟩:=q2.at r4
 rw [hsh] at f2
 cases f2
 have hlt : off < esz:=by
  have h1 : e.length = esz:=hlens e (mgE he)
  have h2:=(List.getElem?_eq_some_iff.1 r4).1
  omega
 have f7 : cs[idx * esz + off]? = some v':=by
  rw [List.getElem?_take,if_pos hlt,List.getElem?_drop] at f3
  exact f3
 have hc:=hrow.cells r5 _ _ f7
 rw [Addr.add_lit,Nat.zero_add] at hc
 have hvv : v' = v:=Option.some.inj (hc.symm.trans r6)
 subst hvv
 have hfp : (hdr id).fp = (S1 ++ T1) ++ Ta ++ (T2 ++ S2):=by rw [q1,f1]; simp [List.append_assoc]
 have hin : ∀ b ∈ Ta,b ∈ (hdr id).fp:=fun b hb=>by rw [hfp]; exact List.mem_append_left _ (List.mem_append_right _ hb)
 have hnd0:=n1
 rw [hfp] at hnd0
 have hTaN : Ta.Nodup:=by
  have:=hnd0
  rw [List.nodup_append] at this
  have:=this.1
  rw [List.nodup_append] at this
  exact this.2.1
 have hsep : ∀ b ∈ Ta,b ∉ S1 ++ T1 /\ b ∉ T2 ++ S2:=by
  intro b hb
  have h0:=hnd0
  rw [List.nodup_append] at h0
  have h1:=h0.1
  rw [List.nodup_append] at h1
  exact ⟨fun h=>h1.2.2 b h b hb rfl,fun h=>h0.2.2 b (List.mem_append_right _ hb) b h rfl⟩
 have hold : ∀ b,b ∈ S1 ++ T1 \/ b ∈ T2 ++ S2 -> b ∈ (hdr id).fp:=fun b hb=>by
  rw [hfp]
  rcases hb with hb | hb
  ·exact List.mem_append_left _ (List.mem_append_left _ hb)
  ·exact List.mem_append_right _ hb
 unfold TR at f4
 obtain ⟨ty2,esz2,cells2,cs2,S',g1,g2,g3,g4,g5,g6⟩:=f4
 cases g1
 have hne : id ≠ nid:=fun e=>by rw [<- e,ho] at hid; cases hid
 have hS'in : ∀ b ∈ S',b ∈ Ta:=fun b hb=>by rw [g5]; exact List.mem_append_right _ hb
 have hvin : ∀ b,v'.blk = some b -> b ∈ Ta:=fun b hb=>by rw [g5,hb]; simp
 have hS'nd : S'.Nodup:=by rw [g5,List.nodup_append] at hTaN; exact hTaN.2.1
 have hvS' : ∀ b,v'.blk = some b -> b ∉ S':=fun b hb hb'=>by
  rw [g5,List.nodup_append] at hTaN
  exact hTaN.2.2 b (by rw [hb]; simp) b hb' rfl
 generalize hfp2 : (match dp with | true=>S' | false=>([] : List Nat)) = fp2
 have hfp2in : ∀ b ∈ fp2,b ∈ S':=fun b hb=>by
  rw [<- hfp2] at hb
  cases dp <;> simp at hb
  exact hb
 have hfp2nd : fp2.Nodup:=by rw [<- hfp2]; cases dp <;> simp [hS'nd]
 generalize hH : (fun i=>if i = nid then (⟨v',fp2⟩ : Hdr) else if i = id then ⟨(hdr id).v,(S1 ++ T1) ++ (T2 ++ S2)⟩ else hdr i) = hdr'
 have hHn : hdr' nid = ⟨v',fp2⟩:=by rw [<- hH]; simp
 have hHi : hdr' id = ⟨(hdr id).v,(S1 ++ T1) ++ (T2 ++ S2)⟩:=by rw [<- hH]; simp [hne]
 have hHo : ∀ i,i ≠ nid -> i ≠ id -> hdr' i = hdr i:=fun i h1 h2=>by rw [<- hH]; simp [h1,h2]
 have hHv : ∀ i,i ≠ nid -> (hdr' i).v = (hdr i).v:=fun i h1=>by
  by_cases h2 : i = id
  ·subst h2; rw [hHi]
  ·rw [hHo i h1 h2]
 generalize hs' : detO s id nid ⟨.deep sh,ty,esz,es.set idx (e.set off .any)⟩ ⟨detK dp cells,ty',esz',xs⟩ = s'
 have hon : s'.objs nid = some ⟨detK dp cells,ty',esz',xs⟩:=by rw [<- hs']; simp [detO,takeIn]
 have hoi : s'.objs id = some ⟨.deep sh,ty,esz,es.set idx (e.set off .any)⟩:=by rw [<- hs']; simp [detO,takeIn,hne]
 have hoo : ∀ i,i ≠ nid -> i ≠ id -> s'.objs i = (s.objs i).map (subO (killsO []) (killsP []) (killsC [id])):=fun i h1 h2=>by rw [<- hs']; simp [detO,takeIn,h1,h2,inL]
 have hinid : ∀ b,(hdr' id).has b -> (hdr id).has b:=by
  intro b hb
  rw [hHi] at hb
  rcases hb with hb | hb
  ·exact .inl hb
  ·rcases List.mem_append.1 hb with hb | hb
   ·exact .inr (hold b (.inl hb))
   ·exact .inr (hold b (.inr hb))
 have hinn : ∀ b,(hdr' nid).has b -> b ∈ Ta:=by
  intro b hb
  rw [hHn] at hb
  rcases hb with hb | hb
  ·exact hvin b hb
  ·exact hS'in b (hfp2in b hb)
 have hsepI : ∀ b,(hdr' id).has b -> b ∈ Ta -> False:=by
  intro b hb hbT
  rw [hHi] at hb
  rcases hb with hb | hb
  ·exact n2 b hb (hin b hbT)
  ·rcases List.mem_append.1 hb with hb | hb
   ·exact (hsep b hbT).1 hb
   ·exact (hsep b hbT).2 hb
 have hcase : ∀ i oi,s'.objs i = some oi -> i = nid \/ i = id \/ (i ≠ nid /\ i ≠ id /\ ∃ o1,s.objs i = some o1 /\ oi = subO (killsO []) (killsP []) (killsC [id]) o1):=by
  intro i oi hi
  by_cases h1 : i = nid
  ·exact .inl h1
  ·by_cases h2 : i = id
   ·exact .inr (.inl h2)
   ·refine .inr (.inr ⟨h1,h2,?_⟩)
    rw [hoo i h1 h2] at hi
    cases hs1 : s.objs i with
    | none=>rw [hs1] at hi; cases hi
    | some o1=>rw [hs1] at hi; exact ⟨o1,rfl,by simpa using hi.symm⟩
 have hO : ∀ i oi,s.objs i = some oi -> ∃ o',s'.objs i = some o' /\ o'.esz = oi.esz /\ (hdr' i).v = (hdr i).v /\ o'.box = oi.box:=by
  intro i oi hi
  have hin' : i ≠ nid:=fun e=>by rw [e,hid] at hi; cases hi
  by_cases hx : i = id
  ·subst hx
   rw [ho] at hi
   cases hi
   exact ⟨_,hoi,rfl,hHv i hin',rfl⟩
  ·exact ⟨_,by rw [hoo i hin' hx,hi]; rfl,(subO_esz _ _ _ oi).1,hHv i hin',subO_box _ _ _ oi⟩
 have hO3 : ∀ i oi,s.objs i = some oi -> ∃ o',s'.objs i = some o' /\ o'.esz = oi.esz /\ (hdr' i).v = (hdr i).v:=fun i oi hi=>by
  obtain ⟨o',k1,k2,k3,_⟩:=hO i oi hi
  exact ⟨o',k1,k2,k3⟩
 refine ⟨hdr',by rw [hHn],?_⟩
 refine hs.recast (s':=s') (hdr':=hdr') (so:=killsO []) (sp:=killsP []) (sc:=killsC [id]) (fun _=>False) (fun i=>i = nid \/ i = id) rfl rfl rfl (Nat.le_refl _) (fun _ _ _=>rfl) (fun _ h=>h.elim)
  (fun t=>by rw [<- hs']; rfl) (by rw [<- hs']; rfl) (by rw [<- hs']; rfl) ?_
  (own_keep (c:=s.ctx F w hdr) (c':=s'.ctx F w hdr') hO3) (ptr_keep (c:=s.ctx F w hdr) (c':=s'.ctx F w hdr') hO3) ?_ ?_ ?_ ?_ ?_
 ·intro i o b hi hb
  rcases hcase i o hi with rfl | rfl | ⟨h1,h2,o1,h3,_⟩
  ·exact .inl ⟨id,_,ho,.inr (hin b (hinn b hb))⟩
  ·exact .inl ⟨i,_,ho,hinid b hb⟩
  ·rw [hHo i h1 h2] at hb
   exact .inl ⟨i,o1,h3,hb⟩
 ·intro i x y z u hv'
  simp only [killsC]
  cases hx : inL i [id] with
  | true=>exact any_ok
  | false =>
   simp only
   have hne' : i ≠ id:=by
    have:=inL_no.1 hx
    simpa using this
   unfold VR at hv' ⊢
   obtain ⟨o,b,sh2,e2,w1,w2,w3,w4,w5,w6⟩:=hv'
   replace w1 : s.objs i = some o:=w1
   have hin' : i ≠ nid:=fun e=>by rw [e,hid] at w1; cases w1
   refine ⟨o,b,sh2,e2,?_,w2,w3,w4,?_,w6⟩
   ·show s'.objs i = some o
    rw [hoo i hin' hne',w1]
    simp [subO,w2]
   ·show (hdr' i).blk = some b
    rw [hHo i hin' hne']; exact w5
 ·intro i j x y z lo n cp u e hv
  simp only [killsC] at e
  cases hl2 : inL i [id] with
  | true=>rw [hl2] at e; cases e
  | false =>
   rw [hl2] at e
   cases e
   exact prt_keep (c:=s.ctx F w hdr) (c':=s'.ctx F w hdr') hO i lo n cp u hv
 ·intro i o' hi hx
  rcases hcase i o' hi with h | h | ⟨h1,h2,o1,h3,h4⟩
  ·exact absurd (.inl h) hx
  ·exact absurd (.inr h) hx
  ·exact ⟨o1,h3,h4,hHo i h1 h2,fun _ _ h=>h⟩
 ·intro hR i o hi hx
  rcases hx with rfl | rfl
  ·rw [hon] at hi
   cases hi
   rw [hHn]
   have hro : ∀ b ∈ S',b ∉ fp2 -> roOf F w hdr' s'.objs b:=by
    intro b hb hnf
    have hb1:=n3 b (hin b (hS'in b hb))
    refine ⟨hs.free b hb1.1,hb1.2,fun j oj hj hb'=>?_⟩
    rcases hcase j oj hj with rfl | rfl | ⟨h1,h2,o1,h3,_⟩
    ·rw [hHn] at hb'
     rcases hb' with hb' | hb'
     ·exact hvS' b hb' hb
     ·exact hnf hb'
    ·exact hsepI b hb' (hS'in b hb)
    ·rw [hHo j h1 h2] at hb'
     exact h2 (hs.dis j id o1 _ b h3 ho hb' (.inr (hin b (hS'in b hb))))
   have hlens2 : ∀ x ∈ xs,x.length = esz':=(TEs.reads (w:=w) (ro:=fun _=>True) esz' cells xs cs2 S' (fun _ _=>trivial) g6).2
   refine ⟨g2,hlens2,⟨hfp2nd,fun b hb hb'=>hvS' b hb (hfp2in b hb'),fun b hb=>n3 b (hin b (hS'in b (hfp2in b hb)))⟩,cs2,g3.mono (fun _ _=>rfl) (fun b hb _=>(n3 b (hin b (hvin b hb))).1),g4,?_⟩
   cases dp with
   | true =>
    simp only at hfp2
    subst hfp2
    exact CellsR_deep (sh:=cells) rfl g6
   | false =>
    simp only at hfp2
    subst hfp2
    exact CellsR_slc rfl (TEs.reads (w:=w) esz' cells xs cs2 S' (fun b hb=>hro b hb (by simp)) g6).1
  ·rw [hoi] at hi
   cases hi
   rw [hHi]
   have hel : e.length = esz:=hlens e (mgE he)
   refine ⟨hpos,?_,⟨?_,?_,?_⟩,cs,?_,hone,CellsR_deep (sh:=sh) rfl ?_⟩
   ·intro x hx'
    rcases List.mem_or_eq_of_mem_set hx' with hx' | hx'
    ·exact hlens x hx'
    ·rw [hx',List.length_set]; exact hel
   ·have:=nodup_mid (M':=[]) hnd0 List.nodup_nil (fun b hb=>by cases hb)
    simpa using this
   ·intro b hb hb'
    rcases List.mem_append.1 hb' with hb' | hb'
    ·exact n2 b hb (hold b (.inl hb'))
    ·exact n2 b hb (hold b (.inr hb'))
   ·intro b hb
    rcases List.mem_append.1 hb with hb | hb
    ·exact n3 b (hold b (.inl hb))
    ·exact n3 b (hold b (.inr hb))
   ·show OwnR w w0.N ty esz (hdr i).v (es.set idx (e.set off .any)).length cs
    rw [List.length_set]
    exact hrow
   ·have hidx : idx < es.length:=(List.getElem?_eq_some_iff.1 he).1
    have hofflt : off < e.length:=(List.getElem?_eq_some_iff.1 r4).1
    have hcsl : cs.length = es.length * esz:=hrow.1
    have hidx2 : idx * esz + esz <= es.length * esz:=by
     have:=Nat.mul_le_mul_right esz (show idx + 1 <= es.length by omega)
     simpa [Nat.add_mul] using this
    have hve : ((cs.drop (idx * esz)).take esz).length = esz:=by rw [List.length_take,List.length_drop]; omega
    have hTL : TL w (e.set off .any) sh ((cs.drop (idx * esz)).take esz) (T1 ++ [] ++ T2):=by
     have e2 : e.set off .any = e.take off ++ [.any] ++ e.drop (off + 1):=by rw [List.set_eq_take_append_cons_drop,if_pos hofflt]; simp
     have e3 : sh = sh.take off ++ [Shp.sl ty' esz' cells] ++ sh.drop (off + 1):=by
      obtain ⟨hl,hg⟩:=List.getElem?_eq_some_iff.1 hsh
      have:=List.take_append_drop off sh
      rw [List.drop_eq_getElem_cons hl,hg] at this
      simpa using this.symm
     have e4 : (cs.drop (idx * esz)).take esz = ((cs.drop (idx * esz)).take esz).take off ++ [v'] ++ ((cs.drop (idx * esz)).take esz).drop (off + 1):=by
      obtain ⟨hl,hg⟩:=List.getElem?_eq_some_iff.1 f3
      have:=List.take_append_drop off ((cs.drop (idx * esz)).take esz)
      rw [List.drop_eq_getElem_cons hl,hg] at this
      simpa using this.symm
     rw [e2,e3,e4]
     have e5 : (sh.take off ++ [Shp.sl ty' esz' cells] ++ sh.drop (off + 1)).take off = sh.take off:=by rw [<- e3]
     refine (f5.append (TL_one.2 (by unfold TR; rfl))).append ?_
     exact f6
    have:=TEs.set (w':=w) (esz:=esz) (cells:=sh) (vs:=cs) hidx hve q3 hTL q4
    have e6 : cs.take (idx * esz) ++ (cs.drop (idx * esz)).take esz ++ cs.drop (idx * esz + esz) = cs:=by
     rw [List.append_assoc,<- List.drop_drop,List.take_append_drop,List.take_append_drop]
    rw [e6] at this
    show TEs w esz sh (es.set idx (e.set off .any)) cs ((S1 ++ T1) ++ (T2 ++ S2))
    simpa [List.append_assoc] using this
 ·have key : ∀ j oj b,j ≠ nid -> j ≠ id -> s.objs j = some oj -> (hdr j).has b -> (hdr' id).has b \/ (hdr' nid).has b -> False:=by
   intro j oj b h1 h2 hj bj hb
   refine h2 (hs.dis j id oj _ b hj ho bj ?_)
   rcases hb with hb | hb
   ·exact hinid b hb
   ·exact .inr (hin b (hinn b hb))
  intro i j o oo b hi hj bi bj
  rcases hcase i o hi with rfl | rfl | ⟨a1,a2,o1,a3,_⟩ <;> rcases hcase j oo hj with rfl | rfl | ⟨b1,b2,o2,b3,_⟩
  ·rfl
  ·exact (hsepI b bj (hinn b bi)).elim
  ·rw [hHo j b1 b2] at bj
   exact (key j o2 b b1 b2 b3 bj (.inr bi)).elim
  ·exact (hsepI b bi (hinn b bj)).elim
  ·rfl
  ·rw [hHo j b1 b2] at bj
   exact (key j o2 b b1 b2 b3 bj (.inl bi)).elim
  ·rw [hHo i a1 a2] at bi
   exact (key i o1 b a1 a2 a3 bi (.inr bj)).elim
  ·rw [hHo i a1 a2] at bi
   exact (key i o1 b a1 a2 a3 bi (.inl bj)).elim
  ·rw [hHo i a1 a2] at bi
   rw [hHo j b1 b2] at bj
   exact hs.dis i j o1 o2 b a3 b3 bi bj
end
theorem St.le_detach {s : St} {t id nid ty esz ty' esz' idx off : Nat} {sh cells : List Shp} {es : List (List AV)} {e : List AV} {xs : List (List AV)} (dp : Bool)
  (ht : s.env t = .cel id idx off xs) (ho : s.objs id = some ⟨.deep sh,ty,esz,es⟩) (he : es[idx]? = some e) (hsh : sh[off]? = some (.sl ty' esz' cells)) (hid : s.objs nid = none) :
  s.le (detS s t id nid ⟨.deep sh,ty,esz,es.set idx (e.set off .any)⟩ ⟨detK dp cells,ty',esz',xs⟩):=by
 intro F w0 gv a w ⟨hdr,hs⟩
 have hv:=hs.env t
 rw [ht] at hv
 obtain ⟨hdr',h1,h2⟩:=hs.detach dp ho he hsh hid hv
 refine ⟨hdr',?_⟩
 generalize hs' : detO s id nid ⟨.deep sh,ty,esz,es.set idx (e.set off .any)⟩ ⟨detK dp cells,ty',esz',xs⟩ = s' at h2
 have hon : s'.objs nid = some ⟨detK dp cells,ty',esz',xs⟩:=by rw [<- hs']; simp [detO,takeIn]
 have hd : detS s t id nid ⟨.deep sh,ty,esz,es.set idx (e.set off .any)⟩ ⟨detK dp cells,ty',esz',xs⟩ = { s' with env:=upd t (.own nid) s'.env }:=by
  unfold detS
  rw [hs']
 rw [hd]
 refine ⟨fun t'=>?_,h2.sz,h2.defers,h2.gh,h2.objs,h2.dis,h2.below,h2.free⟩
 show VR _ ((upd t (.own nid) s'.env) t') _
 rw [upd_eq]
 by_cases e : t' = t
 ·subst e
  simp only [if_true]
  unfold VR
  exact ⟨by show (s'.objs nid).isSome = true; rw [hon]; rfl,h1.symm⟩
 ·simp only [e,if_false]
  exact h2.env t'
theorem OpOk_le {P : Program} {o : Oper} {s s' : St} {K : St -> Prop} (hle : s.le s') (h : OpOk P o s' K) : OpOk P o s K :=
 fun F w0 gv a w hs next Q hn=>h F w0 gv a w (hle _ _ _ _ _ hs) next Q hn
theorem hook_appC {P : Program} {s : St} {K : St -> Prop} {dst : Option Tmp} {type : TypeId} {pos : String} {after : Array Edge} {guard : Option (Nat × Bool)} {nid : Nat} (dp : Bool) {t : Nat} {y : Operand} {T : TypeId} {args : Array Operand} {tys : Array TypeId} {id ty esz ty' esz' idx off : Nat} {sh cells : List Shp} {es : List (List AV)} {e : List AV} {xs : List (List AV)}
  (ha : args.toList = [.tmp t,y]) (hty : tys.toList = [T,T]) (ht : s.env t = .cel id idx off xs) (ho : s.objs id = some ⟨.deep sh,ty,esz,es⟩) (hsh : sh[off]? = some (.sl ty' esz' cells)) (hid : s.objs (nid + 1) = none) (he : es[idx]? = some e)
  (h : forceS (detS s t id (nid + 1) ⟨.deep sh,ty,esz,es.set idx (e.set off .any)⟩ ⟨detK dp cells,ty',esz',xs⟩) fun s'=>appA P T (s'.val (.tmp t)) (s'.val y) s' nid dst K) :
  HookA P ⟨dst,.call ⟨.builtin .append,args,tys⟩,type,pos,after,guard⟩ nid s K:=by
 rw [forceS_eq] at h
 exact hook_of (OpOk_le (St.le_detach dp ht ho he hsh hid) (ok_append ha hty h))
end Go.Ab
namespace Go.Ab
open Go.RowKit
set_option linter.unusedVariables false
end Go.Ab
