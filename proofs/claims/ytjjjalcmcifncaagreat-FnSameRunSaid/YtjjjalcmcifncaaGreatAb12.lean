/-
  That every operation does what is said of it.
  No condition: lemmas over any program.
-/
import Derived.Test.YtjjjalcmcifncaaGreatAb11
import Derived.Laws.Cover3
namespace Go.Ab
open Go.RowKit
section
variable {P : Program} {s : St} {K : St -> Prop} {dst : Option Tmp} {type : TypeId} {pos : String} {after : Array Edge} {guard : Option (Nat × Bool)}
theorem ok_sliceSl {T e : TypeId} {x : Operand} {lo hi : Option Operand} {xs : List (List AV)} {esz : Nat} {m n : Int} (he : elemOf? P T = some e) (hz : sizeOf? P e = some esz) (hx : s.val x = .sl xs)
  (hlo : (lo = none /\ m = 0) \/ ∃ y k,lo = some y /\ intA (s.val y) = some (k,m)) (hhi : (hi = none /\ n = xs.length) \/ ∃ y k,hi = some y /\ intA (s.val y) = some (k,n))
  (hb : 0 <= m /\ m <= n /\ n <= xs.length) (hl : ∀ z ∈ xs,z.length = esz) (h : s.putK dst (.sl ((xs.take n.toNat).drop m.toNat)) K) : OpOk P ⟨dst,.slice T x lo hi none,type,pos,after,guard⟩ s K :=
 ok_pure h fun F w0 gv a w hdr hs=>by
  have h1:=hs.val x
  rw [hx] at h1
  unfold VR RR at h1
  obtain ⟨base,cap,e1,e2,e3⟩:=h1
  have hT:=elemOf?_some he
  obtain ⟨i,hi',hsz⟩:=sizeOf?_info hz
  have hbs : (Instr.sliceBounds true xs.length cap (lo.map a.eval) (hi.map a.eval) none).run P w = .ok (m.toNat,n.toNat,cap) w:=by
   have hn0 : 0 <= n:=by omega
   have hnc : n <= (cap : Int):=by omega
   have hml : m <= ((n.toNat : Nat) : Int):=by omega
   rcases hlo with ⟨rfl,rfl⟩ | ⟨y,k,rfl,hy⟩ <;> rcases hhi with ⟨rfl,rfl⟩ | ⟨y',k',rfl,hy'⟩
   ·simp [Instr.sliceBounds]
   ·simp [Instr.sliceBounds,intA_ok (hs.val y') hy',run_sliceBound,hn0,hnc]
   ·simp [Instr.sliceBounds,intA_ok (hs.val y) hy,run_sliceBound,hb.1,hb.2.1]
   ·have hsb:=run_sliceBound (P:=P) (w:=w) k m n.toNat .sliceB hb.1 hml
    simp [Instr.sliceBounds,intA_ok (hs.val y) hy,intA_ok (hs.val y') hy',run_sliceBound,hn0,hnc,hsb]
  have hlen : ((xs.take n.toNat).drop m.toNat).length = n.toNat - m.toNat:=by simp; omega
  refine ⟨.slice (if cap = m.toNat then base else base.map (·.add (m.toNat * i.size))) (n.toNat - m.toNat) (cap - m.toNat),?_,?_⟩
  ·simp [execOp,Instr.sliceAt,run_underlying hT,e1,Instr.slice,hbs,sizeOf,typeInfo,hi']
  ·unfold VR RR
   refine ⟨_,cap - m.toNat,by rw [hlen],by rw [hlen]; omega,?_⟩
   by_cases hem : n.toNat = m.toNat
   ·exact .inl (List.length_eq_zero_iff.1 (by rw [hlen]; omega))
   ·rcases e3 with e3 | ⟨b,o,esz',f1,f2,f3⟩
    ·subst e3; simp at hb; omega
    ·right
     have hne : ∃ z,z ∈ xs:=by
      cases xs with
      | nil=>simp at hb; omega
      | cons z _=>exact ⟨z,by simp⟩
     have hez : esz' = i.size:=by
      obtain ⟨z,hz⟩:=hne
      obtain ⟨j,hj⟩:=List.getElem?_of_mem hz
      have:=(EsR.get esz' xs _ f3 j z hj).1
      rw [<- this,hl z hz,hsz]
     subst hez
     refine ⟨b,o + m.toNat * i.size,i.size,?_,f2,?_⟩
     ·rw [if_neg (by omega),f1]
      simp [Addr.add_lit]
     ·exact EsR.mono (w:=w) (ro:=roOf F w hdr s.objs) (fun _ _ _=>rfl) (fun _ h=>h) i.size _ _ _ (fun j=>by rw [Nat.add_assoc]) (EsR.drop i.size m.toNat _ _ (EsR.take i.size n.toNat xs _ f3))
theorem ok_slice0 {T e : TypeId} {x l h0 m3 : Operand} {k k' k'' : IntKind} {n esz : Nat} (he : elemOf? P T = some e) (hz : sizeOf? P e = some esz) (hx : lenA s (s.val x) = some n) (hxs : (s.val x).isStr = false)
  (hl : intA (s.val l) = some (k,0)) (hh : intA (s.val h0) = some (k',0)) (hm : intA (s.val m3) = some (k'',0)) (h : s.putK dst .nil K) : OpOk P ⟨dst,.slice T x (some l) (some h0) (some m3),type,pos,after,guard⟩ s K :=
 ok_pure h fun F w0 gv a w hdr hs=>by
  have hT:=elemOf?_some he
  obtain ⟨i,hi',hsz⟩:=sizeOf?_info hz
  have hv : ∃ b c,a.eval x = .slice b n c:=by
   rcases lenA_ok hs (hs.val x) hx with ⟨q,e1,e2⟩ | h
   ·exfalso
    have hv:=hs.val x
    cases hq : s.val x <;> rw [hq] at hxs hx hv <;> simp [AV.isStr] at hxs <;> simp only [lenA] at hx <;> try (cases hx; done)
    case nil=>unfold VR at hv; obtain ⟨_,hv⟩:=hv; rw [hv] at e1; cases e1
    case sl=>unfold VR RR at hv; obtain ⟨_,_,hv,_⟩:=hv; rw [hv] at e1; cases e1
    case own id =>
     unfold VR at hv
     obtain ⟨h1,hv⟩:=hv
     replace hv : a.eval x = (hdr id).v:=hv
     obtain ⟨o,ho⟩:=Option.isSome_iff_exists.1 h1
     obtain ⟨_,_,_,cs,hrow,_⟩:=hs.objs id o ho
     rcases hrow.2 with ⟨b,q1,q2⟩ | ⟨g,cap,cur,q1,_⟩ <;> rw [hv,q1] at e1 <;> cases e1
    case cel id idx off xs =>
     have h1:=hs.celRead hv
     unfold RR at h1
     obtain ⟨_,_,h1,_⟩:=h1
     rw [h1] at e1
     cases e1
   ·exact h
  obtain ⟨b,c,hv⟩:=hv
  refine ⟨.slice b 0 0,?_,by unfold VR; exact ⟨b,rfl⟩⟩
  simp [execOp,Instr.sliceAt,run_underlying hT,hv,Instr.slice,Instr.sliceBounds,intA_ok (hs.val l) hl,intA_ok (hs.val h0) hh,intA_ok (hs.val m3) hm,Instr.sliceBound,asIntOf,sizeOf,typeInfo,hi']
theorem ok_nilCmp {P : Program} {s : St} {K : St -> Prop} {dst : Option Tmp} {type : TypeId} {pos : String} {after : Array Edge} {guard : Option (Nat × Bool)} {T t e : TypeId} {x : Operand} {l : Nat} (hT : elemOf? P T = some e) (hstr : (s.val x).isStr = false) (hx : lenA s (s.val x) = some l) (h : nilB l fun b=>s.putK dst (.bool b) K) :
  OpOk P ⟨dst,.binOp .eql T x (.const (.slice none 0 0)) t,type,pos,after,guard⟩ s K:=by
 intro F w0 gv a w ⟨hdr,hs⟩ next Q hn
 obtain ⟨base,n,cap,e1,e2⟩ : ∃ base n cap,a.eval x = .slice base n cap /\ (base.isNone = true -> l = 0):=by
  have hv:=hs.val x
  cases hvx : s.val x <;> rw [hvx] at hx hv hstr <;> simp only [lenA] at hx <;> try (cases hx; done)
  case str=>simp [AV.isStr] at hstr
  case nil =>
   unfold VR at hv
   obtain ⟨b0,hv⟩:=hv
   cases hx
   exact ⟨b0,0,0,hv,fun _=>rfl⟩
  case sl xs =>
   unfold VR RR at hv
   obtain ⟨b0,c0,hv,_,h3⟩:=hv
   cases hx
   refine ⟨b0,_,c0,hv,fun hb=>?_⟩
   rcases h3 with h3 | ⟨b,o,esz,rfl,_⟩
   ·rw [h3]; rfl
   ·cases hb
  case cel id idx off xs =>
   have h1:=hs.celRead hv
   unfold RR at h1
   obtain ⟨b0,c0,h1,_,h3⟩:=h1
   cases hx
   refine ⟨b0,_,c0,h1,fun hb=>?_⟩
   rcases h3 with h3 | ⟨b,o,esz,rfl,_⟩
   ·rw [h3]; rfl
   ·cases hb
  case own id =>
   cases ho : s.objs id with
   | none=>simp [ho] at hx
   | some o =>
    simp only [ho] at hx
    split at hx
    ·cases hx
    ·cases hx
     unfold VR at hv
     obtain ⟨_,hv⟩:=hv
     replace hv : a.eval x = (hdr id).v:=hv
     obtain ⟨cs,h4,_⟩:=(hs.objs id o ho).row
     rcases h4.2 with ⟨b0,e,hn0⟩ | ⟨g,cap,cur,e,hc,_⟩
     ·exact ⟨b0,0,0,by rw [hv,e],fun _=>hn0⟩
     ·exact ⟨some ⟨g,0,none⟩,o.elems.length,cap,by rw [hv,e],fun hb=>by cases hb⟩
 have hrun : (execOp a.eval ⟨dst,.binOp .eql T x (.const (.slice none 0 0)) t,type,pos,after,guard⟩).run P w = .ok (.value (.bool base.isNone)) w:=by
  have h1:=run_equal_slice_nil (P:=P) w T e base n cap (elemOf?_some hT)
  have h2 : a.eval (.const (.slice none 0 0)) = .slice none 0 0:=rfl
  have h3 : eqGuard .eql T x (.const (.slice none 0 0)) (.slice base n cap) (.slice none 0 0) = pure ():=rfl
  simp [execOp,h2,e1,h3,binOp,h1]
 unfold Oper.wp
 rw [hrun]
 obtain ⟨k1,k2⟩:=putK_elim (nilB_elim h base.isNone e2)
 exact hn _ _ _ k2 ⟨hdr,hs.put k1 (by unfold VR; rfl)⟩
theorem hook_ok {o : Oper} {nid : Nat} (h : HookA P o nid s K) : OpOk P o s K:=by
 unfold HookA at h
 exact h.2
theorem opA_ok {o : Oper} {nid : Nat} (h : opA P o nid s K) : OpOk P o s K:=by
 obtain ⟨dst,op,type,pos,after,guard⟩:=o
 cases op <;> simp only [opA] at h <;> try (exact h.elim)
 case move x=>exact ok_move h
 case assign x=>exact ok_assign h
 case pick c a b =>
  split at h
  ·rename_i t hc; exact ok_pick hc h
  ·exact h.elim
 case alloc T =>
  split at h
  ·rename_i cs hz
   split at h
   ·rename_i hid
    rw [boxK_eq] at h
    exact ok_alloc hz hid h.1.1 h.1.2 h.2
   ·exact h.elim
  ·exact h.elim
 case box T x =>
  split at h
  ·rename_i cs hc
   split at h
   ·rename_i hid
    rw [boxK_eq] at h
    exact ok_box hc hid h.1 h.2
   ·exact h.elim
  ·exact h.elim
 case build T parts =>
  split at h
  ·rename_i cs hc; exact ok_build hc h
  ·exact h.elim
 case load T x =>
  split at h
  ·rename_i id idx off hx
   split at h
   ·rename_i ob ho
    split at h
    ·rename_i hk
     split at h
     ·rename_i e he
      split at h
      ·rename_i v hv
       exact ok_load (cs:=e.drop off) (by rw [hx]; simp only [St.cellsAt,ho,he,hk,viewE]) hv (putN_elim h)
      ·exact h.elim
     ·exact h.elim
    ·rename_i hk
     obtain ⟨e,he,h⟩:=h
     unfold LoadK at h
     obtain ⟨v,hv,_,h⟩:=h
     exact ok_load (cs:=e.drop off) (by rw [hx]; simp only [St.cellsAt,ho,he,hk,viewE]) hv (putN_elim h)
    ·rename_i sh hk
     obtain ⟨e,he,h⟩:=h
     unfold LoadD at h
     rcases h with ⟨v,hv,h⟩ | ⟨xs,d,q1,q2,q3,_,h⟩
     ·exact ok_load (cs:=(e.drop off).map hideA) (by rw [hx]; simp only [St.cellsAt,ho,he,hk,viewE]) hv (putN_elim h)
     ·exact ok_loadCel hx ho hk he q1 q2 q3 (putN_elim h)
   ·exact h.elim
  ·rename_i cs hx
   split at h
   ·rename_i v hv
    exact ok_load (cs:=cs) (by rw [hx]; rfl) hv (putN_elim h)
   ·exact h.elim
  ·exact h.elim
 case fieldAddr T x f =>
  split at h
  ·rename_i off t hf
   split at h
   ·rename_i p hp; exact ok_fieldAddr hf hp h
   ·exact h.elim
  ·exact h.elim
 case field T x f =>
  split at h
  ·rename_i off t hf
   split at h
   ·rename_i cs hx
    split at h
    ·rename_i v hv; exact ok_field hf hx hv (putN_elim h)
    ·exact h.elim
   ·exact h.elim
  ·exact h.elim
 case indexAddr T x i =>
  split at h
  ·rename_i e he
   split at h
   ·rename_i esz hz
    split at h
    ·rename_i k n hi
     split at h
     ·rename_i id hx
      split at h
      ·rename_i ob ho
       split at h
       ·exact h.elim
       ·rename_i hbx
        obtain ⟨h1,h2,h3⟩:=h
        exact ok_indexAddr (len:=ob.elems.length) he hz hi (by rw [hx]; simp only [indexP,ho]; rw [if_pos ⟨hbx,h1⟩]) h2 (fun xs y e=>by rw [hx] at e; cases e) h3
      ·exact h.elim
     ·rename_i xs hx
      obtain ⟨h0,y,h1,h2,h3⟩:=h
      have hlt:=(List.getElem?_eq_some_iff.1 h1).1
      have hg : xs.getD n.toNat [] = y:=by rw [List.getD_eq_getElem?_getD,h1]; rfl
      refine ok_indexAddr (len:=xs.length) he hz hi (by rw [hx]; simp only [indexP]; rw [hg]) ⟨h0,by omega⟩ (fun xs' y' e e'=>?_) h3
      rw [hx] at e
      cases e
      rw [h1] at e'
      cases e'
      exact h2
     ·exact hook_ok h
     ·exact h.elim
    ·exact h.elim
   ·exact h.elim
  ·exact h.elim
 case extract x i =>
  split at h
  ·rename_i vs hx
   split at h
   ·rename_i v hv; exact ok_extract hx hv h
   ·exact h.elim
  ·exact h.elim
 case binOp op T x y t =>
  split at h
  ·rename_i hn
   obtain ⟨rfl,rfl⟩:=nilC_eq hn
   split at h
   ·rename_i e he
    split at h
    ·exact h.elim
    ·rename_i hstr
     split at h
     ·rename_i l hl
      exact ok_nilCmp he hstr hl h
     ·exact h.elim
   ·exact h.elim
  split at h
  ·rename_i v hb; exact ok_binOp hb (fun p e=>by cases e) (putN_elim h)
  ·rename_i c v hb; exact ok_binOp hb (fun p e=>by cases e; exact h.1) (putN_elim h.2)
  ·exact h.elim
 case unOp op T x =>
  cases op <;> simp only at h <;> try (exact h.elim)
  case not =>
   split at h
   ·rename_i b hx; exact ok_not hx (putN_elim h)
   ·exact h.elim
  case neg =>
   split at h
   ·rename_i k n hx; exact ok_neg hx h
   ·exact h.elim
 case nilCheck x =>
  split at h
  ·rename_i i b c hx; exact ok_nilCheck hx (.inl ⟨i,b,c,rfl⟩) h
  ·rename_i cs hx; exact ok_nilCheck hx (.inr (.inl ⟨cs,rfl⟩)) h
  ·rename_i f cs hx; exact ok_nilCheck hx (.inr (.inr ⟨f,cs,rfl⟩)) h
  ·exact h.elim
 case makeFunc fn first captured =>
  cases fn <;> simp only at h <;> try (exact h.elim)
  case func f =>
   split at h
   ·rename_i hf; exact ok_makeFunc hf h
   ·exact h.elim
 case call c =>
  obtain ⟨callee,args,tys⟩:=c
  cases callee <;> simp only at h <;> try (exact h.elim)
  case value x =>
   split at h
   ·rename_i f caps hx; exact ok_call hx h
   ·exact h.elim
  case builtin b =>
   cases b <;> simp only at h <;> try (exact h.elim)
   case len =>
    split at h
    ·rename_i x ha
     split at h
     ·rename_i T hty
      split at h
      ·rename_i hT
       split at h
       ·rename_i n hn; exact ok_len ha hty hT hn h
       ·exact hook_ok h
      ·exact h.elim
     ·exact h.elim
    ·exact h.elim
   case max =>
    split at h
    ·rename_i x y ha
     split at h
     ·rename_i k a hx
      split at h
      ·rename_i k' b hy; exact ok_max2 ha hx hy h
      ·exact h.elim
     ·exact h.elim
    ·rename_i x y z ha
     split at h
     ·rename_i k a hx
      split at h
      ·rename_i k' b hy
       split at h
       ·rename_i k'' c hz; exact ok_max3 ha hx hy hz h
       ·exact h.elim
      ·exact h.elim
     ·exact h.elim
    ·exact h.elim
   case min =>
    split at h
    ·rename_i x y ha
     split at h
     ·rename_i k a hx
      split at h
      ·rename_i k' b hy; exact ok_min2 ha hx hy h
      ·exact h.elim
     ·exact h.elim
    ·exact h.elim
   case append =>
    split at h
    ·rename_i x y ha
     split at h
     ·rename_i T T' hty
      split at h
      ·exact hook_ok h
      ·exact hook_ok h
      ·obtain ⟨rfl,h⟩:=h
       exact ok_append ha hty h
     ·exact h.elim
    ·exact h.elim
   case clear=>exact hook_ok h
   case copy=>exact hook_ok h
   case cap=>exact hook_ok h
 case store T x y =>
  split at h
  ·rename_i id idx off hx
   split at h
   ·rename_i ob ho
    cases dst with
    | some _=>exact h.elim
    | none =>
     simp only at h
     split at h
     ·rename_i cs hc
      split at h
      ·rename_i n hn
       split at h
       ·rename_i hbox
        split at h
        ·rename_i e he
         rw [storeK_eq] at h
         exact ok_storeBox hx ho hc hn hbox he h.1 h.2
        ·exact h.elim
       ·rename_i sh hk
        exact ok_storeD hx ho hk hc hn h.1 h.2
       ·split at h
        ·rename_i ob' ho'
         obtain ⟨e,he,hf,hk⟩:=h
         rw [forceS_eq] at hk
         exact ok_storeSlc hx hc hn ho' he hf hk
        ·exact h.elim
      ·exact h.elim
     ·exact h.elim
   ·exact h.elim
  ·exact h.elim
 case buildSlice T n parts =>
  split at h
  ·rename_i e he
   split at h
   ·rename_i i hi
    split at h
    ·rename_i z hz
     cases n with
     | zero=>exact ok_build0 he hi hz h.1.2 h.2
     | succ n =>
     simp only at h
     split at h
     ·rename_i r hr
      split at h
      ·rename_i hid
       split at h
       ·exact ok_buildD he hi hz hr hid h.1 h.2
       ·split at h
        ·rw [forceS_eq] at h
         exact ok_buildSlice he hi hz hr h.1 h.2
        ·rcases eitherB_elim h with h | h
         ·rw [forceS_eq] at h
          exact ok_buildSlice he hi hz hr h.1 h.2
         ·exact ok_buildD he hi hz hr hid h.1 h.2
      ·exact h.elim
     ·exact h.elim
    ·exact h.elim
   ·exact h.elim
  ·exact h.elim
 case makeSlice T l c =>
  split at h
  ·rename_i e he
   split at h
   ·rename_i i hi
    split at h
    ·rename_i z hz
     split at h
     ·rename_i k n hl
      split at h
      ·rename_i k' m hm
       split at h
       ·rename_i hid
        rw [forceS_eq] at h
        exact ok_makeSlice he hi hz hl hm hid h.1 h.2.1 h.2.2
       ·exact h.elim
      ·exact h.elim
     ·exact h.elim
    ·exact h.elim
   ·exact h.elim
  ·exact h.elim
 case slice T x lo hi mx =>
  split at h
  ·exact hook_ok h
  ·exact hook_ok h
  have both : ∀ {lo hi : Option Operand} {m n : Int},sliceA P T (s.val x) m n s dst K -> ((lo = none /\ m = 0) \/ ∃ y k,lo = some y /\ intA (s.val y) = some (k,m)) -> ((hi = none /\ lenA s (s.val x) = some n.toNat /\ 0 <= n) \/ ∃ y k,hi = some y /\ intA (s.val y) = some (k,n)) ->
    OpOk P ⟨dst,.slice T x lo hi none,type,pos,after,guard⟩ s K:=by
   intro lo hi m n h hlo hhi
   unfold sliceA at h
   split at h
   ·rename_i l hx
    split at h
    ·rename_i hT
     refine ok_sliceStr hT hx hlo ?_ h.1 h.2
     rcases hhi with ⟨q1,q2,q3⟩ | q
     ·rw [hx] at q2
      simp only [lenA,Option.some.injEq] at q2
      exact .inl ⟨q1,by omega⟩
     ·exact .inr q
    ·exact h.elim
   ·rename_i xs hx
    split at h
    ·rename_i e he
     split at h
     ·rename_i esz hz
      refine ok_sliceSl he hz hx hlo ?_ h.1 h.2.1 h.2.2
      rcases hhi with ⟨q1,q2,q3⟩ | q
      ·rw [hx] at q2
       simp only [lenA,Option.some.injEq] at q2
       exact .inl ⟨q1,by omega⟩
      ·exact .inr q
     ·exact h.elim
    ·exact h.elim
   ·exact h.elim
  cases mx with
  | none =>
   simp only at h
   cases lo with
   | none =>
    simp only at h
    cases hi with
    | none=>exact h.elim
    | some hh =>
     simp only at h
     split at h
     ·rename_i k n hk
      exact both h (.inl ⟨rfl,rfl⟩) (.inr ⟨hh,k,rfl,hk⟩)
     ·exact h.elim
   | some l =>
    simp only at h
    split at h
    ·rename_i k m hk
     cases hi with
     | none =>
      simp only at h
      split at h
      ·rename_i n hn
       exact both h (.inr ⟨l,k,rfl,hk⟩) (.inl ⟨rfl,by simpa using hn,by omega⟩)
      ·exact h.elim
     | some hh =>
      simp only at h
      split at h
      ·rename_i k' n hk'
       exact both h (.inr ⟨l,k,rfl,hk⟩) (.inr ⟨hh,k',rfl,hk'⟩)
      ·exact h.elim
    ·exact h.elim
  | some m3 =>
   simp only at h
   cases lo with
   | none=>exact h.elim
   | some l =>
    simp only at h
    cases hi with
    | none=>exact h.elim
    | some hh =>
     simp only at h
     split at h
     ·rename_i k l0 hl
      split at h
      ·rename_i k' h0 hh0
       split at h
       ·rename_i k'' m0 hm
        split at h
        ·rename_i e he
         split at h
         ·rename_i esz hz
          split at h
          ·rename_i n hn
           obtain ⟨⟨rfl,rfl,rfl,hst⟩,h⟩:=h
           exact ok_slice0 he hz hn hst hl hh0 hm h
          ·exact h.elim
         ·exact h.elim
        ·exact h.elim
       ·exact h.elim
      ·exact h.elim
     ·exact h.elim
 case index T x i =>
  split at h
  ·rename_i hT
   split at h
   ·rename_i l hx
    split at h
    ·rename_i k n hi; exact ok_index hT hx hi h.1 h.2
    ·exact h.elim
   ·exact h.elim
  ·exact h.elim
 case convert S T x =>
  split at h
  ·rename_i dS hS
   split at h
   ·rename_i k hT
    split at h
    ·rename_i k' n hx; exact ok_convInt hS hT hx h
    ·exact h.elim
   ·rename_i hT
    split at h
    ·rename_i l hx; exact ok_convStr hS hT hx h
    ·split at h
     ·rename_i e
      split at h
      ·rename_i he
       split at h
       ·rename_i xs hxs
        obtain ⟨l,hl,h⟩:=h
        exact ok_convBytes hS he hT hxs hl h
       ·exact h.elim
      ·exact h.elim
     ·exact h.elim
   ·exact h.elim
  ·exact h.elim
end
end Go.Ab
