/-
  Objects that own what they reach: what is stored in them is taken in.
  No condition: lemmas over any program.
-/
import Derived.Test.YtjjjalcmcifncaaGreatAb10
namespace Go.Ab
open Go.RowKit
theorem inL_mem : ∀ {l : List Nat} {j : Nat},inL j l = true ↔ j ∈ l
 | [],j=>by simp [inL]
 | i :: l,j=>by
  have ih:=inL_mem (l:=l) (j:=j)
  simp only [inL,List.mem_cons]
  cases h : Nat.beq j i with
  | true =>
   have:=Nat.eq_of_beq_eq_true h
   simp [this]
  | false =>
   have:=Nat.ne_of_beq_eq_false h
   simp [this,ih]
theorem inL_no {l : List Nat} {j : Nat} : inL j l = false ↔ j ∉ l:=by
 rw [<- inL_mem (l:=l)]
 simp
theorem Shp.beq_eq : ∀ (a b : Shp),Shp.beq a b = true -> a = b
 | .leaf,.leaf,_=>rfl
 | .sl t e c,.sl t' e' c',h=>by
  simp only [Shp.beq,baT] at h
  obtain ⟨h1,h2,h3⟩:=h
  rw [Nat.eq_of_beq_eq_true h1,Nat.eq_of_beq_eq_true h2,beqL_eq c c' h3]
 | .leaf,.sl _ _ _,h=>by simp [Shp.beq] at h
 | .sl _ _ _,.leaf,h=>by simp [Shp.beq] at h
where beqL_eq : ∀ (as bs : List Shp),beqL as bs = true -> as = bs
 | [],[],_=>rfl
 | a :: as,b :: bs,h=>by
  simp only [beqL,baT] at h
  rw [Shp.beq_eq a b h.1,beqL_eq as bs h.2]
 | [],_ :: _,h=>by simp [beqL] at h
 | _ :: _,[],h=>by simp [beqL] at h
theorem nodup_mid {A M M' B : List Nat} (h : (A ++ M ++ B).Nodup) (hm : M'.Nodup) (hd : ∀ b ∈ M',b ∉ A /\ b ∉ B) : (A ++ M' ++ B).Nodup:=by
 simp only [List.nodup_append,List.mem_append] at h ⊢
 obtain ⟨⟨h1,h2,h3⟩,h4,h5⟩:=h
 refine ⟨⟨h1,hm,fun x hx y hy e=>(hd y hy).1 (e ▸ hx)⟩,h4,fun x hx y hy e=>?_⟩
 rcases hx with hx | hx
 ·exact h5 x (.inl hx) y hy e
 ·exact (hd x hx).2 (e ▸ hy)
section
variable {F : Nat -> Prop} {w0 : Base} {gv : List Value} {s : St} {a : Act} {w : World} {hdr : Nat -> Hdr}
theorem any_ok {c : Ctx} {v : Value} : VR c .any v:=by unfold VR; trivial
theorem Sim.moved (h : Sim F w0 gv s a w hdr) {ids : List Nat} {id : Nat} {o' : AObj} {w' : World} {h' : Hdr}
  (hos : w'.os = w.os) (htp : w'.tape = w.tape) (hou : w'.output = w.output) (hsz : w.heap.size <= w'.heap.size)
  (hblk : ∀ k,k < w.heap.size -> (∀ o,s.objs id = some o -> (hdr id).blk ≠ some k) -> w'.heap[k]? = w.heap[k]?)
  (hv : inL id ids = false -> ∀ o,s.objs id = some o -> h'.v = (hdr id).v /\ o'.esz = o.esz)
  (hnew : (∀ x v,RR w (roOf F w hdr s.objs) x v -> RR w' (roOf F w' (fun i=>if i = id then h' else hdr i) (takeIn s ids id o').objs) x v) -> ObjR w0.N ((takeIn s ids id o').ctx F w' (fun i=>if i = id then h' else hdr i)) o' h')
  (hown : ∀ b,h'.has b -> (∃ o,s.objs id = some o /\ (hdr id).has b) \/ (∃ j oj,inL j ids = true /\ s.objs j = some oj /\ (hdr j).has b) \/ w.heap.size <= b) :
  Sim F w0 gv (takeIn s ids id o') a w' (fun i=>if i = id then h' else hdr i):=by
 have hH : ∀ i,i ≠ id -> (fun i=>if i = id then h' else hdr i) i = hdr i:=fun i hi=>by simp [hi]
 have hHid : (fun i=>if i = id then h' else hdr i) id = h':=by simp
 generalize hHd : (fun i=>if i = id then h' else hdr i) = hdr' at *
 have hid' : (takeIn s ids id o').objs id = some o':=by simp [takeIn]
 have hob : ∀ i o,(takeIn s ids id o').objs i = some o -> i ≠ id -> inL i ids = false /\ ∃ o1,s.objs i = some o1 /\ o = subO (killsO ids) (killsP ids) (killsC (id :: ids)) o1:=by
  intro i o hi hne
  simp only [takeIn,hne,if_false] at hi
  cases hl : inL i ids with
  | true=>simp [hl] at hi
  | false =>
   simp only [hl] at hi
   cases hs : s.objs i with
   | none=>simp [hs] at hi
   | some o1=>exact ⟨rfl,o1,rfl,by simpa [hs] using hi.symm⟩
 have hon : ∀ j o1,j ≠ id -> inL j ids = false -> s.objs j = some o1 -> (takeIn s ids id o').objs j = some (subO (killsO ids) (killsP ids) (killsC (id :: ids)) o1):=by
  intro j o1 hx hl ho1
  simp [takeIn,hx,hl,ho1]
 have hnb : ∀ j o1 b,j ≠ id -> s.objs j = some o1 -> (hdr j).has b -> ∀ o,s.objs id = some o -> (hdr id).blk ≠ some b :=
  fun j o1 b hx ho1 hb o ho e=>hx (h.dis j id o1 o b ho1 ho hb (.inl e))
 refine h.recast (s':=takeIn s ids id o') (hdr':=hdr') (so:=killsO ids) (sp:=killsP ids) (sc:=killsC (id :: ids)) (fun k=>∃ o,s.objs id = some o /\ (hdr id).blk = some k) (fun i=>i = id) hos htp hou hsz
  (fun k hk hn=>hblk k hk (fun o ho e=>hn ⟨o,ho,e⟩)) (fun k ⟨o,ho,e⟩=>⟨id,o,ho,.inl e⟩) (fun t=>rfl) rfl rfl ?_ ?_ ?_ ?_ ?_ ?_ ?_ ?_
 ·intro i o b hi hb
  by_cases hx : i = id
  ·subst hx
   rw [hHid] at hb
   rcases hown b hb with ⟨o1,q1,q2⟩ | ⟨j,oj,_,q1,q2⟩ | q
   ·exact .inl ⟨i,o1,q1,q2⟩
   ·exact .inl ⟨j,oj,q1,q2⟩
   ·exact .inr q
  ·obtain ⟨_,o1,ho1,_⟩:=hob i o hi hx
   rw [hH i hx] at hb
   exact .inl ⟨i,o1,ho1,hb⟩
 ·intro j v hj
  simp only [killsO]
  cases hl : inL j ids with
  | true=>exact any_ok
  | false =>
   simp only
   unfold VR at hj ⊢
   obtain ⟨h1,h2⟩:=hj
   obtain ⟨o1,ho1⟩:=Option.isSome_iff_exists.1 h1
   replace ho1 : s.objs j = some o1:=ho1
   by_cases hx : j = id
   ·subst hx
    refine ⟨by show ((takeIn s ids j o').objs j).isSome = true; rw [hid']; rfl,?_⟩
    show v = (hdr' j).v
    rw [hHid,(hv hl o1 ho1).1]; exact h2
   ·refine ⟨by show ((takeIn s ids id o').objs j).isSome = true; rw [hon j o1 hx hl ho1]; rfl,?_⟩
    show v = (hdr' j).v
    rw [hH j hx]; exact h2
 ·intro j x y v hj
  simp only [killsP]
  cases hl : inL j ids with
  | true=>exact any_ok
  | false =>
   simp only
   unfold VR at hj ⊢
   obtain ⟨o1,b,h1,h2,h3⟩:=hj
   replace h1 : s.objs j = some o1:=h1
   by_cases hx : j = id
   ·subst hx
    obtain ⟨q1,q2⟩:=hv hl o1 h1
    refine ⟨o',b,hid',?_,by rw [q2]; exact h3⟩
    show (hdr' j).blk = some b
    rw [hHid]
    unfold Hdr.blk at h2 ⊢
    rw [q1]; exact h2
   ·refine ⟨_,b,hon j o1 hx hl h1,?_,by rw [(subO_esz _ _ _ o1).1]; exact h3⟩
    show (hdr' j).blk = some b
    rw [hH j hx]; exact h2
 ·intro j x y z v hj
  simp only [killsC]
  cases hl2 : inL j (id :: ids) with
  | true=>exact any_ok
  | false =>
   simp only
   have hne:=inL_no.1 hl2
   simp only [List.mem_cons,not_or] at hne
   have hl : inL j ids = false:=inL_no.2 hne.2
   unfold VR at hj ⊢
   obtain ⟨o1,b,sh,e,h1,hk,q1,q2,h2,h3⟩:=hj
   replace h1 : s.objs j = some o1:=h1
   have hsame : subO (killsO ids) (killsP ids) (killsC (id :: ids)) o1 = o1:=by simp [subO,hk]
   have hon1:=hon j o1 hne.1 hl h1
   rw [hsame] at hon1
   refine ⟨o1,b,sh,e,hon1,hk,q1,q2,?_,?_⟩
   ·show (hdr' j).blk = some b
    rw [hH j hne.1]; exact h2
   ·refine (World.cell?_of_block (w:=w) (w':=w') (a:=⟨b,_,none⟩) (hblk b (h.ge h1 (.inl h2)).2 ?_)).trans h3
    exact hnb j o1 b hne.1 h1 (.inl h2)
 ·intro i j x y z lo n cp v e hj
  simp only [killsC] at e
  cases hl2 : inL i (id :: ids) with
  | true=>rw [hl2] at e; cases e
  | false =>
   rw [hl2] at e
   cases e
   have hne:=inL_no.1 hl2
   simp only [List.mem_cons,not_or] at hne
   have hl : inL i ids = false:=inL_no.2 hne.2
   obtain ⟨o1,h1,h2,h3,h4⟩:=hj
   replace h1 : s.objs i = some o1:=h1
   obtain ⟨s1,s2,s3,s4⟩:=subO_esz (killsO ids) (killsP ids) (killsC (id :: ids)) o1
   refine ⟨_,hon i o1 hne.1 hl h1,by rw [subO_box]; exact h2,h3,?_⟩
   rw [s1]
   show _ \/ (_ /\ ∃ b m,(hdr' i).v = _ /\ _)
   rw [hH i hne.1]
   exact h4
 ·intro i o hi hx
  obtain ⟨_,o1,ho1,e⟩:=hob i o hi hx
  exact ⟨o1,ho1,e,hH i hx,fun b hb ⟨o2,ho2,e2⟩=>hnb i o1 b hx ho1 hb o2 ho2 e2⟩
 ·intro hR i o hi hx
  subst hx
  rw [hid'] at hi
  cases hi
  rw [hHid]
  exact hnew hR
 ·have key : ∀ j oo b,(takeIn s ids id o').objs j = some oo -> j ≠ id -> h'.has b -> (hdr' j).has b -> False:=by
   intro j oo b hj ej bi bj
   obtain ⟨hl,o1,ho1,_⟩:=hob j oo hj ej
   rw [hH j ej] at bj
   rcases hown b bi with ⟨o2,q1,q2⟩ | ⟨k,ok,ql,q1,q2⟩ | q
   ·exact ej (h.dis j id o1 o2 b ho1 q1 bj q2)
   ·have:=h.dis j k o1 ok b ho1 q1 bj q2
    rw [this,ql] at hl
    cases hl
   ·have:=(h.ge ho1 bj).2; omega
  intro i j o oo b hi hj bi bj
  by_cases ei : i = id
  ·by_cases ej : j = id
   ·rw [ei,ej]
   ·rw [ei,hHid] at bi
    exact (key j oo b hj ej bi bj).elim
  ·by_cases ej : j = id
   ·rw [ej,hHid] at bj
    exact (key i o b hi ei bj bi).elim
   ·obtain ⟨_,o1,ho1,_⟩:=hob i o hi ei
    obtain ⟨_,o2,ho2,_⟩:=hob j oo hj ej
    rw [hH i ei] at bi
    rw [hH j ej] at bj
    exact h.dis i j o1 o2 b ho1 ho2 bi bj
theorem Sim.tree (h : Sim F w0 gv s a w hdr) {j : Nat} {oj : AObj} {sh : List Shp} (ho : s.objs j = some oj) (hk : oj.kind = .deep sh) :
  TR w (.sl oj.elems) (.sl oj.ty oj.esz sh) (hdr j).v ((hdr j).v.blk.toList ++ (hdr j).fp) /\ ((hdr j).v.blk.toList ++ (hdr j).fp).Nodup /\ ∀ b,b ∈ (hdr j).v.blk.toList ++ (hdr j).fp ↔ (hdr j).has b:=by
 obtain ⟨hpos,hlens,⟨n1,n2,n3⟩,cs,hrow,hone,hcl⟩:=h.objs j oj ho
 refine ⟨?_,?_,fun b=>?_⟩
 ·unfold TR
  exact ⟨_,_,_,cs,_,rfl,hpos,hrow.mono (fun _ _=>rfl) (fun _ _ _=>trivial),hone,rfl,hcl.deep hk⟩
 ·rw [List.nodup_append]
  refine ⟨?_,n1,fun x hx y hy e=>?_⟩
  ·cases (hdr j).v.blk <;> simp
  ·subst e
   exact n2 x (show (hdr j).v.blk = some x by simpa using hx) hy
 ·simp [Hdr.has,Hdr.blk]
theorem ownsOf_cons {c : AV} {cs : List AV} : ownsOf (c :: cs) = (match c with | .own id=>[id] | _=>[]) ++ ownsOf cs:=by cases c <;> rfl
theorem fitL_ok (h : Sim F w0 gv s a w hdr) : ∀ {cs : List AV} {shs : List Shp} {vs : List Value},fitL s shs cs = true -> VL (s.ctx F w hdr) cs vs -> dupL (ownsOf cs) = false ->
  ∃ S,TL w (cs.map (absA s)) shs vs S /\ S.Nodup /\ ∀ b ∈ S,∃ j oj,inL j (ownsOf cs) = true /\ s.objs j = some oj /\ (hdr j).has b
 | [],[],vs,_,hv,_=>by
  cases vs with
  | nil=>exact ⟨[],by simp only [List.map_nil]; unfold TL; exact ⟨rfl,rfl,rfl⟩,List.nodup_nil,by simp⟩
  | cons v vs=>unfold VL at hv; exact hv.elim
 | [],_ :: _,_,hf,_,_=>by simp [fitL] at hf
 | _ :: _,[],_,hf,_,_=>by simp [fitL] at hf
 | c :: cs,sh :: shs,[],_,hv,_=>by unfold VL at hv; exact hv.elim
 | c :: cs,sh :: shs,v :: vs,hf,hv,hd=>by
  simp only [fitL,baT] at hf
  unfold VL at hv
  have hd2 : dupL (ownsOf cs) = false:=by
   cases c <;> simp only [ownsOf] at hd <;> try exact hd
   simp only [dupL,Bool.or_eq_false_iff] at hd
   exact hd.2
  obtain ⟨S2,k1,k2,k3⟩:=fitL_ok h hf.2 hv.2 hd2
  have k3' : ∀ b ∈ S2,∃ j oj,inL j (ownsOf (c :: cs)) = true /\ s.objs j = some oj /\ (hdr j).has b:=by
   intro b hb
   obtain ⟨j,oj,q1,q2,q3⟩:=k3 b hb
   exact ⟨j,oj,inL_mem.2 (by rw [ownsOf_cons]; exact List.mem_append_right _ (inL_mem.1 q1)),q2,q3⟩
  have plain : TR w (absA s c) sh v [] -> ∃ S,TL w ((c :: cs).map (absA s)) (sh :: shs) (v :: vs) S /\ S.Nodup /\ ∀ b ∈ S,∃ j oj,inL j (ownsOf (c :: cs)) = true /\ s.objs j = some oj /\ (hdr j).has b:=by
   intro ht
   refine ⟨S2,?_,k2,k3'⟩
   simp only [List.map_cons]
   unfold TL
   exact ⟨sh,shs,v,vs,[],S2,rfl,rfl,rfl,ht,k1⟩
  have h1:=hv.1
  have hf1:=hf.1
  unfold fitA at hf1
  split at hf1
  ·split at hf1
   ·exact plain (by unfold VR at h1; simp only [absA]; unfold TR; exact ⟨rfl,h1,rfl⟩)
   ·exact plain (by unfold VR at h1; simp only [absA]; unfold TR; exact ⟨rfl,h1,rfl⟩)
   ·exact plain (by unfold VR at h1; simp only [absA]; unfold TR; exact ⟨rfl,h1,rfl⟩)
   ·cases hf1
  ·rename_i ty esz cells
   split at hf1
   ·exact plain (by unfold VR at h1; simp only [absA]; unfold TR; exact ⟨⟨_,_,_,rfl⟩,h1,rfl⟩)
   ·rename_i id
    split at hf1
    ·rename_i o ho
     split at hf1
     ·rename_i sh' hk
      simp only [baT] at hf1
      have e1:=Nat.eq_of_beq_eq_true hf1.1
      have e2:=Nat.eq_of_beq_eq_true hf1.2.1
      have e3:=Shp.beq_eq.beqL_eq _ _ hf1.2.2
      subst e1 e2 e3
      obtain ⟨t1,t2,t3⟩:=h.tree ho hk
      unfold VR at h1
      obtain ⟨_,h1⟩:=h1
      replace h1 : v = (hdr id).v:=h1
      subst h1
      simp only [ownsOf,dupL,Bool.or_eq_false_iff] at hd
      refine ⟨((hdr id).v.blk.toList ++ (hdr id).fp) ++ S2,?_,?_,?_⟩
      ·simp only [List.map_cons,absA,ho]
       unfold TL
       exact ⟨_,_,_,_,_,_,rfl,rfl,rfl,t1,k1⟩
      ·rw [List.nodup_append]
       refine ⟨t2,k2,fun x hx y hy e=>?_⟩
       subst e
       obtain ⟨j,oj,q1,q2,q3⟩:=k3 x hy
       have:=h.dis id j o oj x ho q2 ((t3 x).1 hx) q3
       rw [this,q1] at hd
       cases hd.1
      ·intro b hb
       rcases List.mem_append.1 hb with hb | hb
       ·exact ⟨id,o,inL_mem.2 (by rw [ownsOf_cons]; simp),ho,(t3 b).1 hb⟩
       ·exact k3' b hb
     ·cases hf1
     ·cases hf1
    ·cases hf1
   ·cases hf1
end
end Go.Ab
