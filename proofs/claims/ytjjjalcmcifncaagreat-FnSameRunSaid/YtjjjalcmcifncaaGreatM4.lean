/-
  Binary search over a list; objects that are given up at an end.
  Calls of the library that turn a slice of the caller's own: Sort, Compact.
  A nil slice as an empty list that is only read.
  Plain laws: lists that rise, searched and collected.
  Calls of the library that turn a slice of numbers of the caller's own: Sort, Compact.
  An object takes another's name.
  Objects that own what they reach: flat ones turned into such; functions that write marks through all that is reached.
  Calls of functions that mark, and what such a function is out of its code.
  What a function that marks is, out of its code; such a function at what lies in a cell.
  Small steps for objects that own what they reach; marks through lists.
  No condition: definitions and lemmas over any program.
-/
import Derived.Test.YtjjjalcmcifncaaGreatM3
import Derived.Sort.OwnSorted
import Derived.Lib.SlicesCompact
import Derived.Sort.Walk0
namespace Go.Ab
set_option linter.unusedVariables false
section
variable {α : Type} {c : α -> Int} {xs : List α} {i j : Nat} {x : α}
end
theorem one_lenC {L : List (List AV)} {e : List AV} {n : Nat} (hL : L = [e]) (he : e.length = n) : ∀ z ∈ L,z.length = n:=by
 subst hL
 intro z hz
 simp at hz
 rw [hz]
 exact he
theorem app_boundC {L M : List (List AV)} {b : Nat} (hM : M.length = 1) (hL : L.length <= 2097152) (hb : b <= 64) : L.length + M.length <= 70368744177664 /\ (L.length + M.length) * b <= 140737488355328:=by
 rw [hM]
 refine ⟨by omega,?_⟩
 have : (L.length + 1) * b <= (L.length + 1) * 64:=Nat.mul_le_mul_left _ hb
 omega
theorem St.le_frz (s : St) (ids : List Nat) : s.le (frzIds s ids):=by
 intro F w0 gv a w ⟨hdr,h⟩
 exact ⟨hdr,(frzIds_ok ids s h).1⟩
theorem OutA_frz {P : Program} {sh : Bool} {rs : List ResultVar} {r : AV} {os : List AObj} {s : St} (ids : List Nat) (h : OutA P sh rs r os (frzIds s ids)) : OutA P sh rs r os s :=
 OutA_le (St.le_frz s ids) h
theorem Loop_frz {body : (Exit -> St -> Prop) -> St -> Prop} {K : Exit -> St -> Prop} {s : St} (ids : List Nat) (h : Loop body K (frzIds s ids)) : Loop body K s:=by
 unfold Loop at h ⊢
 obtain ⟨J,I,m,j0,h0,hb⟩:=h
 exact ⟨J,I,m,j0,St.le_trans (St.le_frz s ids) h0,hb⟩
end Go.Ab
namespace Go.Ab
open Go.Sort Go.Proofs
set_option linter.unusedVariables false
theorem turned_id (s : St) (id : Nat) (o' : AObj) : turned s (fun j=>.own j) (fun j x y=>.ptr j x y) (fun j x y z=>.cel j x y z) id (some o') = setObj s id o':=by
 cases s with
 | mk e z o n g =>
  simp only [turned,setObj]
  congr 1
  ·funext t; exact AV.sub_id _
  ·funext i
   by_cases h : i = id
   ·simp [h]
   ·simp only [h,if_false]
    cases o i with
    | none=>rfl
    | some x=>simp [subO_id]
  ·exact AV.subL_id g
section
variable {F : Nat -> Prop} {w0 : Base} {gv : List Value} {s : St} {a : Act} {w : World} {hdr : Nat -> Hdr}
theorem Sim.reown (h : Sim F w0 gv s a w hdr) {id : Nat} {o : AObj} (ho : s.objs id = some o) (hk : o.kind = .slc) {w' : World} {v' : Value} {es' : List (List AV)} {cs' : List Value} {so : Nat -> AV} {sp : Nat -> Nat -> Nat -> AV} {sc : SC}
  (hso : ∀ j,j ≠ id -> so j = .own j) (hsp : ∀ j x y,j ≠ id -> sp j x y = .ptr j x y) (hsc : ∀ j x y z,j ≠ id -> sc j x y z = .cel j x y z)
  (hoid : so id = .any \/ (so id = .own id /\ v' = (hdr id).v)) (hpid : (∀ x y,sp id x y = .any) \/ ((∀ x y,sp id x y = .ptr id x y) /\ v' = (hdr id).v))
  (hqid : (∀ j x y z,sc id 0 0 [] = .cel j x y z -> False) \/ (sc id 0 0 [] = .cel id 0 0 [] /\ ∀ b m c,(hdr id).v = .slice (some ⟨b,0,none⟩) m c -> ∃ m',v' = .slice (some ⟨b,0,none⟩) m' c))
  (hl : ∀ e ∈ es',e.length = o.esz) (hlr : LR w (roOf F w hdr s.objs) es'.flatten cs') (hcs : ∀ u ∈ cs',u.oneCell' = true)
  (hown : OwnR w' w0.N o.ty o.esz v' es'.length cs') (hg : w.grownBy w' (hdr id).blk)
  (hb' : ∀ b,v'.blk = some b -> (hdr id).blk = some b \/ w.heap.size <= b) :
  Sim F w0 gv (turned s so sp sc id (some { o with elems:=es' })) a w' (fun i=>if i = id then ⟨v',[]⟩ else hdr i):=by
 have hpos:=(h.objs id o ho).pos
 refine h.turn (o0:=o) ho hg (fun j hj=>by simp [hj]) hso hsp hsc ?_ ?_ ?_ ?_ ?_ ?_
 ·intro v hv
  rcases hoid with e | ⟨e,e2⟩
  ·rw [e]; unfold VR; trivial
  ·rw [e]
   unfold VR at hv ⊢
   refine ⟨by simp [St.ctx,turned],?_⟩
   simp [St.ctx]
   rw [e2]
   exact hv.2
 ·intro x y v hv
  rcases hpid with e | ⟨e,e2⟩
  ·rw [e]; unfold VR; trivial
  ·rw [e]
   unfold VR at hv ⊢
   obtain ⟨o1,b,k1,k2,k3⟩:=hv
   have : o1 = o:=by
    have k1' : s.objs id = some o1:=k1
    rw [ho] at k1'; cases k1'; rfl
   subst this
   exact ⟨{ o1 with elems:=es' },b,by simp [St.ctx,turned],by simp [St.ctx,Hdr.blk]; rw [e2]; exact k2,k3⟩
 ·intro x y z v hv
  exfalso
  unfold VR at hv
  obtain ⟨o1,b,sh,e,k1,k2,_⟩:=hv
  have k1' : s.objs id = some o1:=k1
  rw [ho] at k1'; cases k1'
  rw [hk] at k2; cases k2
 ·intro j x y z lo n cp v e hv
  rcases hqid with e1 | ⟨e1,e2⟩
  ·exact (e1 _ _ _ _ e).elim
  ·rw [e1] at e
   cases e
   obtain ⟨o1,k1,k2,k3,k4⟩:=hv
   replace k1 : s.objs id = some o1:=k1
   rw [ho] at k1
   cases k1
   refine ⟨{ o with elems:=es' },by simp [St.ctx,turned],k2,k3,?_⟩
   show _ \/ (_ /\ ∃ b m,(ite (id = id) (⟨v',[]⟩ : Hdr) (hdr id)).v = _ /\ _)
   rw [if_pos rfl]
   rcases k4 with k4 | ⟨q1,b,m,q2,q3⟩
   ·exact .inl k4
   ·obtain ⟨m',e3⟩:=e2 b m _ q2
    exact .inr ⟨q1,b,m',e3,q3⟩
 ·intro hR o1 e1
  cases e1
  simp only [if_true]
  refine ⟨hpos,hl,nd_nil,cs',hown,hcs,CellsR_slc hk (LR.ofR hR _ _ hlr)⟩
 ·intro o1 b _ e
  simp only [if_true] at e
  rcases e with e | e
  ·exact (hb' b e).imp .inl (fun h=>h)
  ·cases e
end
end Go.Ab
namespace Go.Ab
set_option linter.unusedVariables false
theorem VR_nilS {c : Ctx} {v : Value} (h : VR c .nil v) : VR c (.sl []) v:=by
 unfold VR at h
 obtain ⟨base,rfl⟩:=h
 unfold VR RR
 exact ⟨base,0,rfl,Nat.le_refl _,.inl rfl⟩
theorem St.le_nilS {e : Nat -> AV} {z : Nat} {o : Nat -> Option AObj} {n : Nat} {g : List AV} (t : Nat) (ht : e t = .nil) : St.le ⟨e,z,o,n,g⟩ ⟨upd t (.sl []) e,z,o,n,g⟩:=by
 intro F w0 gv a w ⟨hdr,h⟩
 refine ⟨hdr,fun t'=>?_,h.sz,h.defers,h.gh,h.objs,h.dis,h.below,h.free⟩
 rw [upd_eq]
 by_cases e1 : t' = t
 ·subst e1
  have hv:=h.env t'
  have ht2 : St.env ⟨e,z,o,n,g⟩ t' = .nil:=ht
  rw [ht2] at hv
  show VR _ (if t' = t' then AV.sl [] else e t') _
  rw [if_pos rfl]
  exact VR_nilS (c:=St.ctx ⟨e,z,o,n,g⟩ F w hdr) hv
 ·show VR _ (if t' = t then AV.sl [] else e t') _
  rw [if_neg e1]
  exact h.env t'
theorem OutA_nilS {P : Program} {sh : Bool} {rs : List ResultVar} {r : AV} {os : List AObj} {e : Nat -> AV} {z : Nat} {o : Nat -> Option AObj} {n : Nat} {g : List AV} (t : Nat) (ht : e t = .nil)
  (h : OutA P sh rs r os ⟨upd t (.sl []) e,z,o,n,g⟩) : OutA P sh rs r os ⟨e,z,o,n,g⟩:=OutA_le (St.le_nilS t ht) h
theorem RR_nilS {w : World} {ro : Nat -> Prop} {v : Value} (h : RR w ro .nil v) : RR w ro (.sl []) v:=by
 unfold RR at h
 obtain ⟨base,rfl⟩:=h
 unfold RR
 exact ⟨base,0,rfl,Nat.le_refl _,.inl rfl⟩
theorem PC.nil2 {P : Program} {sh : Bool} {f : Nat} {x r : AV} {os : List AObj} (h : PC P sh f [x,.sl []] r os) : PC P sh f [x,.nil] r os:=by
 refine ⟨fun w R vals hR hv=>h.run w R vals hR ?_⟩
 match vals,hv with
 | [a,b],hv =>
  unfold LR at hv
  have h2:=hv.2
  unfold LR at h2
  unfold LR
  refine ⟨hv.1,?_⟩
  unfold LR
  exact ⟨RR_nilS h2.1,h2.2⟩
 | [],hv=>unfold LR at hv; exact hv.elim
 | [_],hv=>unfold LR at hv; have:=hv.2; unfold LR at this; exact this.elim
 | _ :: _ :: _ :: _,hv =>
  unfold LR at hv
  have h2:=hv.2
  unfold LR at h2
  have h3:=h2.2
  unfold LR at h3
  exact h3.elim
theorem ix_at {α : Type} {f : α -> List AV} {xs : List α} {n : Int} {m : Nat} {x : α} {Q : List AV -> Prop} (e : n = (m : Int)) (hx : xs[m]? = some x) (hQ : Q (f x)) : 0 <= n /\ ∃ y,(xs.map f)[n.toNat]? = some y /\ Q y:=by
 subst e
 exact ⟨by omega,f x,by simp [hx],hQ⟩
theorem ix_re {α : Type} {f : α -> List AV} {xs : List α} {n : Int} {x : α} {Q : List AV -> Prop} (h0 : 0 <= n) (hx : xs[n.toNat]? = some x) (hQ : Q (f x)) : 0 <= n /\ ∃ y,(xs.map f)[n.toNat]? = some y /\ Q y :=
 ⟨h0,f x,by simp [hx],hQ⟩
theorem idxF_lt {α : Type} {q : α -> Bool} : ∀ {xs : List α} {k : Nat} {n : Int},idxF q k xs = n -> 0 <= n -> ∃ x,xs[n.toNat - k]? = some x /\ q x = true /\ (k : Int) <= n
 | [],k,n,h,hn=>by unfold idxF at h; omega
 | x :: xs,k,n,h,hn=>by
  unfold idxF at h
  by_cases hq : q x = true
  ·rw [if_pos hq] at h
   subst h
   refine ⟨x,?_,hq,by omega⟩
   have : (k : Int).toNat - k = 0:=by simp
   rw [this]; rfl
  ·rw [if_neg hq] at h
   obtain ⟨y,h1,h2,h3⟩:=idxF_lt (xs:=xs) (k:=k + 1) h hn
   refine ⟨y,?_,h2,by omega⟩
   have : n.toNat - k = (n.toNat - (k + 1)) + 1:=by omega
   rw [this]
   simpa using h1
end Go.Ab
namespace Go.Ab
open Go.Proofs
set_option linter.unusedVariables false
section
variable {α : Type} {c : α -> Int} {xs : List α}
end
end Go.Ab
namespace Go.Ab
open Go.Sort Go.Proofs
set_option linter.unusedVariables false
section
end
end Go.Ab
namespace Go.Ab
set_option linter.unusedVariables false
def renO (a b : Nat) : Nat -> AV:=fun j=>if j = a then .own b else if j = b then .any else .own j
def renP (a b : Nat) : Nat -> Nat -> Nat -> AV:=fun j x y=>if j = a then .ptr b x y else if j = b then .any else .ptr j x y
def renC (a b : Nat) : SC:=fun j x y z=>if j = a then .cel b x y z else if j = b then .any else .cel j x y z
def renS (s : St) (a b : Nat) : St :=
 match s with
 | ⟨e,z,o,n,g⟩=>⟨fun t=>(e t).sub (renO a b) (renP a b) (renC a b),z,fun i=>if i = b then (o a).map (subO (renO a b) (renP a b) (renC a b)) else if i = a then none else (o i).map (subO (renO a b) (renP a b) (renC a b)),n,AV.sub.subL (renO a b) (renP a b) (renC a b) g⟩
theorem St.le_ren (s : St) (a b : Nat) (hab : a ≠ b) (ha : (s.objs a).isSome = true) : s.le (renS s a b):=by
 intro F w0 gv act w ⟨hdr,h⟩
 obtain ⟨oa,hoa⟩:=Option.isSome_iff_exists.1 ha
 let from' : Nat -> Nat:=fun i=>if i = b then a else i
 let hdr' : Nat -> Hdr:=fun i=>if i = b then hdr a else hdr i
 have hh : ∀ i,hdr' i = hdr (from' i):=fun i=>by
  show (if i = b then hdr a else hdr i) = hdr (if i = b then a else i)
  split <;> rfl
 have hob : ∀ i o,(renS s a b).objs i = some o -> ∃ o1,s.objs (from' i) = some o1 /\ o = subO (renO a b) (renP a b) (renC a b) o1 /\ (i = b \/ i ≠ a):=by
  intro i o hi
  show ∃ o1,s.objs (if i = b then a else i) = some o1 /\ _ /\ _
  have hi2 : (if i = b then (s.objs a).map (subO (renO a b) (renP a b) (renC a b)) else if i = a then none else (s.objs i).map (subO (renO a b) (renP a b) (renC a b))) = some o:=hi
  by_cases e : i = b
  ·rw [if_pos e] at hi2 ⊢
   rw [hoa] at hi2
   exact ⟨oa,hoa,by simpa using hi2.symm,.inl e⟩
  ·rw [if_neg e] at hi2 ⊢
   by_cases e2 : i = a
   ·rw [if_pos e2] at hi2; cases hi2
   ·rw [if_neg e2] at hi2
    cases hs : s.objs i with
    | none=>rw [hs] at hi2; cases hi2
    | some o1=>rw [hs] at hi2; exact ⟨o1,rfl,by simpa using hi2.symm,.inr e2⟩
 have hsoV : ∀ j v,VR (s.ctx F w hdr) (.own j) v -> VR ((renS s a b).ctx F w hdr') (renO a b j) v:=by
  intro j v hv
  unfold VR at hv
  obtain ⟨h1,h2⟩:=hv
  obtain ⟨o1,ho1⟩:=Option.isSome_iff_exists.1 h1
  replace ho1 : s.objs j = some o1:=ho1
  replace h2 : v = (hdr j).v:=h2
  unfold renO
  by_cases e : j = a
  ·subst e
   rw [if_pos rfl]
   unfold VR
   refine ⟨?_,?_⟩
   ·show ((renS s j b).objs b).isSome = true
    simp [renS,ho1]
   ·show v = (if b = b then hdr j else hdr b).v
    rw [if_pos rfl]; exact h2
  ·rw [if_neg e]
   by_cases e2 : j = b
   ·rw [if_pos e2]; unfold VR; trivial
   ·rw [if_neg e2]
    unfold VR
    refine ⟨?_,?_⟩
    ·show ((renS s a b).objs j).isSome = true
     simp [renS,ho1,e,e2]
    ·show v = (if j = b then hdr a else hdr j).v
     rw [if_neg e2]; exact h2
 have hspV : ∀ j x y v,VR (s.ctx F w hdr) (.ptr j x y) v -> VR ((renS s a b).ctx F w hdr') (renP a b j x y) v:=by
  intro j x y v hv
  unfold VR at hv
  obtain ⟨o1,k,h1,h2,h3⟩:=hv
  replace h1 : s.objs j = some o1:=h1
  replace h2 : (hdr j).blk = some k:=h2
  unfold renP
  by_cases e : j = a
  ·subst e
   rw [if_pos rfl]
   unfold VR
   refine ⟨subO (renO j b) (renP j b) (renC j b) o1,k,?_,?_,?_⟩
   ·show (renS s j b).objs b = _
    simp [renS,h1]
   ·show (if b = b then hdr j else hdr b).blk = some k
    rw [if_pos rfl]; exact h2
   ·rw [(subO_esz _ _ _ o1).1]; exact h3
  ·rw [if_neg e]
   by_cases e2 : j = b
   ·rw [if_pos e2]; unfold VR; trivial
   ·rw [if_neg e2]
    unfold VR
    refine ⟨subO (renO a b) (renP a b) (renC a b) o1,k,?_,?_,?_⟩
    ·show (renS s a b).objs j = _
     simp [renS,h1,e,e2]
    ·show (if j = b then hdr a else hdr j).blk = some k
     rw [if_neg e2]; exact h2
    ·rw [(subO_esz _ _ _ o1).1]; exact h3
 have hscV : ∀ j x y z v,VR (s.ctx F w hdr) (.cel j x y z) v -> VR ((renS s a b).ctx F w hdr') (renC a b j x y z) v:=by
  intro j x y z v hv
  unfold VR at hv
  obtain ⟨o1,k,sh,el,h1,hk,q1,q2,h2,h3⟩:=hv
  replace h1 : s.objs j = some o1:=h1
  replace h2 : (hdr j).blk = some k:=h2
  have hsame : subO (renO a b) (renP a b) (renC a b) o1 = o1:=by simp [subO,hk]
  unfold renC
  by_cases e : j = a
  ·subst e
   rw [if_pos rfl]
   unfold VR
   refine ⟨o1,k,sh,el,?_,hk,q1,q2,?_,h3⟩
   ·show (renS s j b).objs b = _
    simp [renS,h1,hsame]
   ·show (if b = b then hdr j else hdr b).blk = some k
    rw [if_pos rfl]; exact h2
  ·rw [if_neg e]
   by_cases e2 : j = b
   ·rw [if_pos e2]; unfold VR; trivial
   ·rw [if_neg e2]
    unfold VR
    refine ⟨o1,k,sh,el,?_,hk,q1,q2,?_,h3⟩
    ·show (renS s a b).objs j = _
     simp [renS,h1,e,e2,hsame]
    ·show (if j = b then hdr a else hdr j).blk = some k
     rw [if_neg e2]; exact h2
 have hptV : ∀ i j x y z lo n cp v,renC a b i 0 0 [] = .cel j x y z -> PrtR (s.ctx F w hdr) i lo n cp v -> PrtR ((renS s a b).ctx F w hdr') j lo n cp v:=by
  intro i j x y z lo n cp v e hv
  obtain ⟨o1,h1,h2,h3,h4⟩:=hv
  replace h1 : s.objs i = some o1:=h1
  obtain ⟨s1,s2,s3,s4⟩:=subO_esz (renO a b) (renP a b) (renC a b) o1
  have key : (renS s a b).objs j = some (subO (renO a b) (renP a b) (renC a b) o1) /\ (hdr' j) = hdr i:=by
   unfold renC at e
   by_cases e1 : i = a
   ·rw [if_pos e1] at e
    cases e
    subst e1
    refine ⟨by simp [renS,h1],?_⟩
    show (if b = b then hdr i else hdr b) = _
    rw [if_pos rfl]
   ·rw [if_neg e1] at e
    by_cases e2 : i = b
    ·rw [if_pos e2] at e; cases e
    ·rw [if_neg e2] at e
     cases e
     refine ⟨by simp [renS,h1,e1,e2],?_⟩
     show (if i = b then hdr a else hdr i) = _
     rw [if_neg e2]
  refine ⟨_,key.1,by rw [subO_box]; exact h2,h3,?_⟩
  rw [s1]
  show _ \/ (_ /\ ∃ b0 m,(hdr' j).v = _ /\ _)
  rw [key.2]
  exact h4
 refine ⟨hdr',h.recast (s':=renS s a b) (hdr':=hdr') (so:=renO a b) (sp:=renP a b) (sc:=renC a b) (fun _=>False) (fun _=>True) rfl rfl rfl (Nat.le_refl _) (fun _ _ _=>rfl) (fun _ h=>h.elim) (fun t=>rfl) rfl rfl ?_ hsoV hspV hscV hptV (fun i o' _ hc=>absurd trivial hc) ?_ ?_⟩
 ·intro i o k hi hk
  obtain ⟨o1,ho1,_,_⟩:=hob i o hi
  rw [hh] at hk
  exact .inl ⟨_,o1,ho1,hk⟩
 ·intro hR i o hi _
  obtain ⟨o1,ho1,rfl,_⟩:=hob i o hi
  obtain ⟨k2,k3,kn,cs,k4,k5,k6⟩:=h.objs _ o1 ho1
  obtain ⟨s1,s2,s3,s4⟩:=subO_esz (renO a b) (renP a b) (renC a b) o1
  rw [hh]
  refine ⟨by rw [s1]; exact k2,?_,kn,cs,by rw [s1,s2,s4]; exact k4,k5,?_⟩
  ·intro e he
   rw [s1]
   unfold subO at he
   split at he
   ·simp at he
    obtain ⟨e0,he0,rfl⟩:=he
    rw [subL_length]; exact k3 e0 he0
   ·exact k3 e he
   ·exact k3 e he
  ·cases hk : o1.kind with
   | box =>
    obtain ⟨q1,q2⟩:=k6.box hk
    rw [q2]
    refine CellsR_box (by rw [s3]; exact hk) ?_
    have : (subO (renO a b) (renP a b) (renC a b) o1).elems.flatten = AV.sub.subL (renO a b) (renP a b) (renC a b) o1.elems.flatten:=by simp [subO,hk,subL_flatten]
    rw [this]
    exact VL.sub (c:=s.ctx F w hdr) (c':=(renS s a b).ctx F w hdr') hR hsoV hspV hscV hptV _ _ q1
   | slc =>
    obtain ⟨q1,q2⟩:=k6.slc hk
    rw [q2]
    have : (subO (renO a b) (renP a b) (renC a b) o1) = o1:=by simp [subO,hk]
    rw [this]
    exact CellsR_slc hk (LR.ofR hR _ _ q1)
   | deep sh =>
    have : (subO (renO a b) (renP a b) (renC a b) o1) = o1:=by simp [subO,hk]
    rw [this]
    exact CellsR_deep hk (k6.deep hk)
 ·intro i j o oo k hi hj bi bj
  obtain ⟨o1,q1,_,e1⟩:=hob i o hi
  obtain ⟨o2,q2,_,e2⟩:=hob j oo hj
  rw [hh] at bi bj
  have e:=h.dis _ _ o1 o2 k q1 q2 bi bj
  have e3 : (if i = b then a else i) = (if j = b then a else j):=e
  split at e3 <;> split at e3 <;> rename_i u v
  ·rw [u,v]
  ·rcases e2 with e2 | e2
   ·exact absurd e2 v
   ·exact absurd e3.symm e2
  ·rcases e1 with e1 | e1
   ·exact absurd e1 u
   ·exact absurd e3 e1
  ·exact e3
theorem Again_ren {J : Type} {p : J -> Prop} {mods : J -> List (Nat × AV)} {omods : J -> List (Nat × AObj)} {m : J -> Nat} {j : J} {el : List (Nat × AV)} {ol : List (Nat × AObj)} {z n : Nat} {g : List AV} {s : St} (a b : Nat) (hab : a ≠ b) (ha : (s.objs a).isSome = true) (h : Again p mods omods m j el ol z n g (renS s a b)) : Again p mods omods m j el ol z n g s :=
 Again_le (St.le_ren s a b hab ha) h
end Go.Ab
namespace Go.Ab
open Go.RowKit
set_option linter.unusedVariables false
theorem St.le_prom (s : St) (l : List (Nat × List Shp)) (hp : PromAll s l) : s.le (promS s l):=fun F w0 gv a w ⟨hdr,h⟩=>⟨hdr,(h.prom hp).1⟩
theorem OutA_prom {P : Program} {sh : Bool} {rs : List ResultVar} {r : AV} {os : List AObj} {s : St} (l : List (Nat × List Shp)) (hp : PromAll s l) (h : OutA P sh rs r os (promS s l)) : OutA P sh rs r os s:=OutA_le (St.le_prom s l hp) h
theorem Loop_prom {body : (Exit -> St -> Prop) -> St -> Prop} {K : Exit -> St -> Prop} {s : St} (l : List (Nat × List Shp)) (hp : PromAll s l) (h : Loop body K (promS s l)) : Loop body K s:=by
 unfold Loop at h ⊢
 obtain ⟨J,I,m,j0,h0,hb⟩:=h
 exact ⟨J,I,m,j0,St.le_trans (St.le_prom s l hp) h0,hb⟩
structure MOut (w w' : World) (shs : List Shp) (al' : List AV) (vs : List Value) (S : List Nat) : Prop where
 tl : ∃ S',TL w' al' shs vs S' /\ S'.Nodup /\ ∀ b ∈ S',b ∈ S \/ w.heap.size <= b
 os : w'.os = w.os
 tape : w'.tape = w.tape
 output : w'.output = w.output
 size : w.heap.size <= w'.heap.size
 block : ∀ k,k < w.heap.size -> k ∉ S -> w'.heap[k]? = w.heap[k]?
def argV (b : Bool) (vs : List Value) : Value :=
 match b with
 | true=>.agg vs.toArray
 | false=>vs.headD undef
structure MC (P : Program) (f : Nat) (b : Bool) (al : List AV) (shs : List Shp) (k : Int) (al' : List AV) (k' : Int) : Prop where
 one : b = false -> al.length = 1
 run : ∀ (w : World) (vs : List Value) (S : List Nat),Tab w (fun x=>x ∈ S \/ w.heap.size <= x) -> TL w al shs vs S -> S.Nodup -> Ans P f #[argV b vs,.int .i64 k] w fun r w'=>r = .int .i64 k' /\ MOut w w' shs al' vs S
end Go.Ab
namespace Go.Ab
open Go.RowKit
set_option linter.unusedVariables false
def OwnV (hdr : Nat -> Hdr) : List AV -> List Value -> Prop
 | c :: cs,v :: vs=>(∀ j,c = .own j -> (hdr j).v = v) /\ OwnV hdr cs vs
 | _,_=>True
theorem OwnV.congr {hdr hdr' : Nat -> Hdr} : ∀ {cs : List AV} {vs : List Value},(∀ j,inL j (ownsOf cs) = true -> hdr' j = hdr j) -> OwnV hdr cs vs -> OwnV hdr' cs vs
 | [],_,_,_=>by unfold OwnV; trivial
 | _ :: _,[],_,_=>by unfold OwnV; trivial
 | c :: cs,v :: vs,he,h=>by
  unfold OwnV at h ⊢
  refine ⟨fun j hj=>?_,OwnV.congr (fun j hj=>he j ?_) h.2⟩
  ·rw [he j (inL_mem.2 (by rw [ownsOf_cons,hj]; simp))]
   exact h.1 j hj
  ·exact inL_mem.2 (by rw [ownsOf_cons]; exact List.mem_append_right _ (inL_mem.1 hj))
section
variable {F : Nat -> Prop} {w0 : Base} {gv : List Value} {s : St} {a : Act} {w : World} {hdr : Nat -> Hdr}
end
end Go.Ab
namespace Go.Ab
open Go.RowKit
set_option linter.unusedVariables false
theorem TL_one {w : World} {a : AV} {sh : Shp} {v : Value} {S : List Nat} : TL w [a] [sh] [v] S ↔ TR w a sh v S:=by
 constructor
 ·intro h
  unfold TL at h
  obtain ⟨_,_,_,_,S1,S2,h1,h2,h3,h4,h5⟩:=h
  unfold TL at h5
  cases h1
  cases h2
  rw [h3,h5.2.2,List.append_nil]
  exact h4
 ·intro h
  unfold TL
  exact ⟨sh,[],v,[],S,[],rfl,rfl,(List.append_nil _).symm,h,by unfold TL; exact ⟨rfl,rfl,rfl⟩⟩
end Go.Ab
namespace Go.Ab
set_option linter.unusedVariables false
theorem StoreD_of {s : St} {id idx off : Nat} {ob : AObj} {sh : List Shp} {cs e : List AV} {K : St -> Prop} (h1 : fitL s ((sh.drop off).take cs.length) cs = true) (h2 : inL id (ownsOf cs) = false) (h3 : dupL (ownsOf cs) = false)
  (h : forceS (takeIn s (ownsOf cs) id { ob with elems:=ob.elems.set idx (splice e off (cs.map (absA s))) }) K) : StoreD s id idx off ob sh cs e K:=by
 unfold StoreD
 rw [forceS_eq] at h
 exact ⟨h1,⟨h2,h3⟩,none,_,(fun _ _ e=>by cases e),fun _ _ _ _ _ h=>h,h⟩
theorem StoreD_keep {s : St} {id idx off : Nat} {ob : AObj} {sh : List Shp} {cs e : List AV} {K : St -> Prop} (t p : Nat) {j : Nat} {xs : List (List AV)} (q1 : s.env t = .own j) (q2 : cs[p]? = some (.own j)) (q3 : (splice e off (cs.map (absA s)))[off + p]? = some (.sl xs)) (h1 : fitL s ((sh.drop off).take cs.length) cs = true) (h2 : inL id (ownsOf cs) = false) (h3 : dupL (ownsOf cs) = false)
  (h : forceS (keepC (some (t,.cel id idx (off + p) xs)) (takeIn s (ownsOf cs) id { ob with elems:=ob.elems.set idx (splice e off (cs.map (absA s))) })) K) : StoreD s id idx off ob sh cs e K:=by
 unfold StoreD
 rw [forceS_eq] at h
 exact ⟨h1,⟨h2,h3⟩,_,_,(fun t' x' e'=>by cases e'; exact ⟨j,p,xs,q1,q2,q3,rfl⟩),fun _ _ _ _ _ h=>h,h⟩
theorem BuildD_of {s : St} {nid ty esz : Nat} {r : List AV} {d : Option Nat} {K : St -> Prop} (sh : List Shp) (h1 : fitL s sh r = true) (h2 : dupL (ownsOf r) = false) (h3 : inL nid (ownsOf r) = false)
  (h : forceS (takeIn s (ownsOf r) nid ⟨.deep sh,ty,esz,[r.map (absA s)]⟩) fun s'=>s'.putK d (.own nid) K) : BuildD s nid ty esz 1 r d K:=by
 unfold BuildD
 refine ⟨[],trivial,sh,rfl,?_⟩
 rw [promS_nil]
 exact ⟨⟨h1,h2,h3⟩,h⟩
theorem BuildD_prom {s : St} {nid ty esz : Nat} {r : List AV} {d : Option Nat} {K : St -> Prop} (l : List (Nat × List Shp)) (hp : PromAll s l) (sh : List Shp) (h1 : fitL (promS s l) sh r = true) (h2 : dupL (ownsOf r) = false) (h3 : inL nid (ownsOf r) = false)
  (h : forceS (takeIn (promS s l) (ownsOf r) nid ⟨.deep sh,ty,esz,[r.map (absA (promS s l))]⟩) fun s'=>s'.putK d (.own nid) K) : BuildD s nid ty esz 1 r d K:=by
 unfold BuildD
 exact ⟨l,hp,sh,rfl,⟨h1,h2,h3⟩,h⟩
theorem AppD_of {P : Program} {e : TypeId} {i : TypeInfo} {s : St} {id j : Nat} {o : AObj} {sh : List Shp} {d : Option Nat} {K : St -> Prop} {ty esz : Nat} {es : List (List AV)} (hj : s.objs j = some ⟨.deep sh,ty,esz,es⟩)
  (h1 : j ≠ id /\ esz = i.size /\ o.ty = e /\ o.esz = i.size /\ i.zero.isSome = true /\ (i.zero.map (·.cells.size)) = some i.size) (h2 : o.elems.length + es.length <= 70368744177664 /\ (o.elems.length + es.length) * i.bytes <= 140737488355328)
  (h : forceS (takeIn s [id,j] id { o with elems:=o.elems ++ es }) fun s'=>s'.putK d (.own id) K) : AppD P e i s id o sh (.own j) d K:=by
 unfold AppD
 exact ⟨j,_,rfl,hj,⟨h1.1,rfl,h1.2.1,h1.2.2.1,h1.2.2.2.1,h1.2.2.2.2.1,h1.2.2.2.2.2⟩,h2,h⟩
theorem AppN_of {P : Program} {e : TypeId} {i : TypeInfo} {s : St} {nid j : Nat} {d : Option Nat} {K : St -> Prop} {sh : List Shp} {ty esz : Nat} {es : List (List AV)} (hj : s.objs j = some ⟨.deep sh,ty,esz,es⟩) (hn : s.objs nid = none)
  (h1 : esz = i.size /\ i.zero.isSome = true /\ (i.zero.map (·.cells.size)) = some i.size) (h2 : es.length <= 70368744177664 /\ es.length * i.bytes <= 140737488355328)
  (h : forceS (takeIn s [j] nid ⟨.deep sh,e,i.size,es⟩) fun s'=>s'.putK d (.own nid) K) : AppN P e i s nid j d K:=by
 unfold AppN
 exact ⟨_,sh,hj,hn,⟨rfl,h1.1,h1.2.1,h1.2.2⟩,h2,h⟩
theorem prom_map {α : Type} {f : α -> List AV} {sh : List Shp} (h : ∀ x,flatFit sh (f x) = true) {xs : List α} : ∀ e ∈ xs.map f,flatFit sh e = true:=fun e he=>by
 obtain ⟨x,_,rfl⟩:=List.mem_map.1 he
 exact h x
theorem prom_nil {sh : List Shp} : ∀ e ∈ ([] : List (List AV)),flatFit sh e = true:=fun e he=>by cases he
theorem prom_one {sh : List Shp} {x : List AV} (h : flatFit sh x = true) : ∀ e ∈ [x],flatFit sh e = true:=fun e he=>by
 simp at he
 rw [he]; exact h
theorem prom_rep {sh : List Shp} {x : List AV} {n : Nat} (h : flatFit sh x = true) : ∀ e ∈ List.replicate n x,flatFit sh e = true:=fun e he=>by
 rw [List.eq_of_mem_replicate he]; exact h
def cntL {α : Type} (cnt : α -> Nat) (xs : List α) : Nat:=(xs.map cnt).sum
def mkL {α : Type} (mk : α -> Int -> α) (cnt : α -> Nat) : List α -> Int -> List α
 | [],_=>[]
 | x :: xs,k=>mk x k :: mkL mk cnt xs (k + (cnt x : Int))
def cnt1 {α : Type} (_ : α) : Nat:=1
section
variable {α : Type} {mk : α -> Int -> α} {cnt : α -> Nat} {xs : List α} {k : Int} {i : Nat} {x : α}
theorem mkL_length : ∀ {xs : List α} {k : Int},(mkL mk cnt xs k).length = xs.length
 | [],_=>rfl
 | x :: xs,k=>by simp [mkL,mkL_length (xs:=xs)]
def midL (mk : α -> Int -> α) (cnt : α -> Nat) (xs : List α) (k : Int) (i : Nat) : List α:=mkL mk cnt (xs.take i) k ++ xs.drop i
end
theorem midL_len {α : Type} {mk : α -> Int -> α} {cnt : α -> Nat} {xs : List α} {k : Int} {i : Nat} : (midL mk cnt xs k i).length = min i xs.length + (xs.length - i):=by
 simp only [midL,laT,mkL_length,List.length_take,List.length_drop]
theorem lensC : (∀ {α β : Type} {xs : List α} {f : α -> β},(xs.map f).length = xs.length) /\ (∀ {α : Type} {xs ys : List α},(xs ++ ys).length = xs.length + ys.length) /\ (∀ {α : Type} {i : Nat} {xs : List α},(xs.take i).length = min i xs.length) /\ (∀ {α : Type} {a : α} {xs : List α},(a :: xs).length = xs.length + 1) /\ (∀ {α : Type},([] : List α).length = 0) /\ (∀ {α : Type} {n : Nat} {a : α},(List.replicate n a).length = n) :=
 ⟨List.length_map ..,laT,List.length_take,List.length_cons,List.length_nil,List.length_replicate⟩
theorem lensB : (∀ {α β : Type} {xs : List α} {f : α -> β},(xs.map f).length = xs.length) /\ (∀ {α : Type} {i : Nat} {xs : List α},(xs.take i).length = min i xs.length) /\ (∀ {α : Type} {xs ys : List α},(xs ++ ys).length = xs.length + ys.length) /\ (∀ {α : Type} {i : Nat} {xs : List α},(xs.drop i).length = xs.length - i) /\ (∀ {α : Type} {xs : List α} {i : Nat} {a : α},(xs.set i a).length = xs.length) /\ (∀ {α : Type} {c : Int} {f : Int -> α} {k : Int} {n : Nat},(markList c f k n).length = n) /\ (∀ {α : Type} {mk : α -> Int -> α} {cnt : α -> Nat} {xs : List α} {k : Int} {i : Nat},(midL mk cnt xs k i).length = min i xs.length + (xs.length - i)) /\ (∀ {α : Type} {mk : α -> Int -> α} {cnt : α -> Nat} {xs : List α} {k : Int},(mkL mk cnt xs k).length = xs.length) /\ (∀ n : Nat,((n : Int)).toNat = n) /\ (∀ {a b : UInt8},((a.toNat : Int) = b.toNat) ↔ a = b) :=
 ⟨List.length_map ..,List.length_take,laT,List.length_drop,List.length_set,markList_length,midL_len,mkL_length,Int.toNat_natCast,fact_byte⟩
theorem nmL : (∀ {α : Type} [BEq α] [LawfulBEq α] {a b : α},(a != b) = true ↔ a ≠ b) /\ (∀ {α : Type} (a b : α),(a ≠ b) = ¬ a = b) /\ (∀ {α : Type} [BEq α] [LawfulBEq α] {a b : α},(a != b) = false ↔ a = b) /\ (∀ {α : Type} [BEq α] [LawfulBEq α] {a b : α},(a == b) = true ↔ a = b) /\ (∀ {α : Type} [BEq α] [LawfulBEq α] {a b : α},(a == b) = false ↔ a ≠ b) /\ (∀ b : Bool,((!b) = true) = (b = false)) /\ (∀ b : Bool,((!b) = false) = (b = true)) /\ (∀ a b : Bool,((a || b) = true) = (a = true \/ b = true)) /\ (∀ a b : Bool,((a || b) = false) = (a = false /\ b = false)) :=
 ⟨bne_iff_ne,fun _ _=>rfl,bne_eq_false_iff_eq,beq_iff_eq,beq_eq_false_iff_ne,by simp,by simp,by simp,by simp⟩
theorem sdA {P Q : Prop} (h : P) (k : Q) : P /\ Q := ⟨h, k⟩
theorem i64w {e : Int} (h : 0 <= e) (h' : e <= 2305843009213693952) : IntKind.i64.wrap e = e:=i64_wrap (by omega) (by omega)
theorem cntL_w100 {α : Type} {cnt w : α -> Nat} (h : ∀ x,cnt x <= 100 * (1 + w x)) (xs : List α) : cntL cnt xs <= 100 * wL w xs:=by
 induction xs with
 | nil=>exact Nat.zero_le _
 | cons x xs ih =>
  simp only [cntL,wL,List.map_cons,List.sum_cons,List.length_cons] at ih ⊢
  have:=h x
  omega
theorem one_w100 {α : Type} {x : α} {n : Nat} : cnt1 x <= 100 * (1 + n):=by show 1 <= _; omega
end Go.Ab
