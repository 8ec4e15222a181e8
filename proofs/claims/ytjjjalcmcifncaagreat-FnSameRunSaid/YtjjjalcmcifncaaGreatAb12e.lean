/-
  Regions that draw their order: outcomes of operations, and what they hang on.
  No condition: definitions and lemmas over any program.
-/
import Derived.Test.YtjjjalcmcifncaaGreatAb12d
namespace Go.Ab
open Go.RowKit
mutual
def AV.clo (h : Nat -> Bool) : AV -> Bool
 | .own id=>h id
 | .ptr id _ _=>h id
 | .cel id _ _ _=>h id
 | .prt id _ _ _=>h id
 | .agg cs=>cloL h cs
 | .tup cs=>cloL h cs
 | .fn _ cs=>cloL h cs
 | .any | .int _ _ | .bool _ | .str _ | .nil | .sl _ | .rp _=>true
def cloL (h : Nat -> Bool) : List AV -> Bool
 | []=>true
 | a :: as=>a.clo h && cloL h as
end
def has (s : St) (id : Nat) : Bool:=(s.objs id).isSome
structure WF (s : St) : Prop where
 env : ∀ t,(s.env t).clo (has s) = true
 box : ∀ id o,s.objs id = some o -> o.box = true -> cloL (has s) o.elems.flatten = true
mutual
theorem AV.clo_mono {h h' : Nat -> Bool} (hh : ∀ i,h i = true -> h' i = true) : ∀ a : AV,a.clo h = true -> a.clo h' = true
 | .own id,e=>by unfold AV.clo at e ⊢; exact hh _ e
 | .ptr id _ _,e=>by unfold AV.clo at e ⊢; exact hh _ e
 | .cel id _ _ _,e=>by unfold AV.clo at e ⊢; exact hh _ e
 | .prt id _ _ _,e=>by unfold AV.clo at e ⊢; exact hh _ e
 | .agg cs,e=>by unfold AV.clo at e ⊢; exact cloL_mono hh cs e
 | .tup cs,e=>by unfold AV.clo at e ⊢; exact cloL_mono hh cs e
 | .fn _ cs,e=>by unfold AV.clo at e ⊢; exact cloL_mono hh cs e
 | .any,_ | .int _ _,_ | .bool _,_ | .str _,_ | .nil,_ | .sl _,_ | .rp _,_=>by unfold AV.clo; rfl
theorem cloL_mono {h h' : Nat -> Bool} (hh : ∀ i,h i = true -> h' i = true) : ∀ as : List AV,cloL h as = true -> cloL h' as = true
 | [],_=>by unfold cloL; rfl
 | a :: as,e=>by
  unfold cloL at e ⊢
  simp only [baT] at e ⊢
  exact ⟨AV.clo_mono hh a e.1,cloL_mono hh as e.2⟩
end
theorem cloL_all {h : Nat -> Bool} : ∀ {as : List AV},cloL h as = true ↔ ∀ a ∈ as,a.clo h = true
 | []=>by simp [cloL]
 | a :: as=>by simp [cloL,cloL_all (as:=as)]
theorem cloL_append {h : Nat -> Bool} {as bs : List AV} : cloL h (as ++ bs) = true ↔ cloL h as = true /\ cloL h bs = true:=by
 simp only [cloL_all,List.mem_append]
 exact ⟨fun e=>⟨fun a ha=>e a (.inl ha),fun a ha=>e a (.inr ha)⟩,fun e a ha=>ha.elim (e.1 a) (e.2 a)⟩
mutual
theorem VR.clo {c : Ctx} : ∀ (a : AV) (v : Value),VR c a v -> a.clo (fun id=>(c.objs id).isSome) = true
 | .own id,_,h=>by unfold VR at h; unfold AV.clo; exact h.1
 | .ptr id _ _,_,h=>by unfold VR at h; unfold AV.clo; obtain ⟨o,b,h1,_⟩:=h; simp [h1]
 | .cel id _ _ _,_,h=>by unfold VR at h; unfold AV.clo; obtain ⟨o,b,sh,e,h1,_⟩:=h; simp [h1]
 | .prt id _ _ _,_,h=>by unfold VR at h; unfold AV.clo; obtain ⟨o,h1,_⟩:=h; simp [h1]
 | .agg cs,_,h=>by unfold VR at h; unfold AV.clo; obtain ⟨vs,_,h2⟩:=h; exact VL.clo cs _ h2
 | .tup cs,_,h=>by unfold VR at h; unfold AV.clo; obtain ⟨vs,_,h2⟩:=h; exact VL.clo cs _ h2
 | .fn _ cs,_,h=>by unfold VR at h; unfold AV.clo; obtain ⟨vs,_,h2⟩:=h; exact VL.clo cs _ h2
 | .any,_,_ | .int _ _,_,_ | .bool _,_,_ | .str _,_,_ | .nil,_,_ | .sl _,_,_ | .rp _,_,_=>by unfold AV.clo; rfl
theorem VL.clo {c : Ctx} : ∀ (as : List AV) (vs : List Value),VL c as vs -> cloL (fun id=>(c.objs id).isSome) as = true
 | [],_,_=>by unfold cloL; rfl
 | a :: as,v :: vs,h=>by
  unfold VL at h
  unfold cloL
  simp only [baT]
  exact ⟨VR.clo a v h.1,VL.clo as vs h.2⟩
 | _ :: _,[],h=>by unfold VL at h; exact h.elim
end
theorem box_kind {o : AObj} (h : o.box = true) : o.kind = .box:=by
 unfold AObj.box at h
 cases hk : o.kind <;> simp [hk] at h ⊢
theorem Sim.wf {F : Nat -> Prop} {w0 : Base} {gv : List Value} {s : St} {a : Act} {w : World} {hdr : Nat -> Hdr} (h : Sim F w0 gv s a w hdr) : WF s :=
 ⟨fun t=>VR.clo _ _ (h.env t),fun id o ho hb=>by
  obtain ⟨_,_,_,cs,_,_,h6⟩:=h.objs id o ho
  exact VL.clo _ _ (h6.box (box_kind hb)).1⟩
theorem WF.val {s : St} (h : WF s) (x : Operand) : (s.val x).clo (has s) = true:=by
 cases x with
 | tmp t=>exact h.env t
 | const v =>
  have h1 : ∀ v,(ofVal1 v).clo (has s) = true:=fun v=>by unfold ofVal1; split <;> (unfold AV.clo; rfl)
  simp only [St.val]
  unfold ofVal
  split
  ·unfold AV.clo
   rw [cloL_all]
   intro a ha
   simp only [List.mem_map] at ha
   obtain ⟨v,_,rfl⟩:=ha
   exact h1 v
  ·exact h1 _
 | global g=>simp [St.val,AV.clo]
 | func f=>simp [St.val,AV.clo,cloL]
theorem plain_clo {h : Nat -> Bool} {a : AV} (hp : a.plain = true) : a.clo h = true:=by cases a <;> simp_all [AV.plain,AV.clo]
theorem bare_clo {h : Nat -> Bool} {a : AV} (hp : a.bare = true) : a.clo h = true:=by cases a <;> simp_all [AV.bare,AV.plain,AV.clo]
theorem cells?_clo {h : Nat -> Bool} {a : AV} (hc : a.clo h = true) {cs : List AV} (he : a.cells? = some cs) : cloL h cs = true:=by
 cases a
 case agg as =>
  simp only [AV.cells?] at he
  split at he
  ·cases he; unfold AV.clo at hc; exact hc
  ·cases he
 all_goals
  simp only [AV.cells?] at he
  split at he
  ·cases he; unfold cloL; unfold cloL; simp only [Bool.and_true]; exact hc
  ·cases he
theorem takeA_clo {h : Nat -> Bool} {P : Program} {T : TypeId} {cs : List AV} (hc : cloL h cs = true) {v : AV} (he : takeA P T cs = some v) : v.clo h = true:=by
 rw [cloL_all] at hc
 unfold takeA at he
 split at he
 ·split at he
  ·split at he
   ·split at he
    ·cases he
     unfold AV.clo
     rw [cloL_all]
     exact fun a ha=>hc a (List.mem_of_mem_take ha)
    ·cases he
   ·cases cs with
    | nil=>simp at he
    | cons a as=>simp at he; subst he; exact hc a (by simp)
  ·cases he
 ·cases he
theorem zeroA_clo {h : Nat -> Bool} {P : Program} {T : TypeId} {cs : List AV} (he : zeroA P T = some cs) : cloL h cs = true:=by
 have h1 : ∀ v,(ofVal1 v).clo h = true:=fun v=>by unfold ofVal1; split <;> (unfold AV.clo; rfl)
 unfold zeroA at he
 split at he
 ·split at he
  ·cases he
   rw [cloL_all]
   intro a ha
   simp only [List.mem_map] at ha
   obtain ⟨v,_,rfl⟩:=ha
   exact h1 v
  ·cases he
 ·cases he
theorem fillA_clo {h : Nat -> Bool} (place : Nat -> Option (Nat × Nat)) : ∀ (parts : List (Nat × AV)) (cells r : List AV),(∀ p ∈ parts,p.2.clo h = true) -> cloL h cells = true -> fillA place cells parts = some r -> cloL h r = true
 | [],cells,r,_,hc,he=>by simp only [fillA,Option.some.injEq] at he; subst he; exact hc
 | (i,x) :: parts,cells,r,hp,hc,he=>by
  simp only [fillA] at he
  split at he
  ·split at he
   ·rename_i cs hcs
    split at he
    ·refine fillA_clo place parts _ r (fun p hp'=>hp p (by simp [hp'])) ?_ he
     have h1:=cells?_clo (hp (i,x) (by simp)) hcs
     unfold splice
     rw [cloL_append,cloL_append]
     rw [cloL_all] at hc
     exact ⟨⟨cloL_all.2 fun a ha=>hc a (List.mem_of_mem_take ha),h1⟩,cloL_all.2 fun a ha=>hc a (List.mem_of_mem_drop ha)⟩
    ·cases he
   ·cases he
  ·cases he
mutual
theorem shift_clo {h : Nat -> Bool} {n d : Nat} (hh : ∀ k,k < n -> h (d + k) = true) : ∀ a : AV,a.fine true n = true -> (a.sub (fun id=>.own (d + id)) (fun id x y=>.ptr (d + id) x y) (fun id x y z=>.cel (d + id) x y z)).clo h = true
 | .own k,e=>by unfold AV.fine at e; unfold AV.sub AV.clo; exact hh k (by simpa using e)
 | .ptr _ _ _,e=>by unfold AV.fine at e; cases e
 | .cel _ _ _ _,e=>by unfold AV.fine at e; cases e
 | .prt _ _ _ _,e=>by unfold AV.fine at e; cases e
 | .any,e=>by unfold AV.fine at e; cases e
 | .agg cs,e=>by unfold AV.fine at e; unfold AV.sub AV.clo; exact shiftL_clo hh cs e
 | .tup cs,e=>by unfold AV.fine at e; unfold AV.sub AV.clo; exact shiftL_clo hh cs e
 | .fn _ cs,e=>by unfold AV.fine at e; unfold AV.sub AV.clo; exact shiftL_clo hh cs e
 | .int _ _,_ | .bool _,_ | .str _,_ | .nil,_ | .sl _,_ | .rp _,_=>by unfold AV.sub AV.clo; rfl
theorem shiftL_clo {h : Nat -> Bool} {n d : Nat} (hh : ∀ k,k < n -> h (d + k) = true) : ∀ as : List AV,fineL true n as = true -> cloL h (AV.sub.subL (fun id=>.own (d + id)) (fun id x y=>.ptr (d + id) x y) (fun id x y z=>.cel (d + id) x y z) as) = true
 | [],_=>by unfold AV.sub.subL cloL; rfl
 | a :: as,e=>by
  unfold fineL at e
  simp only [baT] at e
  unfold AV.sub.subL cloL
  simp only [baT]
  exact ⟨shift_clo hh a e.1,shiftL_clo hh as e.2⟩
end
def memC : Op -> Nat
 | .move _ | .assign _ | .pick _ _ _ | .build _ _ | .fieldAddr _ _ _ | .field _ _ _ | .extract _ _ | .binOp _ _ _ _ _ | .unOp _ _ _ | .nilCheck _ | .makeFunc _ _ _ | .index _ _ _ | .slice _ _ _ _ _=>0
 | .alloc _ | .box _ _ | .load _ _ | .indexAddr _ _ _ | .buildSlice _ _ _ | .makeSlice _ _ _=>1
 | .call c =>
  match c.callee with
  | .builtin .max=>0
  | .builtin .min=>0
  | _=>1
 | .store _ _ _=>2
 | .convert S _ _=>if S <= 20 then 0 else 1
 | _=>3
def newHas (nid : Nat) (os : List AObj) (s : St) (id : Nat) : Bool:=has s id || (decide (nid <= id) && decide (id < nid + os.length))
theorem opR_some {P : Program} {op : Op} {nid : Nat} {s : St} {K : AV -> List AObj -> Prop} (h : opR P op nid s K) :
  ∃ v os,K v os /\ (∀ K' : AV -> List AObj -> Prop,K' v os -> opR P op nid s K') /\ (memC op = 0 -> os = []) /\
   (WF s -> v.clo (newHas nid os s) = true /\ ∀ o ∈ os,o.box = true -> cloL (newHas nid os s) o.elems.flatten = true):=by
 have up : ∀ {os : List AObj} (a : AV),a.clo (has s) = true -> a.clo (newHas nid os s) = true:=fun a=>AV.clo_mono (fun i hi=>by simp [newHas,hi]) a
 have upL : ∀ {os : List AObj} (a : List AV),cloL (has s) a = true -> cloL (newHas nid os s) a = true:=fun a=>cloL_mono (fun i hi=>by simp [newHas,hi]) a
 cases op <;> simp only [opR] at h ⊢ <;> try (exact h.elim)
 case move x=>exact ⟨_,_,h,fun K' hk=>hk,fun _=>rfl,fun hw=>⟨up _ (hw.val x),by simp⟩⟩
 case assign x=>exact ⟨_,_,h,fun K' hk=>hk,fun _=>rfl,fun hw=>⟨up _ (hw.val x),by simp⟩⟩
 case pick c a b =>
  split at h
  ·rename_i t ht
   have h:=splitB_elim h
   try simp only [ht]
   cases t with
   | true=>exact ⟨_,_,h.1 rfl,fun K' hk=>splitB_true hk,fun _=>rfl,fun hw=>⟨up _ (hw.val a),by simp⟩⟩
   | false=>exact ⟨_,_,h.2 rfl,fun K' hk=>splitB_false hk,fun _=>rfl,fun hw=>⟨up _ (hw.val b),by simp⟩⟩
  ·exact h.elim
 case alloc T =>
  split at h
  ·rename_i cs hz
   try simp only [hz]
   refine ⟨_,_,h.2,fun K' hk=>⟨h.1,hk⟩,fun e=>by simp [memC] at e,fun hw=>⟨by simp [AV.clo,newHas],fun o ho _=>?_⟩⟩
   simp at ho
   subst ho
   simpa using zeroA_clo hz
  ·exact h.elim
 case box T x =>
  split at h
  ·rename_i cs hc
   try simp only [hc]
   refine ⟨_,_,h.2,fun K' hk=>⟨h.1,hk⟩,fun e=>by simp [memC] at e,fun hw=>⟨by simp [AV.clo,newHas],fun o ho _=>?_⟩⟩
   simp at ho
   subst ho
   simpa using upL _ (cells?_clo (hw.val x) hc)
  ·exact h.elim
 case build T parts =>
  split at h
  ·rename_i cs hb
   try simp only [hb]
   refine ⟨_,_,h,fun K' hk=>hk,fun _=>rfl,fun hw=>⟨up _ ?_,by simp⟩⟩
   unfold AV.clo
   unfold buildA at hb
   split at hb
   ·rename_i z hz
    split at hb
    ·refine fillA_clo _ _ _ _ ?_ (zeroA_clo hz) hb
     intro p hp
     simp only [List.mem_map] at hp
     obtain ⟨q,_,rfl⟩:=hp
     exact hw.val q.2
    ·cases hb
   ·cases hb
  ·exact h.elim
 case buildSlice T n parts =>
  split at h
  ·rename_i e he
   try simp only [he]
   split at h
   ·rename_i i hi
    try simp only [hi]
    split at h
    ·rename_i z hz
     try simp only [hz]
     cases n with
     | zero=>exact ⟨_,_,h.2,fun K' hk=>⟨h.1,hk⟩,fun e=>by simp [memC] at e,fun hw=>⟨by unfold AV.clo; rfl,by simp⟩⟩
     | succ n =>
     simp only at h ⊢
     split at h
     ·rename_i r hr
      try simp only [hr]
      split at h
      ·rename_i hown
       try simp only [hown]
       exact ⟨_,_,h.2,fun K' hk=>⟨h.1,hk⟩,fun e=>by simp [memC] at e,fun hw=>⟨by simp [AV.clo,newHas],fun o ho hb=>by simp at ho; subst ho; cases hb⟩⟩
      ·exact h.elim
     ·exact h.elim
    ·exact h.elim
   ·exact h.elim
  ·exact h.elim
 case makeSlice T l c =>
  split at h
  ·rename_i e he
   try simp only [he]
   split at h
   ·rename_i i hi
    try simp only [hi]
    split at h
    ·rename_i z hz
     try simp only [hz]
     split at h
     ·rename_i k n hn
      try simp only [hn]
      split at h
      ·rename_i k' m hm
       try simp only [hm]
       exact ⟨_,_,h.2.2,fun K' hk=>⟨h.1,h.2.1,hk⟩,fun e=>by simp [memC] at e,fun hw=>⟨by simp [AV.clo,newHas],fun o ho hb=>by simp at ho; subst ho; cases hb⟩⟩
      ·exact h.elim
     ·exact h.elim
    ·exact h.elim
   ·exact h.elim
  ·exact h.elim
 case load T x =>
  split at h
  ·rename_i id idx off hx
   try simp only [hx]
   split at h
   ·rename_i ob ho
    try simp only [ho]
    split at h
    ·rename_i hb
     try simp only [hb]
     split at h
     ·rename_i e he
      try simp only [he]
      split at h
      ·rename_i v hv
       try simp only [hv]
       refine ⟨_,_,nameV_elim (K:=fun v=>K v []) h,fun K' hk=>nameV_of (K:=fun v=>K' v []) hk,fun e=>by simp [memC] at e,fun hw=>⟨up _ (takeA_clo ?_ hv),by simp⟩⟩
       have h1:=hw.box id ob ho (by unfold AObj.box; rw [hb])
       rw [cloL_all] at h1 ⊢
       exact fun a ha=>h1 a (List.mem_flatten.2 ⟨e,mgE he,List.mem_of_mem_drop ha⟩)
      ·exact h.elim
     ·exact h.elim
    ·rename_i hb
     try simp only [hb]
     obtain ⟨e,he,h⟩:=h
     unfold LoadK at h
     obtain ⟨v,hv,hp,h⟩:=h
     refine ⟨_,_,nameV_elim (K:=fun v=>K v []) h,fun K' hk=>⟨e,he,by unfold LoadK; exact ⟨v,hv,hp,nameV_of (K:=fun v=>K' v []) hk⟩⟩,fun e=>by simp [memC] at e,fun hw=>⟨takeA_clo ?_ hv,by simp⟩⟩
     rw [List.all_eq_true] at hp
     exact cloL_all.2 fun a ha=>plain_clo (hp a ha)
    ·rename_i sh hb
     try simp only [hb]
     obtain ⟨e,he,h⟩:=h
     unfold LoadR at h
     rcases h with ⟨v,hv,hp,h⟩ | ⟨xs,d,q1,q2,q3,q4,h⟩
     ·refine ⟨_,_,nameV_elim (K:=fun v=>K v []) h,fun K' hk=>⟨e,he,by unfold LoadR; exact .inl ⟨v,hv,hp,nameV_of (K:=fun v=>K' v []) hk⟩⟩,fun e=>by simp [memC] at e,fun hw=>⟨takeA_clo ?_ hv,by simp⟩⟩
      rw [List.all_eq_true] at hp
      exact cloL_all.2 fun a ha=>bare_clo (hp a ha)
     ·refine ⟨_,_,nameV_elim (K:=fun v=>K v []) h,fun K' hk=>⟨e,he,by unfold LoadR; exact .inr ⟨xs,d,q1,q2,q3,q4,nameV_of (K:=fun v=>K' v []) hk⟩⟩,fun e=>by simp [memC] at e,fun hw=>⟨?_,by simp⟩⟩
      unfold AV.clo
      simp [has,newHas,ho]
   ·exact h.elim
  ·rename_i cs hx
   try simp only [hx]
   unfold LoadK at h
   obtain ⟨v,hv,hp,h⟩:=h
   refine ⟨_,_,nameV_elim (K:=fun v=>K v []) h,fun K' hk=>by unfold LoadK; exact ⟨v,hv,hp,nameV_of (K:=fun v=>K' v []) hk⟩,fun e=>by simp [memC] at e,fun hw=>⟨takeA_clo ?_ hv,by simp⟩⟩
   rw [List.all_eq_true] at hp
   exact cloL_all.2 fun a ha=>plain_clo (hp a ha)
  ·exact h.elim
 case fieldAddr T x f =>
  split at h
  ·rename_i off t hf
   try simp only [hf]
   split at h
   ·rename_i p hp
    try simp only [hp]
    refine ⟨_,_,h,fun K' hk=>hk,fun _=>rfl,fun hw=>⟨up _ ?_,by simp⟩⟩
    have h1:=hw.val x
    cases hx : s.val x <;> rw [hx] at hp h1 <;> simp only [moveP] at hp <;> cases hp
    ·unfold AV.clo; rfl
    ·unfold AV.clo at h1 ⊢; exact h1
   ·exact h.elim
  ·exact h.elim
 case indexAddr T x i =>
  split at h
  ·rename_i e he
   try simp only [he]
   split at h
   ·rename_i esz hz
    try simp only [hz]
    split at h
    ·rename_i k n hn
     try simp only [hn]
     split at h
     ·rename_i id hx
      try simp only [hx]
      split at h
      ·rename_i ob ho
       try simp only [ho]
       split at h
       ·exact h.elim
       ·rename_i hb
        try simp only [hb]
        exact ⟨_,_,h.2.2,fun K' hk=>⟨h.1,h.2.1,hk⟩,fun e=>by simp [memC] at e,fun hw=>⟨by simp [AV.clo,newHas,has,ho],by simp⟩⟩
      ·exact h.elim
     ·rename_i xs hx
      try simp only [hx]
      obtain ⟨h0,y,h1,h2,h3⟩:=h
      exact ⟨_,_,h3,fun K' hk=>⟨h0,y,h1,h2,hk⟩,fun e=>by simp [memC] at e,fun hw=>⟨by unfold AV.clo; rfl,by simp⟩⟩
     ·exact h.elim
    ·exact h.elim
   ·exact h.elim
  ·exact h.elim
 case field T x f =>
  split at h
  ·rename_i off t hf
   try simp only [hf]
   split at h
   ·rename_i cs hx
    try simp only [hx]
    split at h
    ·rename_i v hv
     try simp only [hv]
     refine ⟨_,_,nameV_elim (K:=fun v=>K v []) h,fun K' hk=>nameV_of (K:=fun v=>K' v []) hk,fun _=>rfl,fun hw=>⟨up _ (takeA_clo ?_ hv),by simp⟩⟩
     have h1:=hw.val x
     rw [hx] at h1
     unfold AV.clo at h1
     exact cloL_all.2 fun a ha=>cloL_all.1 h1 a (List.mem_of_mem_drop ha)
    ·exact h.elim
   ·exact h.elim
  ·exact h.elim
 case extract x i =>
  split at h
  ·rename_i vs hx
   try simp only [hx]
   split at h
   ·rename_i v hv
    try simp only [hv]
    refine ⟨_,_,h,fun K' hk=>hk,fun _=>rfl,fun hw=>⟨up _ ?_,by simp⟩⟩
    have h1:=hw.val x
    rw [hx] at h1
    unfold AV.clo at h1
    exact cloL_all.1 h1 v (mgE hv)
   ·exact h.elim
  ·exact h.elim
 case binOp op T x y t =>
  have flat : ∀ {c : Option Prop} {v : AV},binA P op T (s.val x) (s.val y) = some (c,v) -> v.clo (has s) = true:=by
   intro c v hb
   unfold binA at hb
   have i1 : ∀ {k a b},intBin op k a b = some (c,v) -> v.clo (has s) = true:=by
    intro k a b hb
    cases op <;> simp only [intBin] at hb <;> cases hb <;> (unfold AV.clo; rfl)
   have i2 : ∀ {a b},strBin op a b = some (c,v) -> v.clo (has s) = true:=by
    intro a b hb
    cases op <;> simp only [strBin] at hb <;> cases hb <;> (unfold AV.clo; rfl)
   split at hb
   ·split at hb
    ·split at hb
     ·cases hb; unfold AV.clo; rfl
     ·cases hb; unfold AV.clo; rfl
     ·split at hb
      ·exact i1 hb
      ·cases hb
    ·cases hb
   ·split at hb
    ·exact i2 hb
    ·cases hb
   ·split at hb
    ·split at hb
     ·split at hb
      ·cases hb; unfold AV.clo; rfl
      ·cases hb; unfold AV.clo; rfl
      ·cases hb
     ·cases hb
    ·cases hb
   ·split at hb
    ·split at hb
     ·split at hb
      ·split at hb
       ·cases hb; unfold AV.clo; rfl
       ·cases hb; unfold AV.clo; rfl
       ·cases hb
      ·cases hb
     ·cases hb
    ·cases hb
   ·cases hb
  split at h
  ·rename_i v hb
   try simp only [hb]
   exact ⟨_,_,nameV_elim (K:=fun v=>K v []) h,fun K' hk=>nameV_of (K:=fun v=>K' v []) hk,fun _=>rfl,fun hw=>⟨up _ (flat hb),by simp⟩⟩
  ·rename_i c v hb
   try simp only [hb]
   exact ⟨_,_,nameV_elim (K:=fun v=>K v []) h.2,fun K' hk=>⟨h.1,nameV_of (K:=fun v=>K' v []) hk⟩,fun _=>rfl,fun hw=>⟨up _ (flat hb),by simp⟩⟩
  ·exact h.elim
 case unOp op T x =>
  cases op <;> simp only at h ⊢ <;> try (exact h.elim)
  case not =>
   split at h
   ·rename_i b hx
    try simp only [hx]
    exact ⟨_,_,nameV_elim (K:=fun v=>K v []) h,fun K' hk=>nameV_of (K:=fun v=>K' v []) hk,fun _=>rfl,fun hw=>⟨by unfold AV.clo; rfl,by simp⟩⟩
   ·exact h.elim
  case neg =>
   split at h
   ·rename_i k n hx
    try simp only [hx]
    exact ⟨_,_,h,fun K' hk=>hk,fun _=>rfl,fun hw=>⟨by unfold AV.clo; rfl,by simp⟩⟩
   ·exact h.elim
 case nilCheck x =>
  split at h
  ·rename_i i b c hx
   try simp only [hx]
   exact ⟨_,_,h,fun K' hk=>hk,fun _=>rfl,fun hw=>⟨up _ (by rw [<- hx]; exact hw.val x),by simp⟩⟩
  ·rename_i cs hx
   try simp only [hx]
   exact ⟨_,_,h,fun K' hk=>hk,fun _=>rfl,fun hw=>⟨up _ (by rw [<- hx]; exact hw.val x),by simp⟩⟩
  ·rename_i f cs hx
   try simp only [hx]
   exact ⟨_,_,h,fun K' hk=>hk,fun _=>rfl,fun hw=>⟨up _ (by rw [<- hx]; exact hw.val x),by simp⟩⟩
  ·exact h.elim
 case makeFunc fn first captured =>
  cases fn <;> simp only at h ⊢ <;> try (exact h.elim)
  case func f =>
   split at h
   ·rename_i hf
    try simp only [hf]
    refine ⟨_,_,h,fun K' hk=>hk,fun _=>rfl,fun hw=>⟨up _ ?_,by simp⟩⟩
    unfold AV.clo
    rw [cloL_all]
    intro a ha
    simp only [List.mem_map] at ha
    obtain ⟨x,_,rfl⟩:=ha
    exact hw.val x
   ·exact h.elim
 case call c =>
  obtain ⟨callee,args,tys⟩:=c
  cases callee <;> simp only at h ⊢ <;> try (exact h.elim)
  case value x =>
   split at h
   ·rename_i f caps hx
    try simp only [hx]
    unfold CallD at h
    obtain ⟨sh,r,os,h1,h2,h3,h4,h5⟩:=h
    refine ⟨_,_,nameV_elim (K:=fun v=>K v os) h5,fun K' hk=>by unfold CallD; exact ⟨sh,r,os,h1,h2,h3,h4,nameV_of (K:=fun v=>K' v os) hk⟩,fun e=>by simp [memC] at e,fun hw=>⟨?_,fun o ho hb=>?_⟩⟩
    ·exact shift_clo (fun k hk=>by simp [newHas,hk]) r h4.1
    ·have:=h4.2
     rw [List.all_eq_true] at this
     have h6:=this o ho
     rw [hb] at h6
     cases h6
   ·exact h.elim
  case builtin b =>
   cases b <;> simp only at h ⊢ <;> try (exact h.elim)
   case len =>
    split at h
    ·rename_i x ha
     try simp only [ha]
     split at h
     ·rename_i T hT
      try simp only [hT]
      split at h
      ·rename_i hl
       try simp only [hl]
       split at h
       ·rename_i n hn
        try simp only [hn]
        exact ⟨_,_,h,fun K' hk=>hk,fun _=>rfl,fun hw=>⟨by unfold AV.clo; rfl,by simp⟩⟩
       ·exact h.elim
      ·exact h.elim
     ·exact h.elim
    ·exact h.elim
   case max =>
    split at h
    ·rename_i x y ha
     try simp only [ha]
     split at h
     ·rename_i k a hx
      try simp only [hx]
      split at h
      ·rename_i k' b hy
       try simp only [hy]
       exact ⟨_,_,h,fun K' hk=>hk,fun _=>rfl,fun hw=>⟨by unfold AV.clo; rfl,by simp⟩⟩
      ·exact h.elim
     ·exact h.elim
    ·rename_i x y z ha
     try simp only [ha]
     split at h
     ·rename_i k a hx
      try simp only [hx]
      split at h
      ·rename_i k' b hy
       try simp only [hy]
       split at h
       ·rename_i k'' c hz
        try simp only [hz]
        exact ⟨_,_,h,fun K' hk=>hk,fun _=>rfl,fun hw=>⟨by unfold AV.clo; rfl,by simp⟩⟩
       ·exact h.elim
      ·exact h.elim
     ·exact h.elim
    ·exact h.elim
   case min =>
    split at h
    ·rename_i x y ha
     try simp only [ha]
     split at h
     ·rename_i k a hx
      try simp only [hx]
      split at h
      ·rename_i k' b hy
       try simp only [hy]
       exact ⟨_,_,h,fun K' hk=>hk,fun _=>rfl,fun hw=>⟨by unfold AV.clo; rfl,by simp⟩⟩
      ·exact h.elim
     ·exact h.elim
    ·exact h.elim
   case append =>
    split at h
    ·rename_i x y ha
     try simp only [ha]
     split at h
     ·rename_i T T' hT
      try simp only [hT]
      split at h
      ·rename_i e he
       try simp only [he]
       split at h
       ·rename_i i hi
        try simp only [hi]
        split at h
        ·rename_i ys hy
         try simp only [hy]
         split at h
         ·rename_i hx
          try simp only [hx]
          obtain ⟨h0,h1,h2,h3,h4,h5⟩:=h
          exact ⟨_,_,h5,fun K' hk=>⟨h0,h1,h2,h3,h4,hk⟩,fun e=>by simp [memC] at e,fun hw=>⟨by simp [AV.clo,newHas],fun o ho hb=>by simp at ho; subst ho; cases hb⟩⟩
         ·exact h.elim
        ·exact h.elim
       ·exact h.elim
      ·exact h.elim
     ·exact h.elim
    ·exact h.elim
 case index T x i =>
  split at h
  ·rename_i hT
   try simp only [hT]
   split at h
   ·rename_i l hx
    try simp only [hx]
    split at h
    ·rename_i k n hn
     try simp only [hn]
     exact ⟨_,_,h.2,fun K' hk=>⟨h.1,hk⟩,fun _=>rfl,fun hw=>⟨by unfold AV.clo; rfl,by simp⟩⟩
    ·exact h.elim
   ·exact h.elim
  ·exact h.elim
 case convert S T x =>
  split at h
  ·rename_i d hS
   try simp only [hS]
   split at h
   ·rename_i k hT
    try simp only [hT]
    split at h
    ·rename_i k' n hx
     try simp only [hx]
     exact ⟨_,_,h,fun K' hk=>hk,fun _=>rfl,fun hw=>⟨by unfold AV.clo; rfl,by simp⟩⟩
    ·exact h.elim
   ·rename_i hT
    try simp only [hT]
    split at h
    ·rename_i l hx
     try simp only [hx]
     exact ⟨_,_,h,fun K' hk=>hk,fun _=>rfl,fun hw=>⟨by unfold AV.clo; rfl,by simp⟩⟩
    ·rename_i hnx
     split at h
     ·rename_i e hS2
      split at h
      ·rename_i he
       split at h
       ·rename_i xs hxs
        obtain ⟨h20,l,hl,h5⟩:=h
        refine ⟨_,_,h5,fun K' hk=>?_,fun _=>rfl,fun hw=>⟨by unfold AV.clo; rfl,by simp⟩⟩
        rw [hS] at hS2
        cases hS2
        simp only [he]
        exact ⟨h20,l,hl,hk⟩
       ·exact h.elim
      ·exact h.elim
     ·exact h.elim
   ·exact h.elim
  ·exact h.elim
 case slice T x lo hi mx =>
  cases mx with
  | some _=>exact h.elim
  | none =>
   simp only at h ⊢
   split at h
   ·rename_i l hx
    try simp only [hx]
    split at h
    ·rename_i hT
     try simp only [hT]
     cases lo with
     | none =>
      simp only at h ⊢
      cases hi with
      | none=>exact h.elim
      | some hh =>
       simp only at h ⊢
       split at h
       ·rename_i k n hn
        try simp only [hn]
        exact ⟨_,_,h.2,fun K' hk=>⟨h.1,hk⟩,fun _=>rfl,fun hw=>⟨by unfold AV.clo; rfl,by simp⟩⟩
       ·exact h.elim
     | some y =>
      simp only at h ⊢
      split at h
      ·rename_i k m hm
       try simp only [hm]
       cases hi with
       | none =>
        simp only at h ⊢
        exact ⟨_,_,h.2,fun K' hk=>⟨h.1,hk⟩,fun _=>rfl,fun hw=>⟨by unfold AV.clo; rfl,by simp⟩⟩
       | some hh =>
        simp only at h ⊢
        split at h
        ·rename_i k' n hn
         try simp only [hn]
         exact ⟨_,_,h.2,fun K' hk=>⟨h.1,hk⟩,fun _=>rfl,fun hw=>⟨by unfold AV.clo; rfl,by simp⟩⟩
        ·exact h.elim
      ·exact h.elim
    ·exact h.elim
   ·rename_i xs hx
    try simp only [hx]
    split at h
    ·rename_i e he
     try simp only [he]
     split at h
     ·rename_i esz hz
      try simp only [hz]
      cases lo with
      | none =>
       simp only at h ⊢
       cases hi with
       | none=>exact h.elim
       | some hh =>
        simp only at h ⊢
        split at h
        ·rename_i k n hn
         try simp only [hn]
         exact ⟨_,_,h.2.2,fun K' hk=>⟨h.1,h.2.1,hk⟩,fun _=>rfl,fun hw=>⟨by unfold AV.clo; rfl,by simp⟩⟩
        ·exact h.elim
      | some y =>
       simp only at h ⊢
       split at h
       ·rename_i k m hm
        try simp only [hm]
        cases hi with
        | none =>
         simp only at h ⊢
         exact ⟨_,_,h.2.2,fun K' hk=>⟨h.1,h.2.1,hk⟩,fun _=>rfl,fun hw=>⟨by unfold AV.clo; rfl,by simp⟩⟩
        | some hh =>
         simp only at h ⊢
         split at h
         ·rename_i k' n hn
          try simp only [hn]
          exact ⟨_,_,h.2.2,fun K' hk=>⟨h.1,h.2.1,hk⟩,fun _=>rfl,fun hw=>⟨by unfold AV.clo; rfl,by simp⟩⟩
         ·exact h.elim
       ·exact h.elim
     ·exact h.elim
    ·exact h.elim
   ·exact h.elim
end Go.Ab
