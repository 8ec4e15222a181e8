/-
  Regions that draw their order: one evaluation in the order of the text serves every order.
  No condition: definitions and lemmas over any program.
-/
import Derived.Test.YtjjjalcmcifncaaGreatAb12f
namespace Go.Ab
open Go.RowKit
structure Out where
 v : AV
 os : List AObj
 wr : Option (Nat × AObj)
def Out.objs (u : Out) (nid : Nat) (objs : Nat -> Option AObj) : Nat -> Option AObj :=
 match u.wr with
 | some (id,ob)=>fun i=>if i = id then some ob else objs i
 | none=>addObjs nid u.os objs
def Out.to (u : Out) (nid : Nat) (d : Option Nat) (s : St) : St:=St.put { s with objs:=u.objs nid s.objs } d u.v
def opW (P : Program) (op : Op) (nid : Nat) (s : St) (K : Out -> Prop) : Prop :=
 match op with
 | .store T x y =>
  match s.val x with
  | .ptr id idx off =>
   match s.objs id with
   | some ob =>
    match (s.val y).cells? with
    | some cs =>
     match sizeOf? P T with
     | some n =>
      match ob.kind with
      | .deep _=>False
      | .box =>
       match ob.elems[idx]? with
       | some e=>(cs.length = n /\ off + n <= ob.esz) /\ K ⟨.any,[],some (id,{ ob with elems:=ob.elems.set idx (splice e off cs) })⟩
       | none=>False
      | .slc=>∃ e,ob.elems[idx]? = some e /\ (cs.length = n /\ off + n <= ob.esz /\ cs.all AV.plain = true /\ ownsOf cs = []) /\ K ⟨.any,[],some (id,{ ob with elems:=ob.elems.set idx (splice e off cs) })⟩
     | none=>False
    | none=>False
   | none=>False
  | _=>False
 | op=>opR P op nid s fun v os=>K ⟨v,os,none⟩
def isStore : Op -> Bool
 | .store _ _ _=>true
 | _=>false
theorem opW_of {P : Program} {op : Op} {nid : Nat} {s : St} {K : Out -> Prop} (h : isStore op = false) : opW P op nid s K = opR P op nid s fun v os=>K ⟨v,os,none⟩:=by
 cases op <;> first | rfl | (simp [isStore] at h)
theorem memC_lt {op : Op} (h : isStore op = false) : memC op ≠ 2:=by
 cases op <;> simp_all [isStore,memC]
 split <;> simp
 case call c=>obtain ⟨c,_,_⟩:=c; cases c <;> simp; rename_i b; cases b <;> simp
structure OutOk (op : Op) (nid : Nat) (s : St) (u : Out) : Prop where
 c0 : memC op = 0 -> u.os = [] /\ u.wr = none
 c1 : memC op = 1 -> u.wr = none
 c2 : memC op = 2 -> u.os = [] /\ ∃ id ob,u.wr = some (id,ob) /\ has s id = true
 val : WF s -> u.v.clo (newHas nid u.os s) = true
 box : WF s -> (∀ o ∈ u.os,o.box = true -> cloL (newHas nid u.os s) o.elems.flatten = true) /\ ∀ id ob,u.wr = some (id,ob) -> ob.box = true -> cloL (has s) ob.elems.flatten = true
theorem splice_mem {α : Type} {e cs : List α} {off : Nat} {a : α} (h : a ∈ splice e off cs) : a ∈ e \/ a ∈ cs:=by
 unfold splice at h
 simp only [List.mem_append] at h
 rcases h with (h | h) | h
 ·exact .inl (List.mem_of_mem_take h)
 ·exact .inr h
 ·exact .inl (List.mem_of_mem_drop h)
theorem opW_some {P : Program} {op : Op} {nid : Nat} {s : St} {K : Out -> Prop} (h : opW P op nid s K) :
  ∃ u,K u /\ (∀ K' : Out -> Prop,K' u -> opW P op nid s K') /\ OutOk op nid s u:=by
 cases hst : isStore op with
 | false =>
  rw [opW_of hst] at h
  obtain ⟨v,os,h1,h2,h3,h4⟩:=opR_some h
  refine ⟨⟨v,os,none⟩,h1,fun K' hk=>by rw [opW_of hst]; exact h2 _ hk,⟨fun e=>⟨h3 e,rfl⟩,fun _=>rfl,fun e=>absurd e (memC_lt hst),fun hw=>(h4 hw).1,fun hw=>⟨(h4 hw).2,fun _ _ e=>by cases e⟩⟩⟩
 | true =>
  cases op <;> simp [isStore] at hst
  case store T x y =>
   simp only [opW] at h ⊢
   split at h
   ·rename_i id idx off hx
    try simp only [hx]
    split at h
    ·rename_i ob ho
     try simp only [ho]
     split at h
     ·rename_i cs hc
      try simp only [hc]
      split at h
      ·rename_i n hn
       try simp only [hn]
       split at h
       ·exact h.elim
       ·rename_i hb
        try simp only [hb]
        split at h
        ·rename_i e he
         try simp only [he]
         refine ⟨_,h.2,fun K' hk=>⟨h.1,by first | exact hk | (rw [hb] at hk; exact hk)⟩,⟨fun e=>by simp [memC] at e,fun e=>by simp [memC] at e,fun _=>⟨rfl,_,_,rfl,by simp [has,ho]⟩,fun _=>by unfold AV.clo; rfl,fun hw=>⟨by simp,fun id' ob' e hb'=>?_⟩⟩⟩
         cases e
         rw [cloL_all]
         intro a ha
         simp only [List.mem_flatten] at ha
         obtain ⟨l,hl,ha⟩:=ha
         have hold:=cloL_all.1 (hw.box id ob ho (by unfold AObj.box; rw [hb]))
         rcases List.mem_or_eq_of_mem_set hl with hl | hl
         ·exact hold a (List.mem_flatten.2 ⟨l,hl,ha⟩)
         ·rw [hl] at ha
          rcases splice_mem ha with ha | ha
          ·exact hold a (List.mem_flatten.2 ⟨e,mgE he,ha⟩)
          ·exact cloL_all.1 (cells?_clo (hw.val y) hc) a ha
        ·exact h.elim
       ·rename_i hb
        try simp only [hb]
        obtain ⟨e,he,h1,h2⟩:=h
        exact ⟨_,h2,fun K' hk=>⟨e,he,h1,by first | exact hk | (rw [hb] at hk; exact hk)⟩,⟨fun e=>by simp [memC] at e,fun e=>by simp [memC] at e,fun _=>⟨rfl,_,_,rfl,by simp [has,ho]⟩,fun _=>by unfold AV.clo; rfl,fun hw=>⟨by simp,fun id' ob' e hb'=>by cases e; simp only [AObj.box] at hb'; first | (rw [hb] at hb'; cases hb') | cases hb'⟩⟩⟩
      ·exact h.elim
     ·exact h.elim
    ·exact h.elim
   ·exact h.elim
theorem opW_congr {P : Program} {op : Op} {nid : Nat} {s s2 : St} {K : Out -> Prop} (hv : ∀ x ∈ op.operands.toList,s2.val x = s.val x) (hm : memC op <= 2)
  (h1 : memC op = 1 -> WF s /\ ∀ id,has s id = true -> s2.objs id = s.objs id) (h2 : memC op = 2 -> s2.objs = s.objs) : opW P op nid s2 K = opW P op nid s K:=by
 cases hst : isStore op with
 | false =>
  rw [opW_of hst,opW_of hst]
  have:=memC_lt hst
  exact opR_congr hv (by omega) h1
 | true =>
  cases op <;> simp [isStore] at hst
  case store T x y =>
   simp only [opW,hv x (by simp [Op.operands]),hv y (by simp [Op.operands]),h2 rfl]
def oneW (P : Program) (L : List Oper) (o : Oper) (nid : Nat) (s : St) (K : Out -> Prop) : Prop :=
 match o.guard with
 | none=>opW P o.op nid s K
 | some (j,want) =>
  match dstV L s j with
  | .bool b =>
   match want with
   | true=>splitB b (opW P o.op nid s K) (K ⟨.tup [],[],none⟩)
   | false=>splitB b (K ⟨.tup [],[],none⟩) (opW P o.op nid s K)
  | .tup l =>
   match l with
   | []=>K ⟨.tup [],[],none⟩
   | _ :: _=>False
  | _=>False
where
 dstV (L : List Oper) (s : St) (j : Nat) : AV :=
  match L[j]? with
  | some o =>
   match o.dst with
   | some d=>s.env d
   | none=>.any
  | none=>.any
def Fits (o : Oper) (nid : Nat) (s : St) (u : Out) : Prop:=s.fits o.dst = true /\ freeFrom nid u.os s.objs = true /\ u.os.length <= 16 /\ (isStore o.op = true -> o.dst = none)
def stepW (P : Program) (L : List Oper) (base i : Nat) (K : St -> Prop) (s : St) : Prop :=
 match L[i]? with
 | none=>K s
 | some o=>oneW P L o (base + 16 * i) s fun u=>Fits o (base + 16 * i) s u /\ K (u.to (base + 16 * i) o.dst s)
def YieldsW (P : Program) (L : List Oper) (nid : Nat) (o : Oper) (u : Out) (s : St) : Prop :=
 (∀ K' : Out -> Prop,K' u -> oneW P L o nid s K') /\ Fits o nid s u /\ OutOk o.op nid s u
theorem OutOk.skip (op : Op) (nid : Nat) (s : St) (h : memC op ≠ 2) : OutOk op nid s ⟨.tup [],[],none⟩ :=
 ⟨fun _=>⟨rfl,rfl⟩,fun _=>rfl,fun e=>absurd e h,fun _=>by unfold AV.clo; rfl,fun _=>⟨by simp,fun _ _ e=>by cases e⟩⟩
theorem oneW_some {P : Program} {L : List Oper} {o : Oper} {nid : Nat} {s : St} {K : Out -> Prop} (hg : o.guard.isSome = true -> memC o.op ≠ 2) (h : oneW P L o nid s K) :
  ∃ u,K u /\ (∀ K' : Out -> Prop,K' u -> oneW P L o nid s K') /\ OutOk o.op nid s u:=by
 unfold oneW at h ⊢
 cases hgd : o.guard with
 | none =>
  rw [hgd] at h
  exact opW_some h
 | some jw =>
  obtain ⟨j,want⟩:=jw
  have hm:=hg (by rw [hgd]; rfl)
  rw [hgd] at h
  simp only at h ⊢
  split at h
  ·rename_i b hb
   try simp only [hb]
   cases want with
   | true =>
    have h:=splitB_elim h
    cases b with
    | true =>
     obtain ⟨u,h1,h2,h3⟩:=opW_some (h.1 rfl)
     exact ⟨u,h1,fun K' hk=>splitB_true (h2 K' hk),h3⟩
    | false=>exact ⟨_,h.2 rfl,fun K' hk=>splitB_false hk,OutOk.skip _ _ _ hm⟩
   | false =>
    have h:=splitB_elim h
    cases b with
    | false =>
     obtain ⟨u,h1,h2,h3⟩:=opW_some (h.2 rfl)
     exact ⟨u,h1,fun K' hk=>splitB_false (h2 K' hk),h3⟩
    | true=>exact ⟨_,h.1 rfl,fun K' hk=>splitB_true hk,OutOk.skip _ _ _ hm⟩
  ·rename_i l hb
   try simp only [hb]
   split at h
   ·exact ⟨_,h,fun K' hk=>hk,OutOk.skip _ _ _ hm⟩
   ·exact h.elim
  ·exact h.elim
theorem oneW_congr {P : Program} {L : List Oper} {o : Oper} {nid : Nat} {s s2 : St} {K : Out -> Prop} (hv : ∀ t ∈ o.looksAt L.toArray,s2.env t = s.env t) (hm : memC o.op <= 2)
  (h1 : memC o.op = 1 -> WF s /\ ∀ id,has s id = true -> s2.objs id = s.objs id) (h2 : memC o.op = 2 -> s2.objs = s.objs) : oneW P L o nid s2 K = oneW P L o nid s K:=by
 have hops : ∀ x ∈ o.op.operands.toList,s2.val x = s.val x:=by
  intro x hx
  cases x with
  | tmp t=>exact hv t (by simp only [Oper.looksAt,List.mem_append,List.mem_filterMap]; exact .inl ⟨.tmp t,hx,rfl⟩)
  | const v=>rfl
  | global g=>rfl
  | func f=>rfl
 have hop : ∀ K',opW P o.op nid s2 K' = opW P o.op nid s K':=fun K'=>opW_congr hops hm h1 h2
 unfold oneW
 cases hgd : o.guard with
 | none=>exact hop K
 | some jw =>
  obtain ⟨j,want⟩:=jw
  have hd : oneW.dstV L s2 j = oneW.dstV L s j:=by
   unfold oneW.dstV
   cases hL : L[j]? with
   | none=>rfl
   | some o' =>
    cases hdd : o'.dst with
    | none=>simp [hdd]
    | some d =>
     simp only [hdd]
     refine hv d ?_
     simp only [Oper.looksAt,hgd,List.mem_append]
     right
     simp [hL,hdd]
  simp only [hd,hop]
def compat (a b : Nat) : Bool:=(decide (a <= 1) && decide (b <= 1)) || (decide (a = 0) && decide (b <= 2)) || (decide (b = 0) && decide (a <= 2))
theorem out_env {u : Out} {nid : Nat} {d : Option Nat} {s : St} {t : Nat} (h : ∀ x,d = some x -> t ≠ x) : (u.to nid d s).env t = s.env t:=by
 cases d with
 | none=>rfl
 | some x=>simp [Out.to,St.put,h x rfl]
theorem out_objs {u : Out} {nid : Nat} {d : Option Nat} {s : St} : (u.to nid d s).objs = u.objs nid s.objs:=by cases d <;> rfl
theorem out_sz {u : Out} {nid : Nat} {d : Option Nat} {s : St} : (u.to nid d s).sz = s.sz:=by cases d <;> rfl
theorem out_fits {u : Out} {nid : Nat} {d d' : Option Nat} {s : St} : (u.to nid d s).fits d' = s.fits d':=by
 cases d' with
 | none=>rfl
 | some x=>simp [St.fits,out_sz]
theorem addObjs_old {os : List AObj} {nid : Nat} {objs : Nat -> Option AObj} (hf : freeFrom nid os objs = true) {id : Nat} (h : (objs id).isSome = true) : addObjs nid os objs id = objs id:=by
 rw [addObjs_at,if_neg]
 intro e
 rw [freeFrom_at os nid objs hf id e.1 e.2] at h
 cases h
end Go.Ab
