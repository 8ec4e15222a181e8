/-
  Code on abstract states is sound; a function's contract out of its code.
  Arguments that are read as data, as abstract values; a law's row out of its function's contract.
  Small steps for walks by evaluation.
  Loops with named invariants, elements of lists, ends with objects: small steps for walks by evaluation.
  Typed data as abstract values: how arguments open, what is counted of them, small steps on both.
  A call that is walked: the caller's slots are kept beside, the objects are those of the caller.
  Marks that are written into a list, and read again.
  No condition: definitions and lemmas over any program.
-/
import Derived.Test.YtjjjalcmcifncaaGreatAb13b
import Derived.Laws.StandIn
import Derived.OpenShut
import Derived.ProofKit
namespace Go.Ab
open Go.RowKit
theorem codeA_ok {P : Program} : ∀ (c : Code) (K : Exit -> St -> Prop) (s : St),codeA P c K s -> ∀ F w0 gv a w,SimE F w0 gv s a w -> ∀ Q : Exit -> Act -> World -> Prop,
  (∀ e s' a' w',K e s' -> SimE F w0 gv s' a' w' -> Q e a' w') -> c.wp P Q a w:=by
 intro c
 induction c with
 | skip =>
  intro K s h F w0 gv a w hs Q hq
  rw [codeA_skip] at h
  exact wp_skip (hq _ _ _ _ h hs)
 | region id ops draw =>
  intro K s h F w0 gv a w hs Q hq
  rw [codeA_region] at h
  cases draw with
  | false =>
   simp only at h
   refine wp_region_list ?_
   have:=opsA_ok (L:=ops.toList) (Q:=Q) ops.toList 0 _ (K .normal) h F w0 gv a w hs (fun s' a' w' hk hs'=>hq _ _ _ _ hk hs')
   simpa using this
  | true =>
   simp only at h
   exact drawA_ok h hs (fun s' a' w' hk hs'=>hq _ _ _ _ hk hs')
 | seq x y ihx ihy =>
  intro K s h F w0 gv a w hs Q hq
  rw [codeA_seq] at h
  refine wp_seq (ihx _ _ h F w0 gv a w hs _ ?_)
  intro e s' a' w' hk hs'
  cases e <;> simp only at hk
  case normal=>exact ihy _ _ hk F w0 gv a' w' hs' Q hq
  all_goals exact hq _ _ _ _ hk hs'
 | cond c x y ihx ihy =>
  intro K s h F w0 gv a w hs Q hq
  rw [codeA_cond] at h
  split at h
  ·rename_i t hc
   have h:=splitB_elim h
   have hv : a.eval c = .bool t:=by
    obtain ⟨hdr,hsim⟩:=hs
    have:=hsim.val c
    rw [hc] at this
    unfold VR at this
    exact this
   exact wp_cond_split hv (fun e=>ihx _ _ (h.1 e) F w0 gv a w hs Q hq) (fun e=>ihy _ _ (h.2 e) F w0 gv a w hs Q hq)
  ·exact h.elim
 | block id x ih =>
  intro K s h F w0 gv a w hs Q hq
  rw [codeA_block] at h
  refine wp_block (ih _ _ h F w0 gv a w hs _ ?_)
  intro e s' a' w' hk hs'
  cases e <;> simp only at hk
  case exit id' =>
   simp only [Exit.inBlock]
   split at hk
   ·rename_i e; rw [if_pos e]; exact hq _ _ _ _ hk hs'
   ·rename_i e; rw [if_neg e]; exact hq _ _ _ _ hk hs'
  all_goals exact hq _ _ _ _ hk hs'
 | loop x ih =>
  intro K s h F w0 gv a w hs Q hq
  rw [codeA_loop] at h
  unfold Loop at h
  obtain ⟨J,I,m,j0,h0,hr⟩:=h
  have key : ∀ n j,m j < n -> ∀ a w,SimE F w0 gv (I j) a w -> Code.rounds P x Q n a w:=by
   intro n
   induction n with
   | zero=>intro j hj; omega
   | succ n ihn =>
    intro j hj a w hs
    rw [rounds_succ]
    refine ih _ _ (hr j) F w0 gv a w hs _ ?_
    intro e s' a' w' hk hs'
    cases e <;> simp only at hk
    case normal =>
     obtain ⟨j',hm,hle⟩:=hk
     exact ihn j' (by omega) a' w' (hle F w0 gv a' w' hs')
    all_goals exact hq _ _ _ _ hk hs'
  exact wp_loop_rounds (m j0 + 1) (key _ j0 (by omega) a w (h0 F w0 gv a w hs))
 | exit id =>
  intro K s h F w0 gv a w hs Q hq
  rw [codeA_exit] at h
  exact wp_exit (hq _ _ _ _ h hs)
 | ret =>
  intro K s h F w0 gv a w hs Q hq
  rw [codeA_ret] at h
  exact wp_ret (hq _ _ _ _ h hs)
 | _ =>
  intro K s h
  first | (rw [codeA_rangeFunc] at h; exact h.elim) | (rw [codeA_scope] at h; exact h.elim) | (rw [codeA_label] at h; exact h.elim) | (rw [codeA_goto] at h; exact h.elim) | (rw [codeA_refuse] at h; exact h.elim)
def start (args : List AV) (n : Nat) : St:=⟨fun t=>args.getD t .any,args.length + (n - args.length),fun _=>none,0,[]⟩
def forceO (v : AV) : Option AV :=
 match v with
 | .any=>some .any
 | .int k n=>some (.int k n)
 | .bool b=>some (.bool b)
 | .str l=>some (.str l)
 | .nil=>some .nil
 | .sl xs=>some (.sl xs)
 | .rp cs=>some (.rp cs)
 | .own id=>some (.own id)
 | .ptr id x y=>some (.ptr id x y)
 | .cel id x y z=>some (.cel id x y z)
 | .prt id x y z=>some (.prt id x y z)
 | .agg cs=>some (.agg cs)
 | .tup cs=>some (.tup cs)
 | .fn f cs=>some (.fn f cs)
theorem forceO_eq (v : AV) : forceO v = some v:=by cases v <;> rfl
def resOne (P : Program) (s : St) : ResultVar -> Option AV
 | .tmp t=>forceO (s.env t)
 | .cell t T =>
  match s.cellsAt (s.env t) with
  | some cs=>takeA P T cs
  | none=>none
def resMany (P : Program) (s : St) : List ResultVar -> Option (List AV)
 | []=>some []
 | r :: rs =>
  match resOne P s r with
  | some v =>
   match resMany P s rs with
   | some vs=>some (v :: vs)
   | none=>none
  | none=>none
def resA (P : Program) (s : St) (rs : List ResultVar) : Option AV :=
 match rs with
 | [r]=>resOne P s r
 | rs =>
  match resMany P s rs with
  | some vs=>some (.tup vs)
  | none=>none
def AV.flat : AV -> Bool
 | .int _ _ | .bool _ | .str _ | .nil=>true
 | _=>false
def named (ρ : List Nat) (r : AV) : AV:=r.sub (fun k=>.own (ρ.getD k 0)) (fun k x y=>.ptr (ρ.getD k 0) x y) (fun k x y z=>.cel (ρ.getD k 0) x y z)
def noDup : List Nat -> Bool
 | []=>true
 | x :: xs=>!xs.contains x && noDup xs
def AObj.isOwn (o : AObj) : Bool:=match o.kind with | .deep _=>true | .box=>false | .slc=>false
@[irreducible] def OutA (P : Program) (sh : Bool) (rs : List ResultVar) (r : AV) (os : List AObj) (s : St) : Prop :=
 ∃ s',s.le s' /\ ∃ ρ : List Nat,(ρ.length = os.length /\ noDup ρ = true /\ r.fine sh os.length = true) /\ resA P s' rs = some (named ρ r) /\ (∀ k o,os[k]? = some o -> s'.objs (ρ.getD k 0) = some o /\ o.box = false) /\
  ((sh = true \/ ∀ o ∈ os,o.elems.flatten.all AV.flat = true) \/ ∀ o ∈ os,(o.isOwn || o.elems.flatten.all AV.flat) = true)
section
variable {c c1 : Ctx} {ρ : List Nat} {sh : Bool} {n : Nat}
mutual
theorem VR.unname (hR : sh = true -> ∀ x v,RR c.w c.ro x v -> RR c1.w c1.ro x v) (ho : ∀ k,k < n -> (c1.objs k).isSome = true /\ (c1.hdr k).v = (c.hdr (ρ.getD k 0)).v) :
  ∀ (a : AV) (v : Value),a.fine sh n = true -> VR c (a.sub (fun k=>.own (ρ.getD k 0)) (fun k x y=>.ptr (ρ.getD k 0) x y) (fun k x y z=>.cel (ρ.getD k 0) x y z)) v -> VR c1 a v
 | .own k,v,hf,h=>by
  unfold AV.fine at hf
  unfold AV.sub at h
  unfold VR at h ⊢
  obtain ⟨h1,h2⟩:=ho k (by simpa using hf)
  exact ⟨h1,by rw [h2]; exact h.2⟩
 | .ptr _ _ _,_,hf,_=>by unfold AV.fine at hf; cases hf
 | .cel _ _ _ _,_,hf,_=>by unfold AV.fine at hf; cases hf
 | .prt _ _ _ _,_,hf,_=>by unfold AV.fine at hf; cases hf
 | .any,_,hf,_=>by unfold AV.fine at hf; cases hf
 | .agg cs,_,hf,h=>by
  unfold AV.fine at hf
  unfold AV.sub at h
  unfold VR at h ⊢
  obtain ⟨vs,h1,h2⟩:=h
  exact ⟨vs,h1,VL.unname hR ho cs _ hf h2⟩
 | .tup cs,_,hf,h=>by
  unfold AV.fine at hf
  unfold AV.sub at h
  unfold VR at h ⊢
  obtain ⟨vs,h1,h2⟩:=h
  exact ⟨vs,h1,VL.unname hR ho cs _ hf h2⟩
 | .fn _ cs,_,hf,h=>by
  unfold AV.fine at hf
  unfold AV.sub at h
  unfold VR at h ⊢
  obtain ⟨vs,h1,h2⟩:=h
  exact ⟨vs,h1,VL.unname hR ho cs _ hf h2⟩
 | .int ..,_,_,h=>by unfold AV.sub at h; unfold VR at h ⊢; exact h
 | .bool _,_,_,h=>by unfold AV.sub at h; unfold VR at h ⊢; exact h
 | .str _,_,_,h=>by unfold AV.sub at h; unfold VR at h ⊢; exact h
 | .nil,_,_,h=>by unfold AV.sub at h; unfold VR at h ⊢; exact h
 | .sl _,_,hf,h=>by unfold AV.fine at hf; unfold AV.sub at h; unfold VR at h ⊢; exact hR hf _ _ h
 | .rp _,_,hf,h=>by unfold AV.fine at hf; unfold AV.sub at h; unfold VR at h ⊢; exact hR hf _ _ h
theorem VL.unname (hR : sh = true -> ∀ x v,RR c.w c.ro x v -> RR c1.w c1.ro x v) (ho : ∀ k,k < n -> (c1.objs k).isSome = true /\ (c1.hdr k).v = (c.hdr (ρ.getD k 0)).v) :
  ∀ (as : List AV) (vs : List Value),fineL sh n as = true -> VL c (AV.sub.subL (fun k=>.own (ρ.getD k 0)) (fun k x y=>.ptr (ρ.getD k 0) x y) (fun k x y z=>.cel (ρ.getD k 0) x y z) as) vs -> VL c1 as vs
 | [],[],_,_=>VL.nil
 | a :: as,v :: vs,hf,h=>by
  unfold fineL at hf
  simp only [baT] at hf
  unfold AV.sub.subL VL at h
  exact VL.cons (VR.unname hR ho a v hf.1 h.1) (VL.unname hR ho as vs hf.2 h.2)
 | [],_ :: _,_,h=>by unfold AV.sub.subL VL at h; exact h.elim
 | _ :: _,[],_,h=>by unfold AV.sub.subL VL at h; exact h.elim
end
end
theorem flat_RR {w w' : World} {ro ro' : Nat -> Prop} : ∀ {as : List AV} {vs : List Value},as.all AV.flat = true -> LR w ro as vs -> LR w' ro' as vs
 | [],[],_,_=>by unfold LR; trivial
 | a :: as,v :: vs,hf,h=>by
  simp only [List.all_cons,baT] at hf
  unfold LR at h ⊢
  refine ⟨?_,flat_RR hf.2 h.2⟩
  have h1:=h.1
  have h2:=hf.1
  cases a <;> simp [AV.flat] at h2 <;> unfold RR at h1 ⊢ <;> exact h1
 | [],_ :: _,_,h=>by unfold LR at h; exact h.elim
 | _ :: _,[],_,h=>by unfold LR at h; exact h.elim
theorem noDup_inj : ∀ {ρ : List Nat},noDup ρ = true -> ∀ i j,i < ρ.length -> j < ρ.length -> ρ.getD i 0 = ρ.getD j 0 -> i = j
 | [],_,i,j,hi,_,_=>by simp at hi
 | x :: xs,h,i,j,hi,hj,e=>by
  simp only [noDup,baT,Bool.not_eq_true'] at h
  have hx : x ∉ xs:=by simpa using h.1
  cases i with
  | zero =>
   cases j with
   | zero=>rfl
   | succ j =>
    exfalso
    simp only [List.getD_cons_zero,List.getD_cons_succ] at e
    have hj' : j < xs.length:=by simpa using hj
    have : xs.getD j 0 ∈ xs:=by simp [List.getD_eq_getElem?_getD,hj']
    rw [<- e] at this
    exact hx this
  | succ i =>
   cases j with
   | zero =>
    exfalso
    simp only [List.getD_cons_zero,List.getD_cons_succ] at e
    have hi' : i < xs.length:=by simpa using hi
    have : xs.getD i 0 ∈ xs:=by simp [List.getD_eq_getElem?_getD,hi']
    rw [e] at this
    exact hx this
   | succ j =>
    simp only [List.getD_cons_succ] at e
    rw [noDup_inj h.2 i j (by simpa using hi) (by simpa using hj) e]
section
variable {P : Program} {F : Nat -> Prop} {w0 : Base} {gv : List Value} {s : St} {a : Act} {w : World} {hdr : Nat -> Hdr}
def resSem (tmps : Array Value) : ResultVar -> Sem Value
 | .tmp t=>pure (tmps.getD t undef)
 | .cell a t=>do loadVar t (<- asAddr (tmps.getD a undef))
theorem results_eq (fn : Func) (tmps : Array Value) : results fn tmps = (do
  let vs <- List.toArray <$> fn.results.toList.mapM (resSem tmps)
  pure (if h : vs.size = 1 then vs[0] else .tuple vs)):=by
 rw [<- Array.mapM_eq_mapM_toList]
 rfl
theorem resOne_ok (h : Sim F w0 gv s a w hdr) {r : ResultVar} {v : AV} (hr : resOne P s r = some v) :
  ∃ u,(resSem a.tmps r).run P w = .ok u w /\ VR (s.ctx F w hdr) v u:=by
 cases r with
 | tmp t =>
  simp only [resOne,forceO_eq,Option.some.injEq] at hr
  subst hr
  exact ⟨a.eval (.tmp t),by simp only [resSem,Sem.run_pure]; rfl,h.env t⟩
 | cell x T =>
  simp only [resOne] at hr
  split at hr
  ·rename_i cs hc
   obtain ⟨u,h1,h2⟩:=h.load (P:=P) (h.env x) hc hr
   obtain ⟨b,o,vs,e1,_,_⟩:=h.cellsAt (h.env x) hc
   refine ⟨u,?_,h2⟩
   have e2 : a.tmps.getD x undef = .pointer (some ⟨b,o,none⟩):=e1
   rw [e1] at h1
   simp only [Instr.loadAt,Instr.sureAddr,Sem.run_bind,Sem.run_pure,Result.andThen_ok] at h1
   simp only [resSem,e2,asAddr,Sem.run_bind,Sem.run_pure,Result.andThen_ok]
   exact h1
  ·cases hr
theorem resMany_ok (h : Sim F w0 gv s a w hdr) : ∀ {rs : List ResultVar} {vs : List AV},resMany P s rs = some vs ->
  ∃ us,(rs.mapM (resSem a.tmps)).run P w = .ok us w /\ VL (s.ctx F w hdr) vs us
 | [],vs,hr=>by
  simp only [resMany,Option.some.injEq] at hr
  subst hr
  exact ⟨[],by simp,VL.nil⟩
 | r :: rs,vs,hr=>by
  simp only [resMany] at hr
  cases h1 : resOne P s r with
  | none=>simp [h1] at hr
  | some v =>
   cases h2 : resMany P s rs with
   | none=>simp [h1,h2] at hr
   | some vs' =>
    simp only [h1,h2,Option.some.injEq] at hr
    subst hr
    obtain ⟨u,q1,q2⟩:=resOne_ok h h1
    obtain ⟨us,q3,q4⟩:=resMany_ok h h2
    refine ⟨u :: us,?_,VL.cons q2 q4⟩
    rw [List.mapM_cons]
    simp only [Sem.run_bind,q1,Result.andThen_ok,q3,Sem.run_pure]
theorem resA_ok (h : Sim F w0 gv s a w hdr) {fn : Func} {v : AV} (hr : resA P s fn.results.toList = some v) : ∃ u,(results fn a.tmps).run P w = .ok u w /\ VR (s.ctx F w hdr) v u:=by
 rw [results_eq]
 unfold resA at hr
 split at hr
 ·rename_i r e
  obtain ⟨u,q1,q2⟩:=resOne_ok h hr
  refine ⟨u,?_,q2⟩
  rw [e]
  simp [q1]
 ·rename_i rs hne
  cases hm : resMany P s fn.results.toList with
  | none=>simp [hm] at hr
  | some vs =>
   simp only [hm,Option.some.injEq] at hr
   subst hr
   obtain ⟨us,q1,q2⟩:=resMany_ok h hm
   have hl : us.length ≠ 1:=by
    intro e
    have h1 : vs.length = 1:=by rw [q2.length,e]
    have h2 : ∀ {l : List ResultVar} {vs : List AV},resMany P s l = some vs -> l.length = vs.length:=by
     intro l
     induction l with
     | nil=>intro vs hv; simp only [resMany,Option.some.injEq] at hv; subst hv; rfl
     | cons r l ih =>
      intro vs hv
      simp only [resMany] at hv
      cases k1 : resOne P s r with
      | none=>simp [k1] at hv
      | some v =>
       cases k2 : resMany P s l with
       | none=>simp [k1,k2] at hv
       | some vs' =>
        simp only [k1,k2,Option.some.injEq] at hv
        subst hv
        simp [ih k2]
    have h3:=h2 hm
    rw [h1] at h3
    match hL : fn.results.toList,h3 with
    | [r],_=>exact hne r hL
   refine ⟨.tuple us.toArray,?_,by unfold VR; exact ⟨us.toArray,rfl,by simpa using q2⟩⟩
   simp [q1,hl]
end
def addK (s : St) (nid : Nat) (os : List AObj) (K : St -> Prop) : Prop :=
 match s with
 | ⟨e,z,o,n,g⟩=>K ⟨e,z,addObjs nid os o,n,g⟩
theorem CallF {P : Program} {f : Nat} {args args' : List AV} {s : St} {nid : Nat} {d : Option Nat} {K : St -> Prop} {r : AV} {os : List AObj} (hpc : PC P false f args' r os) (he : args.map (rf s) = args') (hk : args.all (known s) = true) (hf : freeFrom nid os s.objs = true) (hl : os.length <= 16)
  (h : addK s nid os fun s'=>s'.putN d (r.shift nid) K) : CallA P f args s nid d K:=by
 unfold CallA
 exact .inr ⟨false,r,os,by rw [he]; exact hpc,(fun e=>by cases e),⟨hf,hl⟩,hk,h⟩
theorem CallT {P : Program} {f : Nat} {args args' : List AV} {s : St} {nid : Nat} {d : Option Nat} {K : St -> Prop} {r : AV} {os : List AObj} (hpc : PC P true f args' r os) (he : args.map (rf s) = args') (hk : args.all (known s) = true) (hs : args.all AV.ro2 = true) (hf : freeFrom nid os s.objs = true) (hl : os.length <= 16)
  (h : addK s nid os fun s'=>s'.putN d (r.shift nid) K) : CallA P f args s nid d K:=by
 unfold CallA
 exact .inr ⟨true,r,os,by rw [he]; exact hpc,fun _=>hs,⟨hf,hl⟩,hk,h⟩
theorem Call0 {P : Program} {f : Nat} {args args' : List AV} {s : St} {nid : Nat} {d : Option Nat} {K : St -> Prop} {r : AV} (hpc : PC P false f args' r []) (he : args.map (rf s) = args') (hk : args.all (known s) = true)
  (h : s.putN d (r.shift nid) K) : CallA P f args s nid d K:=CallF hpc he hk rfl (by simp) h
theorem OutA_plain {P : Program} {sh : Bool} {rs : List ResultVar} {r v : AV} {s : St} (h : resA P s rs = some v) (hf : r.fine sh 0 = true) (hv : v = named [] r) : OutA P sh rs r [] s:=by
 unfold OutA
 exact ⟨s,St.le_refl s,[],⟨rfl,rfl,hf⟩,by rw [h,hv],fun k o hk=>by simp at hk,.inl (.inr (fun o ho=>by simp at ho))⟩
theorem OutA_objs {P : Program} {sh : Bool} {rs : List ResultVar} {r v : AV} {os : List AObj} {s : St} (ρ : List Nat) (h : resA P s rs = some v) (hl : ρ.length = os.length) (hn : noDup ρ = true) (hf : r.fine sh os.length = true) (hv : v = named ρ r)
  (ho : ∀ k o,os[k]? = some o -> s.objs (ρ.getD k 0) = some o /\ o.box = false) (hs : sh = true \/ ∀ o ∈ os,o.elems.flatten.all AV.flat = true) : OutA P sh rs r os s:=by
 unfold OutA
 exact ⟨s,St.le_refl s,ρ,⟨hl,hn,hf⟩,by rw [h,hv],ho,.inl hs⟩
theorem OutA_objs2 {P : Program} {sh : Bool} {rs : List ResultVar} {r v : AV} {os : List AObj} {s : St} (ρ : List Nat) (h : resA P s rs = some v) (hl : ρ.length = os.length) (hn : noDup ρ = true) (hf : r.fine sh os.length = true) (hv : v = named ρ r)
  (ho : ∀ k o,os[k]? = some o -> s.objs (ρ.getD k 0) = some o /\ o.box = false) (hs : ∀ o ∈ os,(o.isOwn || o.elems.flatten.all AV.flat) = true) : OutA P sh rs r os s:=by
 unfold OutA
 exact ⟨s,St.le_refl s,ρ,⟨hl,hn,hf⟩,by rw [h,hv],ho,.inr hs⟩
theorem OutA_le {P : Program} {sh : Bool} {rs : List ResultVar} {r : AV} {os : List AObj} {s s' : St} (hle : s.le s') (h : OutA P sh rs r os s') : OutA P sh rs r os s:=by
 unfold OutA at h ⊢
 obtain ⟨s'',h1,h2⟩:=h
 exact ⟨s'',St.le_trans hle h1,h2⟩
def AV.ids : AV -> List Nat
 | .own k=>[k]
 | .agg cs=>idsL cs
 | .tup cs=>idsL cs
 | _=>[]
where idsL : List AV -> List Nat
 | []=>[]
 | a :: as=>a.ids ++ idsL as
def ObjsAt (s : St) : List Nat -> List AObj -> Prop
 | [],[]=>True
 | id :: ids,o :: os=>(∃ ty esz es,s.objs id = some ⟨.slc,ty,esz,es⟩ /\ o = ⟨.slc,ty,esz,es⟩) /\ ObjsAt s ids os
 | _,_=>False
theorem ObjsAt_get {s : St} : ∀ {ρ : List Nat} {os : List AObj},ObjsAt s ρ os -> ρ.length = os.length /\ ∀ k o,os[k]? = some o -> s.objs (ρ.getD k 0) = some o /\ o.box = false
 | [],[],_=>⟨rfl,fun k o h=>by simp at h⟩
 | id :: ids,o :: os,h=>by
  unfold ObjsAt at h
  obtain ⟨⟨ty,esz,es,h1,rfl⟩,h2⟩:=h
  obtain ⟨e1,e2⟩:=ObjsAt_get h2
  refine ⟨by simp [e1],fun k o hk=>?_⟩
  cases k with
  | zero=>simp at hk; subst hk; exact ⟨by simpa using h1,rfl⟩
  | succ k=>exact e2 k o (by simpa using hk)
 | [],_ :: _,h=>by unfold ObjsAt at h; exact h.elim
 | _ :: _,[],h=>by unfold ObjsAt at h; exact h.elim
theorem OutA_ids {P : Program} {sh : Bool} {rs : List ResultVar} {r v : AV} {os : List AObj} {s : St} (h : resA P s rs = some v) (hn : noDup v.ids = true) (hf : r.fine sh os.length = true)
  (ho : ObjsAt s v.ids os) (hv : v = named v.ids r) (hs : sh = true \/ ∀ o ∈ os,o.elems.flatten.all AV.flat = true) : OutA P sh rs r os s :=
 OutA_objs v.ids h (ObjsAt_get ho).1 hn hf hv (ObjsAt_get ho).2 hs
def ObjsD (s : St) : List Nat -> List AObj -> Prop
 | [],[]=>True
 | id :: ids,o :: os=>(s.objs id = some o /\ o.isOwn = true) /\ ObjsD s ids os
 | _,_=>False
theorem ObjsD_get {s : St} : ∀ {ρ : List Nat} {os : List AObj},ObjsD s ρ os -> ρ.length = os.length /\ (∀ k o,os[k]? = some o -> s.objs (ρ.getD k 0) = some o /\ o.box = false) /\ ∀ o ∈ os,(o.isOwn || o.elems.flatten.all AV.flat) = true
 | [],[],_=>⟨rfl,fun k o h=>by simp at h,by simp⟩
 | id :: ids,o :: os,h=>by
  unfold ObjsD at h
  obtain ⟨⟨h1,h3⟩,h2⟩:=h
  obtain ⟨e1,e2,e3⟩:=ObjsD_get h2
  have hb : o.box = false:=by
   unfold AObj.isOwn at h3
   unfold AObj.box
   cases hk : o.kind <;> simp [hk] at h3 ⊢
  refine ⟨by simp [e1],fun k o' hk=>?_,fun o' ho'=>?_⟩
  ·cases k with
   | zero=>simp at hk; subst hk; exact ⟨by simpa using h1,hb⟩
   | succ k=>exact e2 k o' (by simpa using hk)
  ·rcases List.mem_cons.1 ho' with rfl | ho'
   ·rw [h3]; rfl
   ·exact e3 o' ho'
 | [],_ :: _,h=>by unfold ObjsD at h; exact h.elim
 | _ :: _,[],h=>by unfold ObjsD at h; exact h.elim
theorem OutA_deep {P : Program} {sh : Bool} {rs : List ResultVar} {r v : AV} {os : List AObj} {s : St} (h : resA P s rs = some v) (hn : noDup v.ids = true) (hf : r.fine sh os.length = true)
  (ho : ObjsD s v.ids os) (hv : v = named v.ids r) : OutA P sh rs r os s :=
 OutA_objs2 v.ids h (ObjsD_get ho).1 hn hf hv (ObjsD_get ho).2.1 (ObjsD_get ho).2.2
theorem pc_of {P : Program} {f : Nat} {fn : Func} {c : Code} (hf : P.funcs[f]? = some fn) (hb : fn.body = some c) (hname : (fn.name == "runtime.NumGoroutine") = false) {sh : Bool} {args : List AV} {r : AV} {os : List AObj}
  (h : codeA P c (fun e s=>match e with
   | .normal=>OutA P sh fn.results.toList r os s
   | .ret=>OutA P sh fn.results.toList r os s
   | _=>False) (start args fn.ntmps)) : PC P sh f args r os:=by
 refine ⟨fun w R vals hR hargs=>(Ans_body hf hname hb).2 ?_⟩
 have hlen:=hargs.length
 have hs : SimE (fun b=>R b \/ w.heap.size <= b) ⟨w,fun b=>w.heap.size <= b,fun _ h=>h,hR.tab⟩ [] (start args fn.ntmps) { tmps:=vals.toArray ++ Array.replicate (fn.ntmps - vals.toArray.size) undef,defers:=[] } w:=by
  refine ⟨fun _=>⟨.nilFunc,[]⟩,fun t=>?_,?_,rfl,VL.nil,?_,?_,Frame.refl _,fun b hb=>.inr hb⟩
  ·simp only [start]
   cases ha : args[t]? with
   | none=>rw [List.getD_eq_getElem?_getD,ha]; unfold VR; trivial
   | some x =>
    have hL : VL (St.ctx (start args fn.ntmps) (fun b=>R b \/ w.heap.size <= b) w (fun _=>⟨.nilFunc,[]⟩)) args vals:=by
     refine RR.value.values (c:=St.ctx (start args fn.ntmps) (fun b=>R b \/ w.heap.size <= b) w (fun _=>⟨.nilFunc,[]⟩)) _ _ (LR.mono (fun _ _ _=>rfl) (fun b hb=>?_) _ _ hargs)
     exact ⟨.inl hb,hR.lt b hb,fun _ _ h=>by simp [start] at h⟩
    obtain ⟨v,e1,e2⟩:=hL.get t x ha
    have hlt : t < vals.length:=(List.getElem?_eq_some_iff.1 e1).1
    rw [List.getD_eq_getElem?_getD,ha]
    have hev : Act.eval { tmps:=vals.toArray ++ Array.replicate (fn.ntmps - vals.toArray.size) undef,defers:=[] } (.tmp t) = v:=by
     simp only [Act.eval,Array.getD_eq_getD_getElem?]
     rw [Array.getElem?_append_left (by simpa using hlt)]
     simp [e1]
    rw [hev]
    exact e2
  ·simp [start,hlen]
  ·intro id o ho; simp [start] at ho
  ·intro i j o o' b hi; simp [start] at hi
 refine calls_of_wp hf hb (codeA_ok c _ _ h _ ⟨w,fun b=>w.heap.size <= b,fun _ h=>h,hR.tab⟩ [] _ w hs _ ?_)
 intro e s' a' w' hk ⟨hdr,hsim⟩
 have main : OutA P sh fn.results.toList r os s' -> a'.defers = [] /\ ∃ v,(results fn a'.tmps).run P w' = .ok v w' /\ ∃ v',Ending.returned v = .returned v' /\ ∃ hdr',Below w.heap.size w w' /\ ResR R sh w w' hdr' r os v':=by
  intro hout
  unfold OutA at hout
  obtain ⟨s',hle,ρ,⟨hl,hnd,hfine⟩,hres,hos,hflat⟩:=hout
  obtain ⟨hdr,hsim⟩:=hle _ _ _ _ _ ⟨hdr,hsim⟩
  obtain ⟨v,q1,q2⟩:=resA_ok hsim hres
  refine ⟨hsim.defers,v,q1,v,rfl,fun k=>hdr (ρ.getD k 0),⟨hsim.below.os,hsim.below.tape,hsim.below.output,hsim.below.size,fun k hk=>hsim.below.block k hk (by show ¬ w.heap.size <= k; omega)⟩,?_⟩
  have hro : sh = true -> ∀ b,roOf (fun b=>R b \/ w.heap.size <= b) w' hdr s'.objs b -> (resCtx R sh w w' (fun k=>hdr (ρ.getD k 0)) os).ro b:=by
   intro hsh b ⟨k0,k1,k2⟩
   exact ⟨k0.imp (fun h=>⟨hsh,h⟩) id,k1,fun id o hi=>k2 _ o (hos id o hi).1⟩
  have hRR : sh = true -> ∀ x u,RR w' (roOf (fun b=>R b \/ w.heap.size <= b) w' hdr s'.objs) x u -> RR w' (resCtx R sh w w' (fun k=>hdr (ρ.getD k 0)) os).ro x u:=fun hsh x u=>RR.mono (fun _ _ _=>rfl) (hro hsh) x u
  refine ⟨?_,?_,?_,?_⟩
  ·refine VR.unname (c:=s'.ctx (fun b=>R b \/ w.heap.size <= b) w' hdr) (c1:=resCtx R sh w w' (fun k=>hdr (ρ.getD k 0)) os) (ρ:=ρ) (n:=os.length) hRR ?_ r v hfine q2
   intro k hk
   exact ⟨by show (os[k]?).isSome = true; simp [hk],rfl⟩
  ·intro o ho
   obtain ⟨k,hk⟩:=List.getElem?_of_mem ho
   exact (hos k o hk).2
  ·intro k o hk
   obtain ⟨k2,k3,kn,cs,k4,k5,k6⟩:=hsim.objs _ o (hos k o hk).1
   refine ⟨k2,k3,kn,cs,k4,k5,?_⟩
   have hom:=mgE hk
   cases hkd : o.kind with
   | box=>have:=(hos k o hk).2; unfold AObj.box at this; rw [hkd] at this; cases this
   | deep shp=>exact CellsR_deep hkd (k6.deep hkd)
   | slc =>
    obtain ⟨hlr0,q2⟩:=k6.slc hkd
    rw [q2]
    refine CellsR_slc hkd ?_
    rcases hflat with (hsh | hfl) | hfl
    ·exact LR.mono (fun _ _ _=>rfl) (hro hsh) _ _ hlr0
    ·exact flat_RR (hfl o hom) hlr0
    ·have:=hfl o hom
     simp only [AObj.isOwn,hkd,Bool.false_or] at this
     exact flat_RR this hlr0
  ·intro i j o o' b hi hj bi bj
   have:=hsim.dis _ _ o o' b (hos i o hi).1 (hos j o' hj).1 bi bj
   exact noDup_inj hnd i j (by rw [hl]; exact (List.getElem?_eq_some_iff.1 hi).1) (by rw [hl]; exact (List.getElem?_eq_some_iff.1 hj).1) this
 cases e <;> simp only at hk
 case normal=>exact main hk
 case ret=>exact main hk
theorem pc_at {P : Program} {f : Nat} {fn : Func} {c : Code} (hf : P.funcs[f]? = some fn) (hb : fn.body = some c) (hname : (fn.name == "runtime.NumGoroutine") = false) {sh : Bool} {args : List AV} {r : AV} {os : List AObj} (z : Nat) (rs : List ResultVar) (hz : args.length + (fn.ntmps - args.length) = z) (hr : fn.results.toList = rs)
  (h : codeA P c (fun e s=>match e with
   | .normal=>OutA P sh rs r os s
   | .ret=>OutA P sh rs r os s
   | _=>False) ⟨fun t=>args.getD t .any,z,fun _=>none,0,[]⟩) : PC P sh f args r os:=by
 refine pc_of hf hb hname ?_
 unfold start
 rw [hz,hr]
 exact h
theorem pc_ext {P : Program} {f : Nat} {fn : Func} {e : Array Value -> Sem Value} (hf : P.funcs[f]? = some fn) (hname : (fn.name == "runtime.NumGoroutine") = false) (hb : fn.body.isNone = true) (hn : Extern.findNext fn = none) (he : Extern.find fn = some e) {args : List AV} {r : AV}
  (h : ∀ (w : World) (ro : Nat -> Prop) (vals : List Value),LR w ro args vals -> ∃ v,(e vals.toArray).run P w = .ok v w /\ ∀ c,VR c r v) : PC P false f args r []:=by
 refine ⟨fun w R vals _ hargs=>?_⟩
 obtain ⟨v,h1,h2⟩:=h w R vals hargs
 unfold Ans
 rw [run_callFunc_extern hf hname hb hn he,h1]
 exact ⟨fun _=>⟨.nilFunc,[]⟩,Below.refl _ _,h2 _,by simp,by simp,by simp⟩
end Go.Ab
namespace Go.Ab
open Go.RowKit Go.ChangeShapes Go.WideShapes
def offsOk (P : Program) : Nat -> List Field -> Bool
 | _,[]=>true
 | k,f :: l=>f.offset == k && offsOk P (k + P.cellsOf f.type) l
def sumOf (P : Program) : List Field -> Nat
 | []=>0
 | f :: l=>P.cellsOf f.type + sumOf P l
def shB (P : Program) : Nat -> TypeId -> Bool
 | 0,_=>false
 | n + 1,t =>
  match P.underlying t with
  | some .bool=>true
  | some (.int _)=>true
  | some .string=>true
  | some (.slice e)=>decide (0 < P.cellsOf e) && shB P n e
  | some (.struct fs)=>offsOk P 0 fs.toList && P.cellsOf t == sumOf P fs.toList && fs.toList.all fun f=>shB P n f.type
  | _=>false
mutual
def Sh (P : Program) : Nat -> TypeId -> List AV -> Prop
 | 0,_,_=>False
 | n + 1,t,as =>
  match P.underlying t with
  | some .bool=>∃ b,as = [.bool b]
  | some (.int k)=>∃ x,as = [.int k x] /\ (Lit.int k x).wf = true
  | some .string=>∃ l,as = [.str l] /\ l.length <= maxLen
  | some (.slice e)=>∃ xs,as = [.sl xs] /\ xs.length <= maxLen /\ ∀ x ∈ xs,Sh P n e x
  | some (.struct fs)=>ShL P n fs.toList as
  | _=>False
def ShL (P : Program) : Nat -> List Field -> List AV -> Prop
 | _,[],as=>as = []
 | n,f :: fs,as=>∃ x y,as = x ++ y /\ Sh P n f.type x /\ ShL P n fs y
end
section
variable {H : Type} {enc : TypeId × Value -> H} {P : Program} {w : World} {base : Nat} {spare : Nat -> Bool} {held : Bool} {ro : Nat -> Prop}
theorem open_fields (n : Nat) (ih : ∀ (t : TypeId) (cs : List Value) (fuel : Nat) (x : DataW H × List MemPlace),shB P n t = true -> DataW.trod enc P w base spare held fuel t cs = some x -> ∃ as,LR w ro as cs /\ Sh P n t as) :
  ∀ (l : List Field) (k : Nat) (cs : List Value),offsOk P k l = true -> (l.all fun f=>shB P n f.type) = true -> cs.length = k + sumOf P l ->
   (∀ f ∈ l,∃ fuel x,DataW.trod enc P w base spare held fuel f.type ((cs.drop f.offset).take (P.cellsOf f.type)) = some x) -> ∃ as,LR w ro as (cs.drop k) /\ ShL P n l as
 | [],k,cs,_,_,hl,_=>by
  refine ⟨[],?_,by unfold ShL; rfl⟩
  have : cs.drop k = []:=List.drop_eq_nil_of_le (by simp [sumOf] at hl; omega)
  rw [this]
  unfold LR; trivial
 | f :: l,k,cs,ho,hs,hl,h=>by
  simp only [offsOk,baT,beq_iff_eq] at ho
  simp only [List.all_cons,baT] at hs
  simp only [sumOf] at hl
  obtain ⟨fuel,x,hx⟩:=h f (by simp)
  rw [ho.1] at hx
  obtain ⟨as,h1,h2⟩:=ih _ _ _ _ hs.1 hx
  obtain ⟨bs,h3,h4⟩:=open_fields n ih l (k + P.cellsOf f.type) cs ho.2 hs.2 (by omega) (fun g hg=>h g (by simp [hg]))
  refine ⟨as ++ bs,?_,?_⟩
  ·have e : cs.drop k = (cs.drop k).take (P.cellsOf f.type) ++ cs.drop (k + P.cellsOf f.type):=by
    rw [<- List.drop_drop,List.take_append_drop]
   rw [e]
   exact h1.append h3
  ·unfold ShL
   exact ⟨as,bs,rfl,h2,h4⟩
theorem open_elems (Q : List AV -> Prop) (esz : Nat) (rd : Nat -> Option Value) : ∀ (m k : Nat),(∀ i,i < m -> ∃ cs as,cs.length = esz /\ (∀ j v,cs[j]? = some v -> rd ((k + i) * esz + j) = some v) /\ LR w ro as cs /\ Q as) ->
  ∃ xs : List (List AV),xs.length = m /\ EsR w ro esz xs (fun j=>rd (k * esz + j)) /\ ∀ x ∈ xs,Q x
 | 0,k,_=>⟨[],rfl,by unfold EsR; trivial,by simp⟩
 | m + 1,k,h=>by
  obtain ⟨cs,as,h1,h2,h3,h4⟩:=h 0 (by omega)
  obtain ⟨xs,g1,g2,g3⟩:=open_elems Q esz rd m (k + 1) (fun i hi=>by
   obtain ⟨cs,as,q1,q2,q3,q4⟩:=h (i + 1) (by omega)
   exact ⟨cs,as,q1,fun j v hj=>by have:=q2 j v hj; rw [show k + 1 + i = k + (i + 1) by omega]; exact this,q3,q4⟩)
  refine ⟨as :: xs,by simp [g1],?_,?_⟩
  ·unfold EsR
   refine ⟨by rw [h3.length,h1],LR.cells _ h3 (fun j u hj=>h2 j u hj),?_⟩
   have : (fun j=>rd (k * esz + (j + esz))) = (fun j=>rd ((k + 1) * esz + j)):=by
    funext j
    rw [Nat.add_mul,Nat.one_mul]
    congr 1
    omega
   rw [this]
   exact g2
  ·intro x hx
   rcases List.mem_cons.1 hx with rfl | hx
   ·exact h4
   ·exact g3 x hx
theorem open_data (hro : ∀ b o v,w.cell? ⟨b,o,none⟩ = some v -> ro b) : ∀ (n : Nat) (t : TypeId) (cs : List Value) (fuel : Nat) (x : DataW H × List MemPlace),shB P n t = true -> DataW.trod enc P w base spare held fuel t cs = some x ->
  ∃ as,LR w ro as cs /\ Sh P n t as:=by
 intro n
 induction n with
 | zero=>intro t cs fuel x h; simp [shB] at h
 | succ n ih =>
  intro t cs fuel x hs h
  have one : ∀ {a v},RR w ro a v -> LR w ro [a] [v]:=fun {a v} h=>by unfold LR; exact ⟨h,by unfold LR; trivial⟩
  unfold shB at hs
  split at hs
  ·rename_i hu
   cases fuel with
   | zero=>simp [DataW.trod] at h
   | succ m =>
    unfold DataW.trod at h
    rw [hu] at h
    split at h <;> simp_all
    exact ⟨_,one (a:=.bool _) (by unfold RR; rfl),by unfold Sh; rw [hu]; exact ⟨_,rfl⟩⟩
  ·rename_i k hu
   cases fuel with
   | zero=>simp [DataW.trod] at h
   | succ m =>
    unfold DataW.trod at h
    rw [hu] at h
    split at h <;> simp_all
    obtain ⟨⟨rfl,hw⟩,_⟩:=h
    exact ⟨_,one (a:=.int _ _) (by unfold RR; rfl),by unfold Sh; rw [hu]; exact ⟨_,rfl,hw⟩⟩
  ·rename_i hu
   cases fuel with
   | zero=>simp [DataW.trod] at h
   | succ m =>
    unfold DataW.trod at h
    rw [hu] at h
    split at h <;> simp_all
    rename_i s
    have hsz:=h.1
    exact ⟨[.str s.data.toList],one (by unfold RR; rfl),by unfold Sh; rw [hu]; exact ⟨s.data.toList,rfl,by rw [Array.length_toList]; exact hsz⟩⟩
  ·rename_i e hu
   simp only [baT,decide_eq_true_eq] at hs
   rcases DataW.trod_slice hu h with ⟨rfl,_⟩ | ⟨a,len,cap,elems,rest,m,_,rfl,_,_,hlc,hcm,hel,hget,_,_⟩
   ·exact ⟨[.sl []],one (by unfold RR; exact ⟨none,0,rfl,Nat.le_refl _,.inl rfl⟩),by unfold Sh; rw [hu]; exact ⟨[],rfl,by simp,by simp⟩⟩
   ·have hcells : ∀ i,i < len -> ∃ cs' as,cs'.length = P.cellsOf e /\ (∀ j v,cs'[j]? = some v -> w.cell? ((a.add (i * P.cellsOf e)).add j) = some v) /\ LR w ro as cs' /\ Sh P n e as:=by
     intro i hi
     have h1:=hget i hi
     have hsome : ∃ y,elems[i]? = some y:=⟨elems[i]'(by omega),by simp [hel,hi]⟩
     obtain ⟨y,hy⟩:=hsome
     rw [hy,Option.bind_eq_some_iff] at h1
     obtain ⟨cs',c1,c2⟩:=h1
     unfold World.cells? at c1
     split at c1
     ·obtain ⟨as,l1,l2⟩:=ih _ _ _ _ hs.2 c2
      refine ⟨cs',as,by simpa using mapM_some_length c1,fun j v hj=>?_,l1,l2⟩
      have hjl : j < P.cellsOf e:=by
       have:=(List.getElem?_eq_some_iff.1 hj).1
       rw [mapM_some_length c1] at this
       simpa using this
      have:=mapM_some_get c1 j j (by simp [hjl])
      rw [hj] at this
      exact this
     ·cases c1
    by_cases hz : len = 0
    ·subst hz
     refine ⟨[.sl []],one ?_,by unfold Sh; rw [hu]; exact ⟨[],rfl,by simp,by simp⟩⟩
     unfold RR
     exact ⟨some a,cap,rfl,by simp,.inl rfl⟩
    ·obtain ⟨cs0,as0,q1,q2,_,_⟩:=hcells 0 (by omega)
     have hc0 : ∃ v,cs0[0]? = some v:=⟨cs0[0]'(by omega),by simp [q1,hs.1]⟩
     obtain ⟨v0,hv0⟩:=hc0
     have hcell:=q2 0 v0 hv0
     obtain ⟨b,off,spot⟩:=a
     have hspot : spot = none:=by
      have:=World.cell?_spot hcell
      unfold Addr.add at this
      split at this <;> simp_all
     subst hspot
     simp only [add_plain] at hcells hcell
     obtain ⟨xs,g1,g2,g3⟩:=open_elems (w:=w) (ro:=ro) (Sh P n e) (P.cellsOf e) (fun j=>w.cell? ⟨b,off + j,none⟩) len 0 (fun i hi=>by
      obtain ⟨cs',as,r1,r2,r3,r4⟩:=hcells i hi
      refine ⟨cs',as,r1,fun j v hj=>?_,r3,r4⟩
      have:=r2 j v hj
      rw [<- this]
      simp [Nat.add_assoc])
     refine ⟨[.sl xs],one ?_,by unfold Sh; rw [hu]; exact ⟨xs,rfl,by omega,g3⟩⟩
     unfold RR
     refine ⟨_,cap,by rw [g1],by omega,.inr ⟨b,off,P.cellsOf e,rfl,hro _ _ _ hcell,?_⟩⟩
     simpa using g2
  ·rename_i fs hu
   simp only [baT,beq_iff_eq] at hs
   obtain ⟨xs,m,_,_,hl,hxl,hf⟩:=DataW.trod_struct hu h
   obtain ⟨as,h1,h2⟩:=open_fields (ro:=ro) n ih fs.toList 0 cs hs.1.1 hs.2 (by rw [hl,hs.1.2]; simp) (fun f hfm=>by
    obtain ⟨i,hi⟩:=List.getElem?_of_mem hfm
    have hi' : fs[i]? = some f:=by simpa using hi
    have:=hf i f hi'
    have hlt : i < xs.length:=by
     rw [hxl]
     exact (Array.getElem?_eq_some_iff.1 hi').1
    exact ⟨m,xs[i],by rw [this]; simp [hlt]⟩)
   exact ⟨as,by simpa using h1,by unfold Sh; rw [hu]; exact h2⟩
  ·cases hs
def ShV (P : Program) (n : Nat) (t : TypeId) (a : AV) : Prop :=
 match P.underlying t with
 | some (.struct _)=>∃ as,a = .agg as /\ Sh P n t as
 | _=>Sh P n t [a]
theorem open_arg (hro : ∀ b o v,w.cell? ⟨b,o,none⟩ = some v -> ro b) {n : Nat} {t : TypeId} {v : Value} {d : DataW H} {p : List MemPlace} (hs : shB P n t = true) (h : DataW.Trod enc P w base spare held t v d p) {r : Reach} {base' : Nat} (hok : Value.okWide P w r base' t v) :
  ∃ a,RR w ro a v /\ ShV P n t a:=by
 obtain ⟨fuel,h⟩:=h
 obtain ⟨as,h1,h2⟩:=open_data hro n t _ fuel _ hs h
 unfold ShV
 cases hu : P.underlying t with
 | none=>cases n <;> simp [shB,hu] at hs
 | some ty =>
  cases ty
  case struct fs =>
   simp only
   unfold Value.okWide at hok
   rw [hu] at hok
   obtain ⟨cs,rfl,_⟩:=hok
   exact ⟨.agg as,by unfold RR; exact ⟨cs,rfl,h1⟩,as,rfl,h2⟩
  all_goals
   simp only
   have hok' : Cell.okWide P w r base' t v:=by unfold Value.okWide at hok; rw [hu] at hok; first | exact hok | (cases n <;> simp [shB,hu] at hs)
   have hc : v.cells = #[v]:=by
    cases v <;> first | rfl | (simp [Cell.okWide,Cell.ok,hu] at hok')
   rw [hc] at h1
   match as,h1.length with
   | [a],_ =>
    unfold LR at h1
    exact ⟨a,h1.1,h2⟩
theorem law_post {W W' : World} {f : Func} {s : ChangeSpec} {apart : Bool} {args : Array Value} {ds gs : List (DataW H)} {before : List MemPlace} (hl : laidOutB P = true) (hrd : (f.params.toList.all fun t=>P.readableRec t && decide (t < P.types.size)) = true)
  {tb : TypeId} (hres : f.resultTypes = #[tb]) (hb : P.underlying tb = some .bool) (hW : DataW.Whole enc P f.params.toList s.vars apart W args.toList ds gs before) (hbel : Below W.heap.size W W')
  (hR : (s.fn H (ds ++ gs)).results = [.lit (.bool true)]) (hA : (s.fn H (ds ++ gs)).args = ds) (hV : s.vars = []) (hG : (s.fn H (ds ++ gs)).vars = []) {fresh handsOn : Bool} :
  s.post enc P f apart fresh handsOn false W args (.bool true) W':=by
 obtain ⟨p,q,h1,h2,h3,h4,h5⟩:=hW
 have hlt : ∀ x ∈ p,x.block < W.heap.size:=fun x hx=>h1.lt x hx
 have key : ∀ (ts : List TypeId) (vs : List Value) (ds : List (DataW H)) (p : List MemPlace),(ts.all fun t=>P.readableRec t && decide (t < P.types.size)) = true -> DataW.TrodAll enc P W 0 (fun _=>true) true ts vs ds p -> (∀ x ∈ p,x.block < W.heap.size) ->
   DataW.TrodAll enc P W' 0 (fun b=>decide (b < W.heap.size)) true ts vs ds p:=by
  intro ts
  induction ts with
  | nil =>
   intro vs ds p _ h _
   obtain ⟨rfl,rfl,rfl⟩:=trodAll_nil h
   rfl
  | cons t ts ih =>
   intro vs ds p ha h hlt
   obtain ⟨v,vs1,d,ds1,a,b,rfl,rfl,rfl,g1,g2⟩:=trodAll_cons h
   simp only [List.all_cons,baT,decide_eq_true_eq] at ha
   exact ⟨a,b,Below.trod hl ha.1.1 ha.1.2 g1 hbel (fun x hx=>hlt x (by simp [hx])),ih _ _ _ ha.2 g2 (fun x hx=>hlt x (by simp [hx])),rfl⟩
 refine ⟨ds,gs,before,[],p,[],⟨p,q,h1,h2,h3,h4,h5⟩,?_,?_,?_,hbel.frame _,fun e=>by cases e⟩
 ·rw [hR,hres]
  exact trodAll_cons_mk (p:=[]) (p':=[]) (shut_bool hb _) trodAll_mk0
 ·rw [hA]
  exact key _ _ _ _ hrd h1 hlt
 ·rw [hG,hV]
  rfl
end
theorem law_calls {P : Program} {f : Nat} {fn : Func} {c : Code} (hf : P.funcs[f]? = some fn) (hb : fn.body = some c) (hname : (fn.name == "runtime.NumGoroutine") = false) {as : List AV} (h : PC P false f as (.bool true) []) {W : World} {args : Array Value} (ha : LR W (fun b => b < W.heap.size) as args.toList) (hT : Tab W (fun b => W.heap.size <= b) := by exact True.intro) :
  Calls P f args W fun e w'=>e = .returned (.bool true) /\ Below W.heap.size W w':=by
 have:=(Ans_body hf hname hb).1 (h.run W (fun b=>b < W.heap.size) args.toList ⟨fun _ h=>h,hT⟩ ha)
 refine this.mono fun e w' ⟨v,e1,hdr,e2,e3⟩=>?_
 have hv:=e3.val
 unfold VR at hv
 exact ⟨by rw [e1,hv],e2⟩
theorem roBelow {W : World} : ∀ b o v,W.cell? ⟨b,o,none⟩ = some v -> (fun b=>b < W.heap.size) b:=by
 intro b o v h
 unfold World.cell? at h
 show b < W.heap.size
 cases hb : W.heap[b]? with
 | none=>simp [hb] at h
 | some ob=>exact (Array.getElem?_eq_some_iff.1 hb).1
end Go.Ab
namespace Go.Ab
@[irreducible] def Side (p : Prop) : Prop:=p
theorem side_and {p q : Prop} (h : Side p) (k : q) : p /\ q:=by unfold Side at h; exact ⟨h,k⟩
theorem side_of {p : Prop} (h : p) : Side p:=by unfold Side; exact h
theorem Side.out {p : Prop} (h : Side p) : p:=by unfold Side at h; exact h
theorem LoadK_of {P : Program} {T : TypeId} {cs : List AV} {K : AV -> Prop} {v : AV} (h : takeA P T cs = some v) (h' : cs.all AV.plain = true) (hk : K v) : LoadK P T cs K:=by
 unfold LoadK
 exact ⟨v,h,h',hk⟩
theorem i64_wrap {e : Int} (h : -9223372036854775808 <= e) (h' : e <= 9223372036854775807) : IntKind.i64.wrap e = e:=by
 simp [IntKind.wrap,IntKind.signed,IntKind.bits]
 split <;> omega
theorem i64_wrap_eq (e : Int) : IntKind.i64.wrap e = (e + 9223372036854775808) % 18446744073709551616 - 9223372036854775808:=by
 simp [IntKind.wrap,IntKind.signed,IntKind.bits]
 split <;> omega
end Go.Ab
namespace Go.Ab
def keepE (e : Nat -> AV) (ks : List Nat) : (List (Nat × AV) -> Prop) -> Prop :=
 List.rec (motive:=fun _=>(List (Nat × AV) -> Prop) -> Prop) (fun K=>K []) (fun k _ ih K=>force (e k) fun v=>ih fun l=>K ((k,v) :: l)) ks
theorem keepE_elim {s : St} : ∀ {ks : List Nat} {K : List (Nat × AV) -> Prop},keepE s.env ks K -> ∃ el,EnvAll s el /\ K el
 | [],K,h=>⟨[],trivial,h⟩
 | k :: ks,K,h=>by
  have h' : force (s.env k) fun v=>keepE s.env ks fun l=>K ((k,v) :: l):=h
  rw [force_eq] at h'
  obtain ⟨el,h1,h2⟩:=keepE_elim h'
  exact ⟨(k,s.env k) :: el,⟨rfl,h1⟩,h2⟩
def keepO (o : Nat -> Option AObj) (ids : List Nat) : (List (Nat × AObj) -> Prop) -> Prop :=
 List.rec (motive:=fun _=>(List (Nat × AObj) -> Prop) -> Prop) (fun K=>K []) (fun k _ ih K =>
  match o k with
  | some ob =>
   match ob with
   | ⟨b,ty,esz,es⟩=>ih fun l=>K ((k,⟨b,ty,esz,es⟩) :: l)
  | none=>ih K) ids
theorem keepO_elim {s : St} : ∀ {ids : List Nat} {K : List (Nat × AObj) -> Prop},keepO s.objs ids K -> ∃ ol,ObjAll s ol /\ K ol
 | [],K,h=>⟨[],trivial,h⟩
 | k :: ks,K,h=>by
  have h' : (match s.objs k with
  | some ob =>
   match ob with
   | ⟨b,ty,esz,es⟩=>keepO s.objs ks fun l=>K ((k,⟨b,ty,esz,es⟩) :: l)
  | none=>keepO s.objs ks K):=h
  cases ho : s.objs k with
  | none =>
   simp only [ho] at h'
   exact keepO_elim h'
  | some ob =>
   simp only [ho] at h'
   obtain ⟨ol,h1,h2⟩:=keepO_elim h'
   exact ⟨(k,ob) :: ol,⟨ho,h1⟩,h2⟩
theorem EnvAll.append {s : St} : ∀ {l l' : List (Nat × AV)},EnvAll s l -> EnvAll s l' -> EnvAll s (l ++ l')
 | [],_,_,h'=>h'
 | (_,_) :: _,_,h,h'=>⟨h.1,EnvAll.append h.2 h'⟩
theorem ObjAll.append {s : St} : ∀ {l l' : List (Nat × AObj)},ObjAll s l -> ObjAll s l' -> ObjAll s (l ++ l')
 | [],_,_,h'=>h'
 | (_,_) :: _,_,h,h'=>⟨h.1,ObjAll.append h.2 h'⟩
def headS {J : Type} (mods : J -> List (Nat × AV)) (omods : J -> List (Nat × AObj)) (el : List (Nat × AV)) (ol : List (Nat × AObj)) (z n : Nat) (g : List AV) (j : J) : St :=
 ⟨envOf (mods j ++ el),z,objsOf (omods j ++ ol),n,g⟩
def headOk {J : Type} (mods : J -> List (Nat × AV)) (omods : J -> List (Nat × AObj)) (el : List (Nat × AV)) (ol : List (Nat × AObj)) (g : List AV) (j : J) : Bool :=
 closedE (omods j ++ ol) (mods j ++ el) && closedO (omods j ++ ol) (omods j ++ ol) && closedL (omods j ++ ol) g
@[irreducible] def Again {J : Type} (p : J -> Prop) (mods : J -> List (Nat × AV)) (omods : J -> List (Nat × AObj)) (m : J -> Nat) (j : J) (el : List (Nat × AV)) (ol : List (Nat × AObj)) (z n : Nat) (g : List AV) (s : St) : Prop :=
 (∀ j,headOk mods omods el ol g j = true) -> ∃ j' : {j : J // p j},m j'.1 < m j /\ s.le (headS mods omods el ol z n g j'.1)
theorem Again_of {J : Type} {p : J -> Prop} {mods : J -> List (Nat × AV)} {omods : J -> List (Nat × AObj)} {m : J -> Nat} {j : J} {el : List (Nat × AV)} {ol : List (Nat × AObj)} {z n : Nat} {g : List AV} {s : St} (j' : J)
  (h3 : EnvAll s (mods j')) (h4 : ObjAll s (omods j')) (h5 : EnvAll s el) (h6 : ObjAll s ol) (h7 : s.sz = z) (h8 : s.nxt = n) (h9 : s.gh = g) (h1 : p j') (h2 : m j' < m j) : Again p mods omods m j el ol z n g s:=by
 subst h7 h8 h9
 unfold Again
 exact fun hc=>⟨⟨j',h1⟩,h2,St.le_list (h3.append h5) (h4.append h6) (hc j')⟩
theorem Again_le {J : Type} {p : J -> Prop} {mods : J -> List (Nat × AV)} {omods : J -> List (Nat × AObj)} {m : J -> Nat} {j : J} {el : List (Nat × AV)} {ol : List (Nat × AObj)} {z n : Nat} {g : List AV} {s s' : St} (hle : s.le s') (h : Again p mods omods m j el ol z n g s') : Again p mods omods m j el ol z n g s:=by
 unfold Again at h ⊢
 intro hc
 obtain ⟨j',h1,h2⟩:=h hc
 exact ⟨j',h1,St.le_trans hle h2⟩
theorem Loop_at {body : (Exit -> St -> Prop) -> St -> Prop} {K : Exit -> St -> Prop} {e : Nat -> AV} {z : Nat} {o : Nat -> Option AObj} {n : Nat} {g : List AV} (ks ids : List Nat) (J : Type) (p : J -> Prop) (mods : J -> List (Nat × AV)) (omods : J -> List (Nat × AObj)) (m : J -> Nat) (j0 : J)
  (h0 : EnvAll ⟨e,z,o,n,g⟩ (mods j0)) (h1 : ObjAll ⟨e,z,o,n,g⟩ (omods j0)) (h2 : p j0)
  (h : keepE e ks fun el=>keepO o ids fun ol=>(∀ j,headOk mods omods el ol g j = true) /\
   ∀ j,p j -> body (fun ex s'=>match ex with
    | .normal=>Again p mods omods m j el ol z n g s'
    | ex=>K ex s') ⟨envOf (mods j ++ el),z,objsOf (omods j ++ ol),n,g⟩) : Loop body K ⟨e,z,o,n,g⟩:=by
 obtain ⟨el,he,h⟩:=keepE_elim (s:=⟨e,z,o,n,g⟩) h
 obtain ⟨ol,ho,hcl,h⟩:=keepO_elim (s:=⟨e,z,o,n,g⟩) h
 refine Loop_intro {j : J // p j} (fun j=>headS mods omods el ol z n g j.1) (fun j=>m j.1) ⟨j0,h2⟩ (St.le_list (s:=⟨e,z,o,n,g⟩) (h0.append he) (h1.append ho) (hcl j0)) fun j=>?_
 have hb:=h j.1 j.2
 have e0 : (fun (ex : Exit) (s' : St)=>match ex with
  | .normal=>∃ j' : {j : J // p j},m j'.1 < m j.1 /\ s'.le (headS mods omods el ol z n g j'.1)
  | ex=>K ex s') = (fun ex s'=>match ex with
    | .normal=>Again p mods omods m j.1 el ol z n g s'
    | ex=>K ex s'):=by
  funext ex s'
  cases ex
  case normal=>exact propext ⟨fun h=>by unfold Again; exact fun _=>h,fun h=>by unfold Again at h; exact h hcl⟩
  all_goals rfl
 show body (fun (ex : Exit) (s' : St)=>match ex with
  | .normal=>∃ j' : {j : J // p j},m j'.1 < m j.1 /\ s'.le (headS mods omods el ol z n g j'.1)
  | ex=>K ex s') _
 rw [e0]
 exact hb
theorem Loop_nil {body : (Exit -> St -> Prop) -> St -> Prop} {K : Exit -> St -> Prop} {e : Nat -> AV} {z : Nat} {o : Nat -> Option AObj} {n : Nat} {g : List AV} (t nid ty esz : Nat) (ht : e t = .nil) (hid : o nid = none) (hpos : 0 < esz)
  (h : Loop body K ⟨upd t (.own nid) e,z,fun i=>if i = nid then some ⟨.slc,ty,esz,[]⟩ else o i,n,g⟩) : Loop body K ⟨e,z,o,n,g⟩:=by
 unfold Loop at h ⊢
 obtain ⟨J,I,m,j0,h0,hb⟩:=h
 refine ⟨J,I,m,j0,St.le_trans ?_ h0,hb⟩
 rw [upd_eq]
 exact St.le_promote (s:=⟨e,z,o,n,g⟩) ht hid hpos
theorem OutA_nil {P : Program} {sh : Bool} {rs : List ResultVar} {r : AV} {os : List AObj} {e : Nat -> AV} {z : Nat} {o : Nat -> Option AObj} {n : Nat} {g : List AV} (t nid ty esz : Nat) (ht : e t = .nil) (hid : o nid = none) (hpos : 0 < esz)
  (h : OutA P sh rs r os ⟨upd t (.own nid) e,z,fun i=>if i = nid then some ⟨.slc,ty,esz,[]⟩ else o i,n,g⟩) : OutA P sh rs r os ⟨e,z,o,n,g⟩:=by
 rw [upd_eq] at h
 exact OutA_le (St.le_promote (s:=⟨e,z,o,n,g⟩) ht hid hpos) h
theorem nameB_dec {p : Prop} {d : Decidable p} {K : Bool -> Prop} (h1 : p -> K true) (h2 : ¬ p -> K false) : nameB (@decide p d) K:=by
 cases d with
 | isTrue hp=>exact nameB_true (h1 hp)
 | isFalse hp=>exact nameB_false (h2 hp)
theorem nameB_cases {b : Bool} {K : Bool -> Prop} (h1 : b = true -> K true) (h2 : b = false -> K false) : nameB b K:=by
 cases b with
 | true=>exact nameB_true (h1 rfl)
 | false=>exact nameB_false (h2 rfl)
theorem nameB_yes {b : Bool} {K : Bool -> Prop} (h : b = true) (k : K true) : nameB b K:=nameB_intro fun x hx=>by cases hx; rw [h]; exact k
theorem nameB_no {b : Bool} {K : Bool -> Prop} (h : b = false) (k : K false) : nameB b K:=nameB_intro fun x hx=>by cases hx; rw [h]; exact k
theorem nameB_dyes {p : Prop} {d : Decidable p} {K : Bool -> Prop} (h : p) (k : K true) : nameB (@decide p d) K:=nameB_yes (decide_eq_true h) k
theorem nameB_dno {p : Prop} {d : Decidable p} {K : Bool -> Prop} (h : ¬ p) (k : K false) : nameB (@decide p d) K:=nameB_no (decide_eq_false h) k
theorem nameB_self {b : Bool} {K : Bool -> Prop} (h : K b) : nameB b K:=nameB_intro fun _ hx=>hx ▸ h
theorem i64_next {k : Nat} (h : (k : Int) < 9223372036854775807) : AV.int .i64 (IntKind.i64.wrap ((k : Int) + 1)) = AV.int .i64 ((k + 1 : Nat) : Int):=by
 rw [i64_wrap (by omega) (by omega)]
 congr 1
theorem ix_map {α : Type} {f : α -> List AV} {xs : List α} {n : Int} {Q : List AV -> Prop} (h0 : 0 <= n) (h : n < xs.length) (hQ : ∀ x,xs[n.toNat]? = some x -> Q (f x)) : 0 <= n /\ ∃ y,(xs.map f)[n.toNat]? = some y /\ Q y:=by
 have hlt : n.toNat < xs.length:=by omega
 refine ⟨h0,f xs[n.toNat],by simp [hlt],hQ _ (by simp [hlt])⟩
theorem ix_as {α : Type} {f : α -> List AV} {xs : List α} {n : Int} {m : Nat} {Q : List AV -> Prop} (e : n = (m : Int)) (h : m < xs.length) (hQ : ∀ x,xs[m]? = some x -> Q (f x)) : 0 <= n /\ ∃ y,(xs.map f)[n.toNat]? = some y /\ Q y:=by
 subst e
 exact ix_map (by omega) (by omega) hQ
theorem ix_map2 {p : Prop} {α : Type} {f : α -> List AV} {xs : List α} {n : Int} {Q : List AV -> Prop} (_ : p) (h0 : 0 <= n) (h : n < xs.length) (hQ : ∀ x,xs[n.toNat]? = some x -> Q (f x)) : 0 <= n /\ ∃ y,(xs.map f)[n.toNat]? = some y /\ Q y:=ix_map h0 h hQ
structure Caps (caps : List AV) : Prop where
 same : ∀ s,caps.map (rf s) = caps
 known : ∀ s,caps.all (Ab.known s) = true
 closed : ∀ ol,closedL ol caps = true
 same1 : ∀ s,caps.map (rf1 s) = caps
 known1 : ∀ s,caps.all (Ab.known1 s) = true
def idxF {α : Type} (q : α -> Bool) (k : Nat) : List α -> Int
 | []=>-1
 | x :: xs=>if q x = true then (k : Int) else idxF q (k + 1) xs
theorem idxF_pos {α : Type} {q : α -> Bool} : ∀ {xs : List α} {k : Nat},0 <= idxF q k xs ↔ xs.any q = true
 | [],k=>by simp [idxF]
 | x :: xs,k=>by
  have ih:=idxF_pos (q:=q) (xs:=xs) (k:=k + 1)
  unfold idxF
  by_cases h : q x = true
  ·rw [if_pos h]; simp [h]
  ·rw [if_neg h,ih]; simp [h]
theorem ix_rep {A : List (List AV)} {m : Nat} {z : List AV} {i : Int} {Q : List AV -> Prop} (hA : A.length = i.toNat) (hm : 0 < m) (hQ : Q z) : ∃ e,(A ++ List.replicate m z)[i.toNat]? = some e /\ Q e:=by
 refine ⟨z,?_,hQ⟩
 rw [List.getElem?_append_right (by omega),hA]
 simp [hm]
theorem set_rep {α : Type} {f : α -> List AV} {xs : List α} {k : Nat} {x : α} {z : List AV} (hx : xs[k]? = some x) :
  ((xs.take k).map f ++ List.replicate (xs.length - k) z).set k (f x) = (xs.take (k + 1)).map f ++ List.replicate (xs.length - (k + 1)) z:=by
 obtain ⟨hlt,rfl⟩:=List.getElem?_eq_some_iff.1 hx
 rw [List.set_append_right _ _ (by simp; omega)]
 have e1 : k - ((xs.take k).map f).length = 0:=by simp; omega
 rw [e1,List.take_add_one,List.getElem?_eq_getElem hlt]
 obtain ⟨m,hm⟩ : ∃ m,xs.length - k = m + 1:=⟨xs.length - k - 1,by omega⟩
 have e2 : xs.length - (k + 1) = m:=by omega
 rw [hm,e2,List.replicate_succ]
 simp only [List.set_cons_zero,Option.toList_some,List.map_append,List.map_cons,List.map_nil,List.append_assoc,List.cons_append,List.nil_append]
theorem start_rep {α : Type} {f : α -> List AV} {xs : List α} {z : List AV} : List.replicate ((xs.map f).length : Int).toNat z = (xs.take 0).map f ++ List.replicate (xs.length - 0) z:=by simp
theorem bytes_ok {b : Nat} {n : Int} (hb : b <= 1048576) (h0 : 0 <= n) (hn : n <= 1048576) : (b : Int) * n <= 281474976710656:=by
 have h1 : (b : Int) * n <= 1048576 * n:=Int.mul_le_mul_of_nonneg_right (by omega) h0
 omega
theorem bytes_okN {b n : Nat} (hb : b <= 64) (hn : n <= 1048576) : n * b <= 140737488355328:=by
 have h1 : n * b <= n * 64:=Nat.mul_le_mul_left _ hb
 omega
theorem full_rep {α : Type} {f : α -> List AV} {xs : List α} {k : Nat} {z : List AV} (h : xs.length <= k) : (xs.take k).map f ++ List.replicate (xs.length - k) z = xs.map f:=by
 rw [List.take_of_length_le h,show xs.length - k = 0 by omega]
 simp
theorem flat_map {α : Type} {f : α -> List AV} (h : ∀ x,(f x).all AV.flat = true) : ∀ (xs : List α),(xs.map f).flatten.all AV.flat = true
 | []=>rfl
 | x :: xs=>by
  simp only [List.map_cons,List.flatten_cons,List.all_append,baT]
  exact ⟨h x,flat_map h xs⟩
theorem flat_one {ty esz : Nat} {es : List (List AV)} (h : es.flatten.all AV.flat = true) : ∀ o ∈ [AObj.mk .slc ty esz es],o.elems.flatten.all AV.flat = true:=by
 intro o ho
 simp at ho
 subst ho
 exact h
theorem take_all_eq {α : Type} {xs ys : List α} {k : Nat} (h : xs.take k = ys.take k) (h1 : xs.length <= k) (h2 : ys.length <= k) : xs = ys:=by
 rw [List.take_of_length_le h1,List.take_of_length_le h2] at h
 exact h
theorem take_next {α : Type} {xs ys : List α} {k : Nat} {x y : α} (h : xs.take k = ys.take k) (hx : xs[k]? = some x) (hy : ys[k]? = some y) (e : x = y) : xs.take (k + 1) = ys.take (k + 1):=by
 rw [List.take_add_one,List.take_add_one,h,hx,hy,e]
theorem get_ne {α : Type} {xs ys : List α} {k : Nat} {x y : α} (hx : xs[k]? = some x) (hy : ys[k]? = some y) (e : ¬ x = y) : ¬ xs = ys:=by
 rintro rfl
 rw [hx] at hy
 cases hy
 exact e rfl
theorem len_ne {α : Type} {xs ys : List α} (h : ¬ (xs.length : Int) = ys.length) : ¬ xs = ys:=by
 rintro rfl
 exact h rfl
theorem bool_no {p : Prop} [Decidable p] (h : ¬ p) : AV.bool false = AV.bool (decide p):=by rw [decide_eq_false h]
theorem bool_yes {p : Prop} [Decidable p] (h : p) : AV.bool true = AV.bool (decide p):=by rw [decide_eq_true h]
theorem drop_get {α : Type} {xs : List α} {k : Nat} {x : α} (h : xs[k]? = some x) : xs.drop k = x :: xs.drop (k + 1):=by
 obtain ⟨hlt,rfl⟩:=List.getElem?_eq_some_iff.1 h
 exact List.drop_eq_getElem_cons hlt
theorem take_get {α : Type} {xs : List α} {k : Nat} {x : α} (h : xs[k]? = some x) : xs.take (k + 1) = xs.take k ++ [x]:=by
 rw [List.take_add_one,h]
 rfl
theorem drop_getD {α : Type} {xs : List α} {k : Nat} {d : α} (h : k < xs.length) : xs.drop k = xs.getD k d :: xs.drop (k + 1):=by
 rw [List.drop_eq_getElem_cons h,List.getD_eq_getElem?_getD,List.getElem?_eq_getElem h]
 rfl
theorem ix_map_at {α : Type} {f : α -> List AV} {xs : List α} {k : Nat} {x : α} {Q : List AV -> Prop} (hx : xs[k]? = some x) (hQ : Q (f x)) : 0 <= (k : Int) /\ ∃ y,(xs.map f)[(k : Int).toNat]? = some y /\ Q y :=
 ⟨by omega,f x,by simp [hx],hQ⟩
theorem sl_pre {α : Type} {f : α -> List AV} {xs : List α} {m esz : Nat} {s : St} {d : Option Nat} {K : St -> Prop} (h : m <= xs.length) (hf : ∀ x,(f x).length = esz) (hK : s.putK d (.sl ((xs.take m).map f)) K) :
  (0 <= (0 : Int) /\ (0 : Int) <= (m : Int) /\ (m : Int) <= ((xs.map f).length : Int)) /\ (∀ z ∈ xs.map f,z.length = esz) /\ s.putK d (.sl (((xs.map f).take (m : Int).toNat).drop (0 : Int).toNat)) K:=by
 refine ⟨⟨by omega,by omega,by simp; omega⟩,fun z hz=>?_,?_⟩
 ·obtain ⟨x,_,rfl⟩:=List.mem_map.1 hz
  exact hf x
 ·rw [List.map_take] at hK
  exact hK
theorem sl_suf {α : Type} {f : α -> List AV} {xs : List α} {m esz : Nat} {s : St} {d : Option Nat} {K : St -> Prop} (h : m <= xs.length) (hf : ∀ x,(f x).length = esz) (hK : s.putK d (.sl ((xs.drop m).map f)) K) :
  (0 <= (m : Int) /\ (m : Int) <= ((xs.map f).length : Int) /\ ((xs.map f).length : Int) <= ((xs.map f).length : Int)) /\ (∀ z ∈ xs.map f,z.length = esz) /\ s.putK d (.sl (((xs.map f).take ((xs.map f).length : Int).toNat).drop (m : Int).toNat)) K:=by
 refine ⟨⟨by omega,by simp; omega,by omega⟩,fun z hz=>?_,?_⟩
 ·obtain ⟨x,_,rfl⟩:=List.mem_map.1 hz
  exact hf x
 ·rw [List.map_drop] at hK
  rw [Int.toNat_natCast,Int.toNat_natCast,List.take_length]
  exact hK
def byteIdx (l : List UInt8) (c : UInt8) : Int:=firstIdx ⟨l.toArray⟩ c
theorem byteIdx_neg {l : List UInt8} {c : UInt8} : byteIdx l c < 0 ↔ l.any (fun b=>b == c) = false:=by
 unfold byteIdx firstIdx
 have hsz : (ByteArray.mk l.toArray).size = l.length:=by simp [ByteArray.size]
 have hget : ∀ i,i < l.length -> (ByteArray.mk l.toArray)[i]! = l.getD i 0:=by
  intro i hi
  have h1 : i < (ByteArray.mk l.toArray).size:=by rw [hsz]; exact hi
  rw [getElem!_pos _ i h1,List.getD_eq_getElem?_getD,List.getElem?_eq_getElem hi]
  rfl
 split
 ·rename_i i h
  have h1:=List.find?_some h
  have h2:=List.mem_of_find?_eq_some h
  rw [hsz,List.mem_range] at h2
  rw [hget i h2] at h1
  constructor
  ·intro h; omega
  ·intro h3
   exfalso
   rw [List.any_eq_false] at h3
   have hm : l.getD i 0 ∈ l:=by
    rw [List.getD_eq_getElem?_getD,List.getElem?_eq_getElem h2]
    exact List.getElem_mem h2
   exact h3 _ hm h1
 ·rename_i h
  refine ⟨fun _=>?_,fun _=>by omega⟩
  rw [List.find?_eq_none] at h
  rw [List.any_eq_false]
  intro b hb
  obtain ⟨i,hi,rfl⟩:=List.getElem_of_mem hb
  have:=h i (by rw [hsz,List.mem_range]; exact hi)
  rw [hget i hi,List.getD_eq_getElem?_getD,List.getElem?_eq_getElem hi] at this
  exact this
theorem run_byteIdx {P : Program} {l : List UInt8} {c : UInt8} (w : World) : (Extern.BytealgIndexByte.indexByte #[.string ⟨l.toArray⟩,.int .u8 (c.toNat : Int)]).run P w = .ok (.int .i64 (byteIdx l c)) w:=by
 rw [run_indexByte_string]
 unfold byteIdx
 simp
theorem LR_two {w : World} {ro : Nat -> Prop} {a b : AV} {vals : List Value} (h : LR w ro [a,b] vals) : ∃ v u,vals = [v,u] /\ RR w ro a v /\ RR w ro b u:=by
 match vals,h with
 | [],h=>unfold LR at h; exact h.elim
 | [v],h=>unfold LR at h; have h2:=h.2; unfold LR at h2; exact h2.elim
 | [v,u],h=>unfold LR at h; have h2:=h.2; unfold LR at h2; exact ⟨v,u,rfl,h.1,h2.1⟩
 | v :: u :: x :: l,h=>unfold LR at h; have h2:=h.2; unfold LR at h2; have h3:=h2.2; unfold LR at h3; exact h3.elim
theorem pc_indexByte {P : Program} {f : Nat} {fn : Func} (hf : P.funcs[f]? = some fn) (hname : (fn.name == "runtime.NumGoroutine") = false) (hb : fn.body.isNone = true) (hn : Extern.findNext fn = none) (he : Extern.find fn = some Extern.BytealgIndexByte.indexByte) (l : List UInt8) (c : UInt8) :
  PC P false f [.str l,.int .u8 (c.toNat : Int)] (.int .i64 (byteIdx l c)) []:=by
 refine pc_ext hf hname hb hn he fun w ro vals h=>?_
 obtain ⟨v,u,rfl,h1,h2⟩:=LR_two h
 unfold RR at h1 h2
 subst h1 h2
 exact ⟨_,run_byteIdx w,fun c=>by unfold VR; rfl⟩
theorem bl_leq : ∀ (x y : List UInt8),(Op.bytesLess x y || x == y) = !Op.bytesLess y x
 | [],[]=>by simp [Op.bytesLess]
 | [],b :: y=>by simp [Op.bytesLess]
 | a :: x,[]=>by simp [Op.bytesLess]
 | a :: x,b :: y=>by
  have ih:=bl_leq x y
  simp only [Op.bytesLess]
  rcases Nat.lt_trichotomy a.toNat b.toNat with h | h | h
  ·have h1 : a < b:=h
   have h2 : ¬ b < a:=fun hc=>absurd (UInt8.lt_iff_toNat_lt.1 hc) (by omega)
   have h3 : ¬ a = b:=by rintro rfl; omega
   have h4 : ¬ b = a:=fun e=>h3 e.symm
   simp [h1,h2,h4]
  ·have h3 : a = b:=UInt8.toNat_inj.1 h
   subst h3
   simpa using ih
  ·have h1 : b < a:=h
   have h2 : ¬ a < b:=fun hc=>absurd (UInt8.lt_iff_toNat_lt.1 hc) (by omega)
   have h3 : ¬ a = b:=by rintro rfl; omega
   simp [h1,h2,h3]
theorem fact_byte {a b : UInt8} : ((a.toNat : Int) = b.toNat) ↔ a = b:=by
 rw [Int.natCast_inj,UInt8.toNat_inj]
theorem CallDF {P : Program} {f : Nat} {args args' : List AV} {ro kn : Bool} {nid : Nat} {K : AV -> List AObj -> Prop} {r : AV} {os : List AObj} (hpc : PC P false f args' r os) (he : args = args') (hk : kn = true) (hr : r.fine true os.length = true /\ os.all (fun o=>!o.box) = true)
  (h : nameV (r.shift nid) fun v=>K v os) : CallD P f args ro kn nid K:=by
 unfold CallD
 exact ⟨false,r,os,by rw [he]; exact hpc,(fun e=>by cases e),hk,hr,h⟩
theorem CallDT {P : Program} {f : Nat} {args args' : List AV} {ro kn : Bool} {nid : Nat} {K : AV -> List AObj -> Prop} {r : AV} {os : List AObj} (hpc : PC P true f args' r os) (he : args = args') (hk : kn = true) (hro : ro = true) (hr : r.fine true os.length = true /\ os.all (fun o=>!o.box) = true)
  (h : nameV (r.shift nid) fun v=>K v os) : CallD P f args ro kn nid K:=by
 unfold CallD
 exact ⟨true,r,os,by rw [he]; exact hpc,fun _=>hro,hk,hr,h⟩
theorem CallD0 {P : Program} {f : Nat} {args args' : List AV} {ro kn : Bool} {nid : Nat} {K : AV -> List AObj -> Prop} {r : AV} (hpc : PC P false f args' r []) (he : args = args') (hk : kn = true) (hr : r.fine true 0 = true)
  (h : nameV (r.shift nid) fun v=>K v []) : CallD P f args ro kn nid K:=CallDF hpc he hk ⟨hr,rfl⟩ h
end Go.Ab
namespace Go.Ab
def intC (n : Int) : List AV:=[.int .i64 n]
def strC (l : List UInt8) : List AV:=[.str l]
def sC {α : Type} (f : α -> List AV) (xs : List α) : List AV:=[.sl (xs.map f)]
def okT {α : Type} (_ : α) : Prop:=True
def okS (l : List UInt8) : Prop:=l.length <= 9223372036854775807
def okL {α : Type} (p : α -> Prop) (xs : List α) : Prop:=xs.length <= 9223372036854775807 /\ ∀ x ∈ xs,p x
section
variable {P : Program}
theorem open_list {α : Type} {f : α -> List AV} {p : α -> Prop} {t e : TypeId} (u : P.underlying t = some (.slice e)) (hf : ∀ n cs,Sh P n e cs -> ∃ x : α,cs = f x /\ p x) : ∀ n cs,Sh P n t cs -> ∃ xs : List α,cs = sC f xs /\ okL p xs:=by
 intro n cs h
 cases n with
 | zero=>unfold Sh at h; exact h.elim
 | succ n =>
  unfold Sh at h
  rw [u] at h
  obtain ⟨ys,rfl,hl,hy⟩:=h
  have key : ∀ ys : List (List AV),(∀ y ∈ ys,Sh P n e y) -> ∃ xs : List α,ys = xs.map f /\ ∀ x ∈ xs,p x:=by
   intro ys
   induction ys with
   | nil=>exact fun _=>⟨[],rfl,by simp⟩
   | cons y ys ih =>
    intro h
    obtain ⟨x,rfl,hp⟩:=hf n y (h y (by simp))
    obtain ⟨xs,rfl,hps⟩:=ih fun z hz=>h z (by simp [hz])
    exact ⟨x :: xs,rfl,fun z hz=>by rcases List.mem_cons.1 hz with rfl | hz; exact hp; exact hps z hz⟩
  obtain ⟨xs,rfl,hp⟩:=key ys hy
  exact ⟨xs,rfl,by simpa [maxLen] using hl,hp⟩
theorem openV_list {α : Type} {f : α -> List AV} {p : α -> Prop} {t e : TypeId} (u : P.underlying t = some (.slice e)) (hf : ∀ n cs,Sh P n e cs -> ∃ x : α,cs = f x /\ p x) {n : Nat} {a : AV} (h : ShV P n t a) : ∃ xs : List α,a = .sl (xs.map f) /\ okL p xs:=by
 unfold ShV at h
 rw [u] at h
 obtain ⟨x,e,hx⟩:=open_list u hf n _ h
 simp only [sC,List.cons.injEq,and_true] at e
 exact ⟨x,e,hx⟩
end
def wL {α : Type} (w : α -> Nat) (xs : List α) : Nat:=xs.length + (xs.map w).sum
theorem sum_end {α : Type} (w : α -> Nat) {xs : List α} {k : Nat} (h : xs.length <= k) : ((xs.drop k).map w).sum = 0:=by
 rw [List.drop_eq_nil_of_le h]
 rfl
theorem wL_mem {α : Type} {w : α -> Nat} {xs : List α} {x : α} (h : x ∈ xs) : xs.length <= wL w xs /\ w x <= wL w xs:=by
 refine ⟨by unfold wL; omega,?_⟩
 induction xs with
 | nil=>simp at h
 | cons y ys ih =>
  simp only [wL,List.map_cons,List.sum_cons,List.length_cons] at ih ⊢
  rcases List.mem_cons.1 h with rfl | h
  ·omega
  ·have:=ih h
   omega
theorem wL_len {α : Type} {w : α -> Nat} {xs : List α} : xs.length <= wL w xs:=by unfold wL; omega
def allPre {α : Type} (q : List α -> α -> Bool) (pre : List α) : List α -> Bool
 | []=>true
 | x :: xs=>q pre x && allPre q (pre ++ [x]) xs
section
variable {α : Type} {q : List α -> α -> Bool} {xs : List α} {k : Nat} {x : α} {B : Bool}
theorem allPre_bad (h : allPre q (xs.take k) (xs.drop k) = B) (hx : xs[k]? = some x) (hq : q (xs.take k) x = false) : B = false:=by
 rw [drop_get hx] at h
 simp only [allPre,hq,Bool.false_and] at h
 exact h.symm
theorem allPre_go (h : allPre q (xs.take k) (xs.drop k) = B) (hx : xs[k]? = some x) (hq : q (xs.take k) x = true) : allPre q (xs.take (k + 1)) (xs.drop (k + 1)) = B:=by
 rw [drop_get hx] at h
 simp only [allPre,hq,Bool.true_and] at h
 rw [take_get hx]
 exact h
theorem allPre_end (h : allPre q (xs.take k) (xs.drop k) = B) (hk : ¬ (k : Int) < xs.length) : B = true:=by
 rw [List.drop_eq_nil_of_le (by omega)] at h
 exact h.symm
end
section
variable {α : Type} {q : α -> Bool} {xs : List α} {k : Nat} {x : α} {B : Bool}
theorem all_bad (h : (xs.drop k).all q = B) (hx : xs[k]? = some x) (hq : q x = false) : B = false:=by
 rw [drop_get hx,List.all_cons,hq,Bool.false_and] at h
 exact h.symm
theorem all_go (h : (xs.drop k).all q = B) (hx : xs[k]? = some x) (hq : q x = true) : (xs.drop (k + 1)).all q = B:=by
 rw [drop_get hx,List.all_cons,hq,Bool.true_and] at h
 exact h
theorem all_end (h : (xs.drop k).all q = B) (hk : ¬ (k : Int) < xs.length) : B = true:=by
 rw [List.drop_eq_nil_of_le (by omega)] at h
 exact h.symm
end
end Go.Ab
namespace Go.Ab
def backK (ks : List Nat) : List AV -> List (Nat × AV) -> (List (Nat × AV) -> List AV -> Prop) -> Prop :=
 List.rec (motive:=fun _=>List AV -> List (Nat × AV) -> (List (Nat × AV) -> List AV -> Prop) -> Prop) (fun g acc K=>K acc g) (fun k _ ih g acc K =>
  match g with
  | []=>False
  | x :: gs=>force x fun x=>ih gs ((k,x) :: acc) K) ks
theorem backK_elim {c : Ctx} {a : Act} {gv : List Value} : ∀ {ks : List Nat} {g : List AV} {acc : List (Nat × AV)} {K : List (Nat × AV) -> List AV -> Prop},backK ks g acc K -> VL c g (ks.map (fun k=>a.eval (.tmp k)) ++ gv) -> (∀ k x,(k,x) ∈ acc -> VR c x (a.eval (.tmp k))) ->
  ∃ el gs,K el gs /\ (∀ k x,(k,x) ∈ el -> VR c x (a.eval (.tmp k))) /\ VL c gs gv
 | [],g,acc,K,h,hv,ha=>⟨acc,g,h,ha,by simpa using hv⟩
 | k :: ks,[],acc,K,h,_,_=>h.elim
 | k :: ks,x :: gs,acc,K,h,hv,ha=>by
  have h' : force x fun x=>backK ks gs ((k,x) :: acc) K:=h
  rw [force_eq] at h'
  simp only [List.map_cons,List.cons_append] at hv
  unfold VL at hv
  refine backK_elim h' hv.2 fun k' x' hm=>?_
  rcases List.mem_cons.1 hm with e | hm
  ·cases e; exact hv.1
  ·exact ha k' x' hm
theorem envOf_mem : ∀ (el : List (Nat × AV)) (t : Nat),envOf el t = .any \/ (t,envOf el t) ∈ el
 | [],_=>.inl rfl
 | (k,v) :: l,t=>by
  unfold envOf
  by_cases e : t = k
  ·subst e; simp
  ·rw [if_neg e]
   rcases envOf_mem l t with h | h
   ·exact .inl h
   ·exact .inr (List.mem_cons_of_mem _ h)
@[irreducible] def RetI (P : Program) (rs : List ResultVar) (ks : List Nat) (z n : Nat) (d : Option Nat) (K : St -> Prop) (s' : St) : Prop :=
 ∃ v,resA P s' rs = some v /\ backK ks s'.gh [] fun el gs=>St.putN ⟨envOf el,z,s'.objs,n,gs⟩ d v K
theorem RetI_of {P : Program} {rs : List ResultVar} {ks : List Nat} {z n : Nat} {d : Option Nat} {K : St -> Prop} {s' : St} {v : AV} (h : resA P s' rs = some v) (h2 : backK ks s'.gh [] fun el gs=>St.putN ⟨envOf el,z,s'.objs,n,gs⟩ d v K) : RetI P rs ks z n d K s':=by
 unfold RetI
 exact ⟨v,h,h2⟩
def keepV (e : Nat -> AV) (ks : List Nat) : (List AV -> Prop) -> Prop :=
 List.rec (motive:=fun _=>(List AV -> Prop) -> Prop) (fun K=>K []) (fun k _ ih K=>force (e k) fun v=>ih fun l=>K (v :: l)) ks
theorem keepV_eq {e : Nat -> AV} : ∀ {ks : List Nat} {K : List AV -> Prop},keepV e ks K -> K (ks.map e)
 | [],K,h=>h
 | k :: ks,K,h=>by
  have h' : force (e k) fun v=>keepV e ks fun l=>K (v :: l):=h
  rw [force_eq] at h'
  exact keepV_eq (ks:=ks) (K:=fun l=>K (e k :: l)) h'
theorem VL.envs {F : Nat -> Prop} {w0 : Base} {gv : List Value} {s : St} {a : Act} {w : World} {hdr : Nat -> Hdr} (h : Sim F w0 gv s a w hdr) : ∀ ks : List Nat,VL (s.ctx F w hdr) (ks.map s.env) (ks.map fun k=>a.eval (.tmp k))
 | []=>VL.nil
 | k :: ks=>VL.cons (h.env k) (VL.envs h ks)
theorem CallI {P : Program} {f : Nat} {fn : Func} {c : Code} (hf : P.funcs[f]? = some fn) (hb : fn.body = some c) (hname : (fn.name == "runtime.NumGoroutine") = false) {args : List AV} {e : Nat -> AV} {z : Nat} {o : Nat -> Option AObj} {n : Nat} {g : List AV} {nid : Nat} {d : Option Nat} {K : St -> Prop} (off : Nat) (ks : List Nat) (z' : Nat) (rs : List ResultVar)
  (hz : args.length + (fn.ntmps - args.length) = z') (hr : fn.results.toList = rs)
  (h : keepV e ks fun gl=>codeA P c (fun ex s'=>match ex with
   | .normal=>RetI P rs ks z n d K s'
   | .ret=>RetI P rs ks z n d K s'
   | _=>False) ⟨fun t=>args.getD t .any,z',o,n + off,gl ++ g⟩) : CallA P f args ⟨e,z,o,n,g⟩ nid d K:=by
 subst hr hz
 have h:=keepV_eq h
 unfold CallA
 refine .inl fun F w0 gv a w hdr hs vals hargs=>(Ans_body hf hname hb).2 ?_
 have hlen:=hargs.length
 have hs' : SimE F w0 (ks.map (fun k=>a.eval (.tmp k)) ++ gv) ⟨fun t=>args.getD t .any,args.length + (fn.ntmps - args.length),o,n + off,ks.map e ++ g⟩ { tmps:=vals.toArray ++ Array.replicate (fn.ntmps - vals.toArray.size) undef,defers:=[] } w:=by
  refine ⟨hdr,fun t=>?_,?_,rfl,(VL.envs hs ks).append hs.gh,hs.objs,hs.dis,hs.below,hs.free⟩
  ·cases ha : args[t]? with
   | none =>
    show VR _ (args.getD t .any) _
    rw [List.getD_eq_getElem?_getD,ha]; unfold VR; trivial
   | some x =>
    obtain ⟨v,e1,e2⟩:=hargs.get t x ha
    have hlt : t < vals.length:=(List.getElem?_eq_some_iff.1 e1).1
    show VR _ (args.getD t .any) _
    rw [List.getD_eq_getElem?_getD,ha]
    have hev : Act.eval { tmps:=vals.toArray ++ Array.replicate (fn.ntmps - vals.toArray.size) undef,defers:=[] } (.tmp t) = v:=by
     simp only [Act.eval,Array.getD_eq_getD_getElem?]
     rw [Array.getElem?_append_left (by simpa using hlt)]
     simp [e1]
    rw [hev]
    exact e2
  ·simp [hlen]
 refine calls_of_wp hf hb (codeA_ok c _ _ h _ w0 _ _ w hs' _ ?_)
 intro ex s' a' w' hk ⟨hdr',hsim⟩
 have main : RetI P fn.results.toList ks z n d K s' -> a'.defers = [] /\ ∃ v,(results fn a'.tmps).run P w' = .ok v w' /\ ∃ v',Ending.returned v = .returned v' /\ ∃ s'',K s'' /\ SimE F w0 gv s'' (a.put d v') w':=by
  intro hret
  unfold RetI at hret
  obtain ⟨v,hres,hback⟩:=hret
  obtain ⟨u,q1,q2⟩:=resA_ok hsim hres
  obtain ⟨el,gs,hput,hel,hgs⟩:=backK_elim (a:=a) hback hsim.gh (fun k x hm=>by cases hm)
  obtain ⟨k1,k2⟩:=putK_elim (putN_elim hput)
  have hsim2 : Sim F w0 gv ⟨envOf el,z,s'.objs,n,gs⟩ a w' hdr':=by
   refine ⟨fun t=>?_,hs.sz,hs.defers,hgs,hsim.objs,hsim.dis,hsim.below,hsim.free⟩
   rcases envOf_mem el t with hany | hm
   ·show VR _ (envOf el t) _
    rw [hany]; unfold VR; trivial
   ·exact hel t _ hm
  exact ⟨hsim.defers,u,q1,u,rfl,_,k2,hdr',hsim2.put k1 q2⟩
 cases ex <;> simp only at hk
 case normal=>exact main hk
 case ret=>exact main hk
theorem VL.setAt {c : Ctx} : ∀ {as : List AV} {vs : List Value} {j : Nat} {x : AV} {v : Value},VL c as vs -> vs[j]? = some v -> VR c x v -> VL c (as.set j x) vs
 | [],[],_,_,_,_,h,_=>by simp at h
 | a :: as,u :: vs,0,x,v,h,hv,hx=>by
  simp at hv
  subst hv
  unfold VL at h
  exact VL.cons hx h.2
 | a :: as,u :: vs,j + 1,x,v,h,hv,hx=>by
  unfold VL at h
  simp at hv
  exact VL.cons h.1 (VL.setAt h.2 hv hx)
 | [],_ :: _,_,_,_,h,_,_=>by unfold VL at h; exact h.elim
 | _ :: _,[],_,_,_,h,_,_=>by unfold VL at h; exact h.elim
theorem St.le_promoteB {s : St} {id nid ty esz j : Nat} {tb eb : Nat} {cells : List AV} (ho : s.objs id = some ⟨.box,tb,eb,[cells]⟩) (hj : cells[j]? = some .nil) (hid : s.objs nid = none) (hpos : 0 < esz) :
  s.le { s with objs:=fun i=>if i = nid then some ⟨.slc,ty,esz,[]⟩ else if i = id then some ⟨.box,tb,eb,[cells.set j (.own nid)]⟩ else s.objs i }:=by
 intro F w0 gv a w ⟨hdr,h⟩
 have hne : id ≠ nid:=fun e=>by rw [e,hid] at ho; cases ho
 obtain ⟨k2,k3,kn,cs,k4,k5,k6⟩:=h.objs id _ ho
 obtain ⟨k6,kf⟩:=k6.box rfl
 simp only [List.flatten_cons,List.flatten_nil,List.append_nil] at k6
 obtain ⟨v,v1,v2⟩:=k6.get j _ hj
 unfold VR at v2
 obtain ⟨b0,rfl⟩:=v2
 have hl:=h.laid (o:=⟨.slc,ty,esz,[]⟩) (v:=⟨.slice b0 0 0,[]⟩) (w':=w) hid ⟨rfl,rfl,rfl,Nat.le_refl _,fun _ _=>rfl⟩ ⟨hpos,by simp,nd_nil,[],⟨by simp,.inl ⟨b0,rfl,rfl⟩⟩,by simp,CellsR_slc rfl (by simp only [List.flatten_nil]; unfold LR; trivial)⟩
 generalize hh : (fun i=>if i = nid then (⟨.slice b0 0 0,[]⟩ : Hdr) else hdr i) = hdr1 at hl
 have hd1 : (hdr1 nid).v = .slice b0 0 0:=by rw [<- hh]; simp
 have hd2 : hdr1 id = hdr id:=by rw [<- hh]; simp [hne]
 generalize hs1 : ({ s with objs:=fun i=>if i = nid then some (⟨.slc,ty,esz,[]⟩ : AObj) else s.objs i } : St) = s1 at hl
 have ho1 : s1.objs id = some ⟨.box,tb,eb,[cells]⟩:=by rw [<- hs1]; simp [hne,ho]
 have hn1 : s1.objs nid = some ⟨.slc,ty,esz,[]⟩:=by rw [<- hs1]; simp
 have hobj : ∀ i,({ s with objs:=fun i=>if i = nid then some ⟨.slc,ty,esz,[]⟩ else if i = id then some ⟨.box,tb,eb,[cells.set j (.own nid)]⟩ else s.objs i } : St).objs i = if i = id then some ⟨.box,tb,eb,[cells.set j (.own nid)]⟩ else s1.objs i:=by
  intro i
  rw [<- hs1]
  by_cases e1 : i = nid
  ·subst e1; simp [Ne.symm hne]
  ·by_cases e2 : i = id
   ·subst e2; simp [hne]
   ·simp [e1,e2]
 generalize hs2 : ({ s with objs:=fun i=>if i = nid then some ⟨.slc,ty,esz,[]⟩ else if i = id then some ⟨.box,tb,eb,[cells.set j (.own nid)]⟩ else s.objs i } : St) = s2
 have hobj : ∀ i,s2.objs i = if i = id then some ⟨.box,tb,eb,[cells.set j (.own nid)]⟩ else s1.objs i:=by rw [<- hs2]; exact hobj
 have henv : s2.env = s1.env /\ s2.sz = s1.sz /\ s2.gh = s1.gh:=by rw [<- hs1,<- hs2]; exact ⟨rfl,rfl,rfl⟩
 have hO : ∀ i o,s1.objs i = some o -> ∃ o',s2.objs i = some o' /\ o'.esz = o.esz /\ (hdr1 i).v = (hdr1 i).v:=by
  intro i o hi
  by_cases e2 : i = id
  ·subst e2
   rw [ho1] at hi
   cases hi
   exact ⟨⟨.box,tb,eb,[cells.set j (.own nid)]⟩,by rw [hobj,if_pos rfl],rfl,rfl⟩
  ·exact ⟨o,by rw [hobj,if_neg e2]; exact hi,rfl,rfl⟩
 have hC:=cel_keep (c:=s1.ctx F w hdr1) (c':=s2.ctx F w hdr1) hO (fun i o o' sh q1 q2 q3=>by
  replace q1 : s1.objs i = some o:=q1
  replace q2 : s2.objs i = some o':=q2
  rw [hobj] at q2
  by_cases e2 : i = id
  ·subst e2
   rw [ho1] at q1
   cases q1
   cases q3
  ·rw [if_neg e2,q1] at q2
   cases q2; rfl) (fun i o b j _ _=>rfl)
 have hQ : ∀ i o,s1.objs i = some o -> ∃ o',s2.objs i = some o' /\ o'.esz = o.esz /\ (hdr1 i).v = (hdr1 i).v /\ o'.box = o.box:=by
  intro i o hi
  by_cases e2 : i = id
  ·subst e2
   rw [ho1] at hi
   cases hi
   exact ⟨⟨.box,tb,eb,[cells.set j (.own nid)]⟩,by rw [hobj,if_pos rfl],rfl,rfl,rfl⟩
  ·exact ⟨o,by rw [hobj,if_neg e2]; exact hi,rfl,rfl,rfl⟩
 refine ⟨hdr1,hl.recast (s':=s2) (hdr':=hdr1) (so:=fun i=>.own i) (sp:=fun i x y=>.ptr i x y) (sc:=fun i x y z=>.cel i x y z) (fun _=>False) (fun i=>i = id) rfl rfl rfl (Nat.le_refl _) (fun _ _ _=>rfl) (fun _ h=>h.elim)
  (fun t=>by rw [henv.1]; exact (AV.sub_id _).symm) henv.2.1 (by rw [henv.2.2]; exact (AV.subL_id _).symm) ?_ (own_keep (c:=s1.ctx F w hdr1) (c':=s2.ctx F w hdr1) hO) (ptr_keep (c:=s1.ctx F w hdr1) (c':=s2.ctx F w hdr1) hO) hC (prt_own (c:=s1.ctx F w hdr1) (c':=s2.ctx F w hdr1) hQ) ?_ ?_ ?_⟩
 ·intro i o b hi hb
  rw [hobj] at hi
  by_cases e2 : i = id
  ·rw [e2] at hb
   exact .inl ⟨id,_,ho1,hb⟩
  ·rw [if_neg e2] at hi
   exact .inl ⟨i,o,hi,hb⟩
 ·intro i o hi hc
  rw [hobj,if_neg hc] at hi
  exact ⟨o,hi,(subO_id o).symm,rfl,fun _ _ h=>h⟩
 ·intro hR i o hi hc
  subst hc
  rw [hobj,if_pos rfl] at hi
  cases hi
  obtain ⟨m2,m3,mn,cs1,m4,m5,m6⟩:=hl.objs i _ ho1
  obtain ⟨m6,mf⟩:=m6.box rfl
  have hcc : cs1 = cs:=by
   rw [hd2] at m4
   exact OwnR.uniq m4 k4
  subst hcc
  refine ⟨m2,fun e he=>?_,mn,cs1,m4,m5,?_⟩
  ·simp at he
   subst he
   have:=m3 cells (by simp)
   simpa using this
  ·rw [mf]
   refine CellsR_box rfl ?_
   simp only [List.flatten_cons,List.flatten_nil,List.append_nil] at m6 ⊢
   have m7:=VL.mono (c:=s1.ctx F w hdr1) (c':=s2.ctx F w hdr1) hR hC (prt_keep (c:=s1.ctx F w hdr1) (c':=s2.ctx F w hdr1) hQ) hO _ _ m6
   refine VL.setAt m7 v1 ?_
   unfold VR
   refine ⟨?_,hd1.symm⟩
   show (s2.objs nid).isSome = true
   rw [hobj,if_neg (Ne.symm hne),hn1]
   rfl
 ·intro i i' o o' b hi hi' bi bi'
  have pick : ∀ i o,s2.objs i = some o -> ∃ o1,s1.objs i = some o1:=by
   intro i o hi
   rw [hobj] at hi
   by_cases e2 : i = id
   ·subst e2; exact ⟨_,ho1⟩
   ·rw [if_neg e2] at hi; exact ⟨o,hi⟩
  obtain ⟨p,hp⟩:=pick i o hi
  obtain ⟨p',hp'⟩:=pick i' o' hi'
  exact hl.dis i i' p p' b hp hp' bi bi'
theorem OutA_nilB {P : Program} {sh : Bool} {rs : List ResultVar} {r : AV} {os : List AObj} {e : Nat -> AV} {z : Nat} {o : Nat -> Option AObj} {n : Nat} {g : List AV} (id nid ty esz j : Nat) {tb eb : Nat} {cells : List AV} (ho : o id = some ⟨.box,tb,eb,[cells]⟩) (hj : cells[j]? = some .nil) (hid : o nid = none) (hpos : 0 < esz)
  (h : OutA P sh rs r os ⟨e,z,fun i=>if i = nid then some ⟨.slc,ty,esz,[]⟩ else if i = id then some ⟨.box,tb,eb,[cells.set j (.own nid)]⟩ else o i,n,g⟩) : OutA P sh rs r os ⟨e,z,o,n,g⟩ :=
 OutA_le (St.le_promoteB (s:=⟨e,z,o,n,g⟩) ho hj hid hpos) h
end Go.Ab
namespace Go.Ab
def markList {α : Type} (c : Int) (f : Int -> α) (k : Int) (n : Nat) : List α:=(List.range n).map fun i : Nat=>f (k + c * (i : Int))
section
variable {α : Type} {c k : Int} {f : Int -> α} {C : α -> List AV} {xs : List α} {i n : Nat} {x : α}
theorem markList_length : (markList c f k n).length = n:=by simp [markList]
end
theorem map_len {α : Type} {f : α -> List AV} {xs : List α} {n : Nat} (h : ∀ x,(f x).length = n) : ∀ z ∈ xs.map f,z.length = n:=fun z hz=>by
 obtain ⟨x,_,rfl⟩:=List.mem_map.1 hz
 exact h x
theorem map_one {α : Type} {f : α -> List AV} (h : ∀ x,(f x).all AV.one = true) : ∀ xs : List α,(xs.map f).flatten.all AV.one = true
 | []=>rfl
 | x :: xs=>by
  simp only [List.map_cons,List.flatten_cons,List.all_append,baT]
  exact ⟨h x,map_one h xs⟩
theorem map_nil_of {α : Type} {f : α -> List AV} {xs : List α} (h : (xs.map f).length = 0) : xs.map f = []:=List.length_eq_zero_iff.1 h
end Go.Ab
