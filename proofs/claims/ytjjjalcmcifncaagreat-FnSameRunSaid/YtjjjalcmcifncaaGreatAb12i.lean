/-
  Regions that draw their order: the order of the text serves every order (without the heap).
  No condition: definitions and lemmas over any program.
-/
import Derived.Test.YtjjjalcmcifncaaGreatAb12h
import Derived.Orders
import Derived.Still
namespace Go.Ab
open Go.RowKit
section
variable {P : Program} {L : List Oper} {base : Nat}
def wpAnyW (P : Program) (L : List Oper) (base : Nat) (Q : St -> Prop) : Nat -> Array Bool -> St -> Prop
 | 0,listed,s=>Region.ready .any L.toArray listed = [] /\ Q s
 | fuel + 1,listed,s=>(Region.ready .any L.toArray listed = [] -> Q s) /\
  ∀ i ∈ Region.ready .any L.toArray listed,stepW P L base i (wpAnyW P L base Q fuel (listed.setIfInBounds i true)) s
def MemOk (L : List Oper) : Prop:=∀ (j : Nat) o,L[j]? = some o -> memC o.op <= 2 /\ (o.guard.isSome = true -> memC o.op ≠ 2)
theorem stepW_mono (hm : MemOk L) {i : Nat} {s : St} {K K' : St -> Prop} (h : ∀ s,K s -> K' s) (hh : stepW P L base i K s) : stepW P L base i K' s:=by
 unfold stepW at hh ⊢
 split
 ·rename_i hi; simp only [hi] at hh; exact h _ hh
 ·rename_i o hi
  simp only [hi] at hh
  obtain ⟨u,⟨h1,h2⟩,h3,_⟩:=oneW_some (hm i o hi).2 hh
  exact h3 _ ⟨h1,h _ h2⟩
theorem wpAnyW_first {Q : St -> Prop} {i : Nat} {oi : Oper} {ui : Out} (hi : L[i]? = some oi) (hm : MemOk L) :
  ∀ (fuel : Nat) (listed : Array Bool) (s : St),
   (∀ j oj,L[j]? = some oj -> j ≠ i -> listed.getD j true = false -> (∀ e ∈ oj.after,Region.binds .any e = true -> e.on ≠ i) -> oi.apart L.toArray oj = true /\ compat (memC oi.op) (memC oj.op) = true) ->
   i ∈ Region.ready .any L.toArray listed -> WF s -> YieldsW P L (base + 16 * i) oi ui s ->
   wpAnyW P L base Q fuel (listed.setIfInBounds i true) (ui.to (base + 16 * i) oi.dst s) -> wpAnyW P L base Q (fuel + 1) listed s:=by
 have useY : ∀ {s : St} {K : St -> Prop},YieldsW P L (base + 16 * i) oi ui s -> K (ui.to (base + 16 * i) oi.dst s) -> stepW P L base i K s:=by
  intro s K hy hk
  unfold stepW
  rw [hi]
  exact hy.1 _ ⟨hy.2.1,hk⟩
 intro fuel
 induction fuel with
 | zero =>
  intro listed s _ hr hw hy H
  refine ⟨fun h=>(by rw [h] at hr; cases hr),fun j hj=>?_⟩
  by_cases hji : j = i
  ·subst hji; exact useY hy H
  ·have:=ready_mono hj hji
   rw [H.1] at this
   cases this
 | succ fuel ih =>
  intro listed s hfree hr hw hy H
  refine ⟨fun h=>(by rw [h] at hr; cases hr),fun j hj=>?_⟩
  by_cases hji : j = i
  ·subst hji; exact useY hy H
  ·have h1:=H.2 j (ready_mono hj hji)
   obtain ⟨hjun,oj,hoj,hall⟩:=mem_ready.1 hj
   have hoj' : L[j]? = some oj:=by simpa using hoj
   have hnot : ∀ e ∈ oj.after,Region.binds .any e = true -> e.on ≠ i:=fun e he hb heq=>by
    have h1:=hall e he hb
    have h0:=(mem_ready.1 hr).1
    rw [heq] at h1
    rcases Nat.lt_or_ge i listed.size with h' | h'
    ·simp [h'] at h0 h1; rw [h0] at h1; cases h1
    ·simp [Array.getElem?_eq_none h'] at h1
   obtain ⟨hap,hcp⟩:=hfree j oj hoj' hji hjun hnot
   have h2:=stepW_put hi hoj' (Ne.symm hji) hap hcp (hm i oi hi).1 (hm j oj hoj').1 (hm j oj hoj').2 hw hy h1
   have hfree' : ∀ k ok,L[k]? = some ok -> k ≠ i -> (listed.setIfInBounds j true).getD k true = false ->
     (∀ e ∈ ok.after,Region.binds .any e = true -> e.on ≠ i) -> oi.apart L.toArray ok = true /\ compat (memC oi.op) (memC ok.op) = true:=fun k ok hk hki hun hno=>by
    refine hfree k ok hk hki ?_ hno
    by_cases hjk : j = k
    ·subst hjk; exact hjun
    ·rw [getD_set_ne true hjk] at hun; exact hun
   refine stepW_mono hm (fun s' h3=>ih (listed.setIfInBounds j true) s' hfree' (ready_mono hr (Ne.symm hji)) h3.1.2 h3.1.1 ?_) h2
   rw [Array.setIfInBounds_comm _ _ hji]
   exact h3.2
def fitsB (o : Oper) (nid : Nat) (s : St) (u : Out) : Bool :=
 match s.fitsZ o.dst with
 | true =>
  match freeFrom nid u.os s.objs with
  | true =>
   match decide (u.os.length <= 16) with
   | true =>
    match isStore o.op with
    | true=>o.dst.isNone
    | false=>true
   | false=>false
  | false=>false
 | false=>false
theorem fitsB_spec {o : Oper} {nid : Nat} {s : St} {u : Out} (h : fitsB o nid s u = true) : Fits o nid s u:=by
 unfold fitsB at h
 rw [fitsZ_eq] at h
 split at h
 ·rename_i h1
  split at h
  ·rename_i h2
   split at h
   ·rename_i h3
    refine ⟨h1,h2,by simpa using h3,fun e=>?_⟩
    rw [e] at h
    simpa using h
   ·cases h
  ·cases h
 ·cases h
def Out.toK (u : Out) (nid : Nat) (d : Option Nat) (s : St) (K : St -> Prop) : Prop :=
 match u with
 | ⟨v,os,wr⟩ =>
  match s with
  | ⟨e,z,o,n,g⟩=>force v fun v=>putS ⟨e,z,Out.objs ⟨v,os,wr⟩ nid o,n,g⟩ d v K
theorem Out.toK_eq (u : Out) (nid : Nat) (d : Option Nat) (s : St) (K : St -> Prop) : u.toK nid d s K = K (u.to nid d s):=by
 cases u
 cases s
 simp only [Out.toK,force_eq,putS_eq]
 rfl
def textW (P : Program) (L : List Oper) (base : Nat) (Q : St -> Prop) (l : List Oper) : Nat -> St -> Prop :=
 List.rec (motive:=fun _=>Nat -> St -> Prop) (fun _ s=>Q s) (fun o _ ih i s=>oneW P L o (base + 16 * i) s fun u =>
  match fitsB o (base + 16 * i) s u with
  | true=>u.toK (base + 16 * i) o.dst s fun s'=>ih (i + 1) s'
  | false=>False) l
theorem textW_cons {Q : St -> Prop} {o : Oper} {rest : List Oper} {i : Nat} {s : St} : textW P L base Q (o :: rest) i s = oneW P L o (base + 16 * i) s fun u =>
  match fitsB o (base + 16 * i) s u with
  | true=>u.toK (base + 16 * i) o.dst s fun s'=>textW P L base Q rest (i + 1) s'
  | false=>False:=rfl
def memPairs (L : List Oper) : Bool :=
 (List.range L.length).all fun i=>(List.range L.length).all fun j=>j <= i ||
  match L[i]?,L[j]? with
  | some oi,some oj=>compat (memC oi.op) (memC oj.op) || oj.after.any fun e=>Region.binds .any e && e.on == i
  | _,_=>true
def memOne (L : List Oper) : Bool:=L.all fun o=>decide (memC o.op <= 2) && (o.guard.isNone || memC o.op != 2)
theorem memOne_spec (h : memOne L = true) : MemOk L:=by
 intro j o hj
 have:=List.all_eq_true.1 h o (mgE hj)
 simp only [baT,decide_eq_true_eq,Bool.or_eq_true,bne_iff_ne] at this
 refine ⟨this.1,fun hg=>?_⟩
 rcases this.2 with h | h
 ·cases ho : o.guard <;> simp [ho] at h hg
 ·exact h
theorem memPairs_spec (h : memPairs L = true) {i j : Nat} {oi oj : Oper} (hi : L[i]? = some oi) (hj : L[j]? = some oj) (hij : i < j) (hno : ∀ e ∈ oj.after,Region.binds .any e = true -> e.on ≠ i) :
  compat (memC oi.op) (memC oj.op) = true:=by
 have hli:=(List.getElem?_eq_some_iff.1 hi).1
 have hlj:=(List.getElem?_eq_some_iff.1 hj).1
 have:=List.all_eq_true.1 (List.all_eq_true.1 h i (List.mem_range.2 hli)) j (List.mem_range.2 hlj)
 simp only [hi,hj,Bool.or_eq_true,decide_eq_true_eq] at this
 rcases this with h | h | h
 ·omega
 ·exact h
 ·obtain ⟨e,he,hb⟩:=Array.any_eq_true'.1 h
  simp only [baT,beq_iff_eq] at hb
  exact absurd hb.2 (hno e he hb.1)
theorem wpAnyW_lex {Q : St -> Prop} (hm : MemOk L) (hp : memPairs L = true) : ∀ (l : List Oper) (k : Nat) (listed : Array Bool) (s : St),(∀ j,l[j]? = L[k + j]?) -> (∀ j,j < k -> j < L.length -> listed.getD j true = true) ->
  Region.lexFrom .any L.toArray l.length k listed = true -> listed.size = L.length -> WF s -> textW P L base Q l k s -> wpAnyW P L base Q l.length listed s
 | [],_,_,_,_,_,hB,_,_,h=>⟨by simpa [Region.lexFrom] using hB,h⟩
 | o :: l,k,listed,s,hl,hlow,hB,hsz,hw,h=>by
  have h0 : L[k]? = some o:=by simpa using (hl 0).symm
  have hkl:=(List.getElem?_eq_some_iff.1 h0).1
  simp only [List.length_cons,Region.lexFrom,baT] at hB
  obtain ⟨⟨hr,hf⟩,hB'⟩:=hB
  rw [textW_cons] at h
  obtain ⟨u,hu,hall,hok⟩:=oneW_some (hm k o h0).2 h
  split at hu
  ·rename_i hfit
   rw [Out.toK_eq] at hu
   have hF:=fitsB_spec hfit
   refine wpAnyW_first h0 hm l.length listed s (fun j oj hj hne hun hno=>⟨Region.free_spec (by simpa using h0) hf j oj (by simpa using hj) hne hun hno,?_⟩) (by simpa using hr) hw ⟨hall,hF,hok⟩ ?_
   ·have hlj:=(List.getElem?_eq_some_iff.1 hj).1
    refine memPairs_spec hp h0 hj ?_ hno
    rcases Nat.lt_trichotomy j k with hlt | rfl | hgt
    ·rw [hlow j hlt hlj] at hun; cases hun
    ·exact absurd rfl hne
    ·exact hgt
   ·refine wpAnyW_lex hm hp l (k + 1) _ _ (fun j=>by have:=hl (j + 1); simpa [Nat.add_assoc,Nat.add_comm 1 j] using this) (fun j hj hjl=>?_) hB' (by simpa using hsz) (hw.to (hm k o h0).1 hok hF.2.1) hu
    by_cases hjk : k = j
    ·subst hjk; simp [hsz,hjl]
    ·rw [getD_set_ne true hjk]; exact hlow j (by omega) hjl
  ·exact hu.elim
end
end Go.Ab
