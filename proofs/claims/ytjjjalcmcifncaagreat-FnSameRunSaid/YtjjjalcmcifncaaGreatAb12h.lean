/-
  Regions that draw their order: the order of the text serves.
  No condition: definitions and lemmas over any program.
-/
import Derived.Test.YtjjjalcmcifncaaGreatAb12g
namespace Go.Ab
open Go.RowKit
theorem freeFrom_less {objs objs' : Nat -> Option AObj} (h : ∀ i,(objs i).isSome = true -> (objs' i).isSome = true) : ∀ (os : List AObj) (d : Nat),freeFrom d os objs' = true -> freeFrom d os objs = true
 | [],_,_=>rfl
 | _ :: os,d,hf=>by
  simp only [freeFrom] at hf ⊢
  cases ho : objs d with
  | none =>
   cases ho' : objs' d with
   | none=>rw [ho'] at hf; exact freeFrom_less h os (d + 1) hf
   | some _=>rw [ho'] at hf; cases hf
  | some _ =>
   have:=h d (by rw [ho]; rfl)
   cases ho' : objs' d with
   | none=>rw [ho'] at this; cases this
   | some _=>rw [ho'] at hf; cases hf
theorem freeFrom_of : ∀ (os : List AObj) (d : Nat) (objs : Nat -> Option AObj),(∀ i,d <= i -> i < d + os.length -> objs i = none) -> freeFrom d os objs = true
 | [],_,_,_=>rfl
 | _ :: os,d,objs,h=>by
  simp only [freeFrom]
  rw [h d (Nat.le_refl _) (by simp)]
  exact freeFrom_of os (d + 1) objs (fun i h1 h2=>h i (by omega) (by simp; omega))
section
variable {P : Program} {L : List Oper} {nid : Nat} {o : Oper} {u : Out} {s : St}
theorem has_to (hm : memC o.op <= 2) (hok : OutOk o.op nid s u) (_hf : freeFrom nid u.os s.objs = true) (id : Nat) : has (u.to nid o.dst s) id = newHas nid u.os s id:=by
 unfold has newHas
 rw [out_objs]
 unfold Out.objs
 cases hw : u.wr with
 | none =>
  simp only
  rw [addObjs_at]
  by_cases hx : nid <= id /\ id < nid + u.os.length
  ·rw [if_pos hx]
   have : id - nid < u.os.length:=by omega
   simp [hx.1,hx.2,this]
  ·rw [if_neg hx]
   have : (decide (nid <= id) && decide (id < nid + u.os.length)) = false:=by simp; omega
   rw [this]
   simp [has]
 | some p =>
  obtain ⟨id',ob⟩:=p
  simp only
  have hos : u.os = [] /\ has s id' = true:=by
   by_cases h0 : memC o.op = 0
   ·have:=(hok.c0 h0).2; rw [hw] at this; cases this
   ·by_cases h1 : memC o.op = 1
    ·have:=hok.c1 h1; rw [hw] at this; cases this
    ·by_cases h2 : memC o.op = 2
     ·obtain ⟨q1,i2,o2,q2,q3⟩:=hok.c2 h2
      rw [hw] at q2
      cases q2
      exact ⟨q1,q3⟩
     ·omega
  rw [hos.1]
  by_cases hx : id = id'
  ·subst hx
   have:=hos.2
   simp [this]
  ·simp [hx,has]
   omega
theorem WF.to (hw : WF s) (hm : memC o.op <= 2) (hok : OutOk o.op nid s u) (hf : freeFrom nid u.os s.objs = true) : WF (u.to nid o.dst s):=by
 have hh : ∀ id,has (u.to nid o.dst s) id = newHas nid u.os s id:=has_to hm hok hf
 have hhf : has (u.to nid o.dst s) = newHas nid u.os s:=funext hh
 have hup : ∀ i,has s i = true -> newHas nid u.os s i = true:=fun i hi=>by simp [newHas,hi]
 refine ⟨fun t=>?_,fun id ob ho hb=>?_⟩
 ·rw [hhf]
  cases hd : o.dst with
  | none =>
   have : (u.to nid none s).env t = s.env t:=rfl
   rw [this]
   exact AV.clo_mono hup _ (hw.env t)
  | some d =>
   by_cases ht : t = d
   ·have : (u.to nid (some d) s).env t = u.v:=by simp [Out.to,St.put,ht]
    rw [this]
    exact hok.val hw
   ·rw [out_env (fun x hx=>by cases hx; exact ht)]
    exact AV.clo_mono hup _ (hw.env t)
 ·rw [hhf]
  rw [out_objs] at ho
  unfold Out.objs at ho
  cases hwr : u.wr with
  | none =>
   rw [hwr] at ho
   simp only at ho
   rw [addObjs_at] at ho
   split at ho
   ·exact (hok.box hw).1 ob (mgE ho) hb
   ·exact cloL_mono hup _ (hw.box id ob ho hb)
  | some p =>
   obtain ⟨id',ob'⟩:=p
   rw [hwr] at ho
   simp only at ho
   split at ho
   ·cases ho
    exact cloL_mono hup _ ((hok.box hw).2 id' ob hwr hb)
   ·exact cloL_mono hup _ (hw.box id ob ho hb)
end
theorem objs_keep {o : Oper} {nid : Nat} {u : Out} {s : St} (hok : OutOk o.op nid s u) (hf : freeFrom nid u.os s.objs = true) (h1 : memC o.op <= 1) (id : Nat) (hi : has s id = true) : (u.to nid o.dst s).objs id = s.objs id:=by
 rw [out_objs]
 unfold Out.objs
 have hw : u.wr = none:=by
  by_cases h0 : memC o.op = 0
  ·exact (hok.c0 h0).2
  ·exact hok.c1 (by omega)
 rw [hw]
 exact addObjs_old hf hi
theorem objs_same {o : Oper} {nid : Nat} {u : Out} {s : St} (hok : OutOk o.op nid s u) (h0 : memC o.op = 0) : (u.to nid o.dst s).objs = s.objs:=by
 rw [out_objs]
 unfold Out.objs
 rw [(hok.c0 h0).2,(hok.c0 h0).1]
 rfl
theorem addObjs_swap (os os' : List AObj) (n n' : Nat) (objs : Nat -> Option AObj) (h : n + os.length <= n' \/ n' + os'.length <= n) : addObjs n os (addObjs n' os' objs) = addObjs n' os' (addObjs n os objs):=by
 funext i
 rw [addObjs_at,addObjs_at,addObjs_at,addObjs_at]
 by_cases h1 : n <= i /\ i < n + os.length
 ·rw [if_pos h1,if_neg (by omega),if_pos h1]
 ·rw [if_neg h1]
  by_cases h2 : n' <= i /\ i < n' + os'.length
  ·rw [if_pos h2,if_pos h2]
  ·rw [if_neg h2,if_neg h2,if_neg h1]
theorem out_swap {oi oj : Oper} {ni nj : Nat} {ui uj : Out} {s : St} (hap : ∀ d,oi.dst = some d -> oj.dst ≠ some d) (hr : ni + ui.os.length <= nj \/ nj + uj.os.length <= ni)
  (hc : (ui.wr = none /\ uj.wr = none) \/ (ui.os = [] /\ ui.wr = none) \/ (uj.os = [] /\ uj.wr = none)) : uj.to nj oj.dst (ui.to ni oi.dst s) = ui.to ni oi.dst (uj.to nj oj.dst s):=by
 have hobj : uj.objs nj (ui.objs ni s.objs) = ui.objs ni (uj.objs nj s.objs):=by
  unfold Out.objs
  rcases hc with ⟨h1,h2⟩ | ⟨h1,h2⟩ | ⟨h1,h2⟩
  ·rw [h1,h2]
   exact addObjs_swap _ _ _ _ _ (hr.symm)
  ·rw [h1,h2]
   rfl
  ·rw [h1,h2]
   rfl
 unfold Out.to
 cases hi : oi.dst with
 | none =>
  cases hj : oj.dst with
  | none=>simp only [St.put]; rw [hobj]
  | some e=>simp only [St.put]; rw [hobj]
 | some d =>
  cases hj : oj.dst with
  | none=>simp only [St.put]; rw [hobj]
  | some e =>
   have hne : d ≠ e:=fun he=>hap d hi (by rw [hj,he])
   simp only [St.put,St.mk.injEq,hobj,and_self,and_true]
   funext t
   by_cases h1 : t = d
   ·subst h1; simp [hne]
   ·simp [h1]
theorem stepW_put {P : Program} {L : List Oper} {base i j : Nat} {oi oj : Oper} {ui : Out} {K : St -> Prop} {s : St} (_hi : L[i]? = some oi) (hj : L[j]? = some oj) (hij : i ≠ j) (hap : oi.apart L.toArray oj = true) (hc : compat (memC oi.op) (memC oj.op) = true)
  (hmi : memC oi.op <= 2) (hmj : memC oj.op <= 2) (hgj : oj.guard.isSome = true -> memC oj.op ≠ 2) (hw : WF s) (hy : YieldsW P L (base + 16 * i) oi ui s) (h : stepW P L base j K (ui.to (base + 16 * i) oi.dst s)) :
  stepW P L base j (fun s'=>(YieldsW P L (base + 16 * i) oi ui s' /\ WF s') /\ K (ui.to (base + 16 * i) oi.dst s')) s:=by
 obtain ⟨a1,a2,a3⟩:=Oper.apart_spec hap
 obtain ⟨y1,⟨y2,y3,y4,y5⟩,y6⟩:=hy
 have hcc : (memC oi.op <= 1 /\ memC oj.op <= 1) \/ (memC oi.op = 0 /\ memC oj.op <= 2) \/ (memC oj.op = 0 /\ memC oi.op <= 2):=by
  simp only [compat,Bool.or_eq_true,baT,decide_eq_true_eq] at hc
  rcases hc with (h | h) | h
  ·exact .inl h
  ·exact .inr (.inl h)
  ·exact .inr (.inr h)
 unfold stepW at h ⊢
 simp only [hj] at h ⊢
 have hcong : ∀ K',oneW P L oj (base + 16 * j) (ui.to (base + 16 * i) oi.dst s) K' = oneW P L oj (base + 16 * j) s K':=fun K' =>
  oneW_congr (fun t ht=>out_env (fun x hx e=>a1 x hx (e ▸ ht))) hmj (fun e=>⟨hw,fun id hid=>objs_keep y6 y3 (by omega) id hid⟩) (fun e=>objs_same y6 (by omega))
 obtain ⟨uj,⟨⟨f1,f2,f3,f4⟩,hK⟩,hup,_⟩:=oneW_some hgj h
 have hup' : ∀ K' : Out -> Prop,K' uj -> oneW P L oj (base + 16 * j) s K':=fun K' hk=>by rw [<- hcong]; exact hup K' hk
 have hokj : OutOk oj.op (base + 16 * j) s uj:=by
  obtain ⟨u,e,_,hok⟩:=oneW_some hgj (hup' (fun u=>u = uj) rfl)
  rw [<- e]; exact hok
 have hfj : freeFrom (base + 16 * j) uj.os s.objs = true:=freeFrom_less (objs':=(ui.to (base + 16 * i) oi.dst s).objs) (fun id hid=>by
  have:=has_to hmi y6 y3 id
  unfold has at this
  rw [this]
  simp [newHas,has,hid]) _ _ f2
 refine hup' _ ⟨⟨by rw [out_fits] at f1; exact f1,hfj,f3,f4⟩,⟨⟨?_,⟨by rw [out_fits]; exact y2,?_,y4,y5⟩,?_⟩,hw.to hmj hokj hfj⟩,?_⟩
 ·intro K' hk
  rw [oneW_congr (s:=s) (fun t ht=>out_env (fun x hx e=>a3 x hx (e ▸ ht))) hmi (fun e=>⟨hw,fun id hid=>objs_keep hokj hfj (by omega) id hid⟩) (fun e=>objs_same hokj (by omega))]
  exact y1 K' hk
 ·refine freeFrom_of _ _ _ (fun id h1 h2=>?_)
  have hn:=freeFrom_at _ _ _ y3 id h1 h2
  have hs0 : has s id = false:=by simp [has,hn]
  have:=has_to hmj hokj hfj id
  have hnew : newHas (base + 16 * j) uj.os s id = false:=by
   simp only [newHas,hs0,Bool.false_or,Bool.and_eq_false_iff,decide_eq_false_iff_not]
   omega
  rw [hnew] at this
  simpa [has] using this
 ·have hm : ∀ id,newHas (base + 16 * i) ui.os s id = true -> newHas (base + 16 * i) ui.os (uj.to (base + 16 * j) oj.dst s) id = true:=by
   intro id hid
   unfold newHas at hid ⊢
   rw [Bool.or_eq_true] at hid ⊢
   rcases hid with h | h
   ·left
    rw [has_to hmj hokj hfj]
    simp [newHas,h]
   ·exact .inr h
  refine ⟨y6.c0,y6.c1,fun e=>?_,fun _=>AV.clo_mono hm _ (y6.val hw),fun _=>⟨fun o ho hb=>cloL_mono hm _ ((y6.box hw).1 o ho hb),fun id ob e hb=>cloL_mono (fun k hk=>?_) _ ((y6.box hw).2 id ob e hb)⟩⟩
  ·obtain ⟨q1,id,ob,q2,q3⟩:=y6.c2 e
   exact ⟨q1,id,ob,q2,by rw [has_to hmj hokj hfj]; simp [newHas,q3]⟩
  ·rw [has_to hmj hokj hfj]; simp [newHas,hk]
 ·rw [<- out_swap a2 (by omega) ?_]
  ·exact hK
  ·rcases hcc with ⟨h1,h2⟩ | ⟨h1,_⟩ | ⟨h1,_⟩
   ·refine .inl ⟨?_,?_⟩
    ·by_cases h0 : memC oi.op = 0
     ·exact (y6.c0 h0).2
     ·exact y6.c1 (by omega)
    ·by_cases h0 : memC oj.op = 0
     ·exact (hokj.c0 h0).2
     ·exact hokj.c1 (by omega)
   ·exact .inr (.inl (y6.c0 h1))
   ·exact .inr (.inr (hokj.c0 h1))
end Go.Ab
