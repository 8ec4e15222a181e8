/-
  That each operation does what is said of it: append, stores, slices made, and what is left.
  No condition: lemmas over any program.
-/
import Derived.Test.YtjjjalcmcifncaaGreatM1
namespace Go.Ab
open Go.RowKit
theorem EsR.list {w : World} {ro : Nat -> Prop} (esz n : Nat) : ∀ (xs : List (List AV)) (rd : Nat -> Option Value),EsR w ro esz xs rd -> (∀ z ∈ xs,z.length = n) -> ∃ vs,LR w ro xs.flatten vs /\ ∀ j u,vs[j]? = some u -> rd j = some u
 | [],_,_,_=>⟨[],by simp only [List.flatten_nil]; unfold LR; trivial,fun j u h=>by simp at h⟩
 | x :: xs,rd,h,hn=>by
  unfold EsR at h
  obtain ⟨h1,h2,h3⟩:=h
  obtain ⟨vs,k1,k2⟩:=EsR.list esz n xs _ h3 (fun z hz=>hn z (by simp [hz]))
  obtain ⟨us,q1,q2⟩:=csList x rd h2
  have hl : us.length = esz:=by rw [<- q1.length,h1]
  refine ⟨us ++ vs,by simp only [List.flatten_cons]; exact q1.append k1,fun j u hj=>?_⟩
  by_cases hlt : j < us.length
  ·rw [List.getElem?_append_left hlt] at hj
   exact q2 j u hj
  ·rw [List.getElem?_append_right (by omega)] at hj
   have:=k2 (j - us.length) u hj
   rw [hl] at this
   rwa [show j - esz + esz = j by omega] at this
where csList {w : World} {ro : Nat -> Prop} : ∀ (x : List AV) (rd : Nat -> Option Value),CsR w ro x rd -> ∃ us,LR w ro x us /\ ∀ j u,us[j]? = some u -> rd j = some u
 | [],_,_=>⟨[],by unfold LR; trivial,fun j u h=>by simp at h⟩
 | a :: x,rd,h=>by
  unfold CsR at h
  obtain ⟨⟨v,h1,h2⟩,h3⟩:=h
  obtain ⟨us,k1,k2⟩:=csList x _ h3
  refine ⟨v :: us,by unfold LR; exact ⟨h2,k1⟩,fun j u hj=>?_⟩
  cases j with
  | zero=>simp at hj; subst hj; exact h1
  | succ j=>exact k2 j u (by simpa using hj)
section
variable {F : Nat -> Prop} {w0 : Base} {gv : List Value} {s : St} {a : Act} {w : World} {hdr : Nat -> Hdr}
theorem appArg (h : Sim F w0 gv s a w hdr) {y : AV} {v : Value} (hv : VR (s.ctx F w hdr) y v) {ys : List (List AV)} (hy : elemsOf s y = some ys) {n : Nat} (hn : ∀ z ∈ ys,z.length = n) :
  ∃ base cap news,v = .slice base ys.length cap /\ LR w (roOf F w hdr s.objs) ys.flatten news /\
   ((ys = [] /\ base = none) \/ ∃ ad,base = some ad /\ ∀ j u,news[j]? = some u -> w.cell? (ad.add j) = some u):=by
 cases y <;> simp only [elemsOf] at hy <;> try (cases hy; done)
 case nil =>
  cases hy
  unfold VR at hv
  obtain ⟨base,rfl⟩:=hv
  refine ⟨base,0,[],rfl,by simp only [List.flatten_nil]; unfold LR; trivial,?_⟩
  cases base with
  | none=>exact .inl ⟨rfl,rfl⟩
  | some ad=>exact .inr ⟨ad,rfl,fun j u hj=>by simp at hj⟩
 case sl xs =>
  cases hy
  unfold VR RR at hv
  obtain ⟨base,cap,e1,e2,e3⟩:=hv
  rcases e3 with e3 | ⟨b,o,esz,f1,f2,f3⟩
  ·subst e3
   refine ⟨base,cap,[],e1,by simp only [List.flatten_nil]; unfold LR; trivial,?_⟩
   cases base with
   | none=>exact .inl ⟨rfl,rfl⟩
   | some ad=>exact .inr ⟨ad,rfl,fun j u hj=>by simp at hj⟩
  ·obtain ⟨vs,k1,k2⟩:=EsR.list esz n ys _ f3 hn
   exact ⟨base,cap,vs,e1,k1,.inr ⟨_,f1,fun j u hj=>by rw [Addr.add_lit]; exact k2 j u hj⟩⟩
 case own id =>
  cases ho : s.objs id with
  | none=>simp [ho] at hy
  | some o =>
   simp only [ho] at hy
   split at hy
   ·cases hy
   ·rename_i hk
    cases hy
    unfold VR at hv
    obtain ⟨_,hv⟩:=hv
    replace hv : v = (hdr id).v:=hv
    obtain ⟨hpos,hlens,_,cs,hrow,hone,hcl⟩:=h.objs id o ho
    have hlr:=(hcl.slc hk).1
    rcases hrow.2 with ⟨base,e1,e2⟩ | ⟨g,cap,cur,e1,e0,rest⟩
    ·have hnil : o.elems = []:=List.length_eq_zero_iff.1 e2
     refine ⟨base,0,[],by rw [hv,e1,e2],by rw [hnil]; simp only [List.flatten_nil]; unfold LR; trivial,?_⟩
     cases base with
     | none=>exact .inl ⟨hnil,rfl⟩
     | some ad=>exact .inr ⟨ad,rfl,fun j u hj=>by simp at hj⟩
    ·refine ⟨some ⟨g,0,none⟩,cap,cs,by rw [hv,e1],hlr,.inr ⟨_,rfl,?_⟩⟩
     exact hrow.cells (g:=g) (by rw [e1]; exact blk_slice e0)
   ·cases hy
theorem run_append {P : Program} {w : World} {N : Nat -> Prop} {e size : Nat} {v : Value} {n : Nat} {xs : List Value} (hown : OwnR w N e size v n xs) {t ty : TypeId} (ht : P.underlying t = some (.slice e)) {i : TypeInfo} (hi : P.info? e = some i)
  {z : Value} (hz : i.zero = some z) (hsize : i.size = size) (hzs : z.cells.size = size) (hN : ∀ b,w.heap.size <= b -> N b)
  {base : Option Addr} {m c : Nat} {news : List Value} (hl : news.length = m * size) (hx : (m = 0 /\ base = none) \/ ∃ ad,base = some ad /\ ∀ j u,news[j]? = some u -> w.cell? (ad.add j) = some u) (h1 : ∀ u ∈ news,u.oneCell' = true)
  (hmax : n + m <= 70368744177664) (hbytes : (n + m) * i.bytes <= 140737488355328) :
  ∃ v' w',(Builtin.append_ #[t,t] ty #[v,.slice base m c]).run P w = .ok v' w' /\ OwnR w' N e size v' (n + m) (xs ++ news) /\ w.grownBy w' v.blk /\ (∀ b,v'.blk = some b -> v.blk = some b \/ w.heap.size <= b):=by
 subst hsize
 have hlen : (xs ++ news).length = (n + m) * i.size:=by rw [laT,hown.1,hl,Nat.add_mul]
 have hstay : ∀ (a0 : Option Addr) (cap0 : Nat),n + 0 <= cap0 -> (Builtin.append_ #[t,t] ty #[.slice a0 n cap0,.slice none 0 c]).run P w = .ok (.slice a0 n cap0) w:=by
  intro a0 cap0 hle
  have hle' : n <= cap0:=by omega
  cases a0 <;> simp [Builtin.append_,run_underlying ht,sizeOf,typeInfo,hi,Builtin.lenOf,Builtin.firstCells,hle',storeCells]
 rcases hx with ⟨rfl,rfl⟩ | ⟨ad,rfl,hcell⟩
 ·have hn0 : news = []:=List.length_eq_zero_iff.1 (by simpa using hl)
  subst hn0
  refine ⟨v,w,?_,by simpa using hown,⟨rfl,rfl,rfl,Nat.le_refl _,fun _ _ _=>rfl⟩,fun b hb=>.inl hb⟩
  rcases hown.2 with ⟨b0,rfl,rfl⟩ | ⟨g,cap,cur,rfl,h0,h2,h3,h4,_⟩
  ·exact hstay b0 0 (by omega)
  ·exact hstay _ cap (by omega)
 ·have fresh : ∀ (old : Nat) (cs : List Value),old < n + m -> cs = xs ++ news ->
    OwnR (w.drew.alloc (.cells (cs.toArray ++ Builtin.zeroCells z.cells (grownCap w (n + m) old e - (n + m))) e)) N e i.size (.slice (some ⟨w.heap.size,0,none⟩) (n + m) (grownCap w (n + m) old e)) (n + m) (xs ++ news):=by
   intro old cs hold hcs
   have hge:=grownCap_ge w (n + m) old e
   have hcm : grownCap w (n + m) old e <= maxLen:=grownCap_le_maxLen w (n + m) old e (by simp only [maxLen]; omega)
   refine OwnR.of_row (B:=w.heap.size) ⟨hlen,.inr ⟨w.heap.size,_,_,rfl,Nat.le_refl _,heap_alloc_new w.drew _,hge,hcm,?_,?_⟩⟩ hN
   ·rw [Array.size_append,size_zeroCells,hzs,hcs,List.size_toArray,hlen,<- Nat.add_mul]
    congr 1
    omega
   ·rw [Array.toList_append,hcs,<- hlen]
    exact List.take_left
  have hgb : ∀ o row,w.grownBy (w.drew.alloc o) row:=fun o row=>⟨rfl,rfl,rfl,by simp,fun k hk _=>heap_alloc_old w.drew _ hk⟩
  have hbl : ∀ (k c : Nat) b,Value.blk (.slice (some ⟨w.heap.size,0,none⟩) k c) = some b -> w.heap.size <= b:=by
   intro k c b hb
   simp only [Value.blk] at hb
   split at hb
   ·cases hb
   ·cases hb; omega
  rcases hown.2 with ⟨b0,rfl,rfl⟩ | ⟨g,cap,cur,rfl,h0,h2,h3,h4,h5,h6,h7⟩
  ·have hx0 : xs = []:=List.length_eq_zero_iff.1 (by simpa using hown.1)
   subst hx0
   simp only [Nat.zero_add,List.nil_append] at fresh hmax hbytes hlen ⊢
   by_cases hm : m = 0
   ·subst hm
    have hn0 : news = []:=List.length_eq_zero_iff.1 (by simpa using hl)
    subst hn0
    refine ⟨.slice b0 0 0,w,?_,hown,⟨rfl,rfl,rfl,Nat.le_refl _,fun _ _ _=>rfl⟩,fun b hb=>.inl hb⟩
    cases b0 <;> simp [Builtin.append_,run_underlying ht,sizeOf,typeInfo,hi,Builtin.lenOf,Builtin.firstCells,storeCells,loadCells,loadCellsFrom]
   ·cases b0 with
    | none =>
     have hr:=run_append_nil (P:=P) w t ty e i z ht hi hz ad m c news hl hcell (by omega) (by omega) (by omega)
     exact ⟨_,_,hr,fresh 0 news (by omega) rfl,hgb _ _,fun b hb=>.inr (hbl _ _ b hb)⟩
    | some a1 =>
     have hr:=run_append_grow (P:=P) w t ty e i z ht hi hz a1 0 0 [] (by simp) (by simp) ad m c news hl hcell (by omega) (by omega) (growslice_fits (by omega) (by simpa using hbytes))
     simp only [Nat.zero_add] at hr
     have e0 : (#[] : Array Value) ++ news.toArray = news.toArray:=by simp
     rw [show (([] : List Value).toArray ++ news.toArray) = news.toArray from by simp] at hr
     exact ⟨_,_,hr,fresh 0 news (by omega) rfl,hgb _ _,fun b hb=>.inr (hbl _ _ b hb)⟩
  ·by_cases hroom : n + m <= cap
   ·have hfit : n * i.size + news.length <= cur.size:=by rw [hl,h6,<- Nat.add_mul]; exact Nat.mul_le_mul_right _ hroom
    have hr:=run_append_room (P:=P) w t ty e i ht hi g n cap cur h3 ad m c news hl hcell h1 hroom hfit
    refine ⟨_,_,hr,⟨hlen,.inr ⟨g,cap,_,rfl,h0,h2,setRow_heap w g cur _ e _ h3,hroom,h5,?_,?_⟩⟩,⟨rfl,rfl,rfl,by simp [World.setRow],fun k _ hk=>setRow_other w g k _ (fun e=>hk ?_)⟩,fun b hb=>.inl ?_⟩
    ·simp only [List.size_toArray,laT,List.length_take,List.length_drop,Array.length_toList]
     omega
    ·rw [h7,<- hlen]
     exact List.take_left
    ·subst e
     simp only [Value.blk]
     rw [if_neg (by omega)]
    ·simpa only [Value.blk] using hb
   ·have holds : ∀ j u,xs[j]? = some u -> w.cell? ((⟨g,0,none⟩ : Addr).add j) = some u:=hown.cells (g:=g) (by simp only [Value.blk]; rw [if_neg (by omega)])
    have hr:=run_append_grow (P:=P) w t ty e i z ht hi hz ⟨g,0,none⟩ n cap xs hown.1 holds ad m c news hl hcell (by omega) (by omega) (growslice_fits (by omega) hbytes)
    refine ⟨_,_,hr,?_,hgb _ _,fun b hb=>.inr (hbl _ _ b hb)⟩
    have:=fresh cap (xs ++ news) (by omega) rfl
    simpa using this
end
section
variable {P : Program} {s : St} {K : St -> Prop} {dst : Option Tmp} {type : TypeId} {pos : String} {after : Array Edge} {guard : Option (Nat × Bool)}
theorem onesOf {c : Ctx} (hh : ∀ id,(c.objs id).isSome = true -> (c.hdr id).v.oneCell' = true) {as : List AV} {vs : List Value} (h : LR c.w c.ro as vs) (ho : as.all AV.one = true) : ∀ u ∈ vs,u.oneCell' = true :=
 VL.ones hh (RR.value.values (c:=c) _ _ h) ho
end
end Go.Ab
