/-
  What a call may lean on in the world besides its arguments: nothing, in this seat.
  Abstract values and states for the walks of this claim, and how they stand to the model's values and worlds.
  The abstract state, how it stands to a frame and a world, and the steps that keep it so.
  Writing into an object of the state; giving an object up; what no longer is known of it.
  An object that turns as a whole (append), and an object that is given up and only read from then on.
  The operations that make no memory: what each gives, as an abstract value, and that it is so.
  The operations, one by one: what each needs and what it leaves, as a statement on abstract states.
  What an operation needs and leaves, on abstract states; contracts of functions.
  That each operation does what is said of it: those that make no memory, and those that lay an object.
  That each operation does what is said of it: calls.
  Flat objects turned into objects that own what they reach.
  No condition: definitions and lemmas over any program.
-/
import Derived.Below
import Derived.Calls
import Derived.Laws.AppendOwn
import Derived.Laws.OwnMore
import Derived.Laws.MakeOwn
import Derived.WalkKit
import Derived.WalkLawsBesides
import Derived.Great.BuildSlice
import Derived.Laws.StructEq
namespace Go.Ab
theorem nbT {n m : Nat} (h : Nat.ble n m = true) : n <= m := Nat.le_of_ble_eq_true h
theorem mgE {α : Type _} {l : List α} {n : Nat} {a : α} (h : l[n]? = some a) : a ∈ l := List.mem_of_getElem? h
theorem laT {α : Type _} {a b : List α} : (a ++ b).length = a.length + b.length := List.length_append
theorem baT (a b : Bool) : ((a && b) = true) = (a = true /\ b = true) := Bool.and_eq_true a b
open Go.RowKit
set_option linter.unusedVariables false
def Tab (w : World) (N : Nat -> Prop) : Prop:=True
theorem Tab.frame {w w' : World} {N N' : Nat -> Prop} (h : Tab w N) (hs : w.heap.size <= w'.heap.size) (hb : ∀ k,k < w.heap.size -> ¬ N k -> w'.heap[k]? = w.heap[k]?) (hn : ∀ b,N' b -> N b) : Tab w' N':=True.intro
structure ROk (w : World) (R : Nat -> Prop) : Prop where
 lt : ∀ b,R b -> b < w.heap.size
 tab : Tab w fun b=>w.heap.size <= b
end Go.Ab
namespace Go.Ab
open Go.RowKit
def _root_.Go.Value.blk : Value -> Option Nat
 | .slice (some a) _ cap=>if cap = 0 then none else some a.block
 | _=>none
inductive AV where
 | any
 | int (k : IntKind) (n : Int)
 | bool (b : Bool)
 | str (l : List UInt8)
 | nil
 | sl (xs : List (List AV))
 | rp (cs : List AV)
 | own (id : Nat)
 | ptr (id idx off : Nat)
 | cel (id idx off : Nat) (xs : List (List AV))
 | prt (id lo n cp : Nat)
 | agg (cs : List AV)
 | tup (cs : List AV)
 | fn (f : Nat) (caps : List AV)
abbrev SC:=Nat -> Nat -> Nat -> List (List AV) -> AV
inductive Shp where
 | leaf
 | sl (ty esz : Nat) (cells : List Shp)
inductive BK where
 | box
 | slc
 | deep (sh : List Shp)
def BK.ofB (b : Bool) : BK:=match b with | true=>.box | false=>.slc
instance : Coe Bool BK:=⟨BK.ofB⟩
structure AObj where
 kind : BK
 ty : Nat
 esz : Nat
 elems : List (List AV)
def AObj.box (o : AObj) : Bool:=match o.kind with | .box=>true | .slc=>false | .deep _=>false
structure Hdr where
 v : Value
 fp : List Nat
instance : Coe Hdr Value:=⟨Hdr.v⟩
def Hdr.blk (h : Hdr) : Option Nat:=h.v.blk
def Hdr.has (h : Hdr) (b : Nat) : Prop:=h.blk = some b \/ b ∈ h.fp
mutual
def RR (w : World) (ro : Nat -> Prop) : AV -> Value -> Prop
 | .any,_=>True
 | .int k n,v=>v = .int k n
 | .bool b,v=>v = .bool b
 | .str l,v=>v = .string ⟨l.toArray⟩
 | .nil,v=>∃ base,v = .slice base 0 0
 | .sl xs,v=>∃ base cap,v = .slice base xs.length cap /\ xs.length <= cap /\ (xs = [] \/ ∃ b o esz,base = some ⟨b,o,none⟩ /\ ro b /\ EsR w ro esz xs (fun j=>w.cell? ⟨b,o + j,none⟩))
 | .rp cs,v=>∃ b o,v = .pointer (some ⟨b,o,none⟩) /\ ro b /\ CsR w ro cs (fun j=>w.cell? ⟨b,o + j,none⟩)
 | .own _,_=>False
 | .ptr _ _ _,_=>False
 | .cel _ _ _ _,_=>False
 | .prt _ _ _ _,_=>False
 | .agg cs,v=>∃ vs,v = .agg vs /\ LR w ro cs vs.toList
 | .tup cs,v=>∃ vs,v = .tuple vs /\ LR w ro cs vs.toList
 | .fn f caps,v=>∃ vs,v = .func (.func f) #[] vs /\ LR w ro caps vs.toList
def LR (w : World) (ro : Nat -> Prop) : List AV -> List Value -> Prop
 | [],[]=>True
 | a :: as,v :: vs=>RR w ro a v /\ LR w ro as vs
 | [],_ :: _=>False
 | _ :: _,[]=>False
def CsR (w : World) (ro : Nat -> Prop) : List AV -> (Nat -> Option Value) -> Prop
 | [],_=>True
 | a :: as,rd=>(∃ v,rd 0 = some v /\ RR w ro a v) /\ CsR w ro as (fun j=>rd (j + 1))
def EsR (w : World) (ro : Nat -> Prop) (esz : Nat) : List (List AV) -> (Nat -> Option Value) -> Prop
 | [],_=>True
 | x :: xs,rd=>x.length = esz /\ CsR w ro x rd /\ EsR w ro esz xs (fun j=>rd (j + esz))
end
structure Ctx where
 w : World
 ro : Nat -> Prop
 hdr : Nat -> Hdr
 objs : Nat -> Option AObj
def PrtR (c : Ctx) (id lo n cp : Nat) (v : Value) : Prop :=
 ∃ o,c.objs id = some o /\ o.box = false /\ n <= cp /\
  ((cp = 0 /\ ∃ base,v = .slice base 0 0) \/ (0 < cp /\ ∃ b m,(c.hdr id).v = .slice (some ⟨b,0,none⟩) m (lo + cp) /\ v = .slice (some ⟨b,lo * o.esz,none⟩) n cp))
mutual
def VR (c : Ctx) : AV -> Value -> Prop
 | .own id,v=>(c.objs id).isSome = true /\ v = (c.hdr id).v
 | .cel id idx off xs,v=>∃ o b sh e,c.objs id = some o /\ o.kind = .deep sh /\ o.elems[idx]? = some e /\ e[off]? = some (.sl xs) /\ (c.hdr id).blk = some b /\ c.w.cell? ⟨b,idx * o.esz + off,none⟩ = some v
 | .prt id lo n cp,v=>PrtR c id lo n cp v
 | .ptr id idx off,v=>∃ o b,c.objs id = some o /\ (c.hdr id).blk = some b /\ v = .pointer (some ⟨b,idx * o.esz + off,none⟩)
 | .agg cs,v=>∃ vs,v = .agg vs /\ VL c cs vs.toList
 | .tup cs,v=>∃ vs,v = .tuple vs /\ VL c cs vs.toList
 | .fn f caps,v=>∃ vs,v = .func (.func f) #[] vs /\ VL c caps vs.toList
 | .any,_=>True
 | .int k n,v=>v = .int k n
 | .bool b,v=>v = .bool b
 | .str l,v=>v = .string ⟨l.toArray⟩
 | .nil,v=>∃ base,v = .slice base 0 0
 | .sl xs,v=>RR c.w c.ro (.sl xs) v
 | .rp cs,v=>RR c.w c.ro (.rp cs) v
def VL (c : Ctx) : List AV -> List Value -> Prop
 | [],[]=>True
 | a :: as,v :: vs=>VR c a v /\ VL c as vs
 | [],_ :: _=>False
 | _ :: _,[]=>False
end
section
variable {w w' : World} {ro ro' : Nat -> Prop}
mutual
theorem RR.mono (hc : ∀ b o,ro b -> w'.cell? ⟨b,o,none⟩ = w.cell? ⟨b,o,none⟩) (hr : ∀ b,ro b -> ro' b) :
  ∀ (a : AV) (v : Value),RR w ro a v -> RR w' ro' a v
 | .any,_,_=>by unfold RR; trivial
 | .int ..,_,h=>by unfold RR at h ⊢; exact h
 | .bool _,_,h=>by unfold RR at h ⊢; exact h
 | .str _,_,h=>by unfold RR at h ⊢; exact h
 | .nil,_,h=>by unfold RR at h ⊢; exact h
 | .sl xs,v,h=>by
  unfold RR at h ⊢
  obtain ⟨base,cap,h1,h2,h3⟩:=h
  refine ⟨base,cap,h1,h2,?_⟩
  rcases h3 with h3 | ⟨b,o,esz,e1,e2,e3⟩
  ·exact .inl h3
  ·refine .inr ⟨b,o,esz,e1,hr b e2,?_⟩
   exact EsR.mono hc hr esz xs _ _ (fun j=>hc b (o + j) e2) e3
 | .rp cs,v,h=>by
  unfold RR at h ⊢
  obtain ⟨b,o,h1,h2,h3⟩:=h
  exact ⟨b,o,h1,hr b h2,CsR.mono hc hr cs _ _ (fun j=>hc b (o + j) h2) h3⟩
 | .own _,_,h=>by unfold RR at h; exact h.elim
 | .ptr _ _ _,_,h=>by unfold RR at h; exact h.elim
 | .cel _ _ _ _,_,h=>by unfold RR at h; exact h.elim
 | .prt _ _ _ _,_,h=>by unfold RR at h; exact h.elim
 | .agg cs,_,h=>by
  unfold RR at h ⊢
  obtain ⟨vs,h1,h2⟩:=h
  exact ⟨vs,h1,LR.mono hc hr cs _ h2⟩
 | .tup cs,_,h=>by
  unfold RR at h ⊢
  obtain ⟨vs,h1,h2⟩:=h
  exact ⟨vs,h1,LR.mono hc hr cs _ h2⟩
 | .fn _ cs,_,h=>by
  unfold RR at h ⊢
  obtain ⟨vs,h1,h2⟩:=h
  exact ⟨vs,h1,LR.mono hc hr cs _ h2⟩
theorem LR.mono (hc : ∀ b o,ro b -> w'.cell? ⟨b,o,none⟩ = w.cell? ⟨b,o,none⟩) (hr : ∀ b,ro b -> ro' b) :
  ∀ (as : List AV) (vs : List Value),LR w ro as vs -> LR w' ro' as vs
 | [],[],_=>by unfold LR; trivial
 | a :: as,v :: vs,h=>by
  unfold LR at h ⊢
  exact ⟨RR.mono hc hr a v h.1,LR.mono hc hr as vs h.2⟩
 | [],_ :: _,h=>by unfold LR at h; exact h.elim
 | _ :: _,[],h=>by unfold LR at h; exact h.elim
theorem CsR.mono (hc : ∀ b o,ro b -> w'.cell? ⟨b,o,none⟩ = w.cell? ⟨b,o,none⟩) (hr : ∀ b,ro b -> ro' b) :
  ∀ (as : List AV) (rd rd' : Nat -> Option Value),(∀ j,rd' j = rd j) -> CsR w ro as rd -> CsR w' ro' as rd'
 | [],_,_,_,_=>by unfold CsR; trivial
 | a :: as,rd,rd',hj,h=>by
  unfold CsR at h ⊢
  obtain ⟨⟨v,h1,h2⟩,h3⟩:=h
  exact ⟨⟨v,by rw [hj]; exact h1,RR.mono hc hr a v h2⟩,CsR.mono hc hr as _ _ (fun j=>hj (j + 1)) h3⟩
theorem EsR.mono (hc : ∀ b o,ro b -> w'.cell? ⟨b,o,none⟩ = w.cell? ⟨b,o,none⟩) (hr : ∀ b,ro b -> ro' b) (esz : Nat) :
  ∀ (xs : List (List AV)) (rd rd' : Nat -> Option Value),(∀ j,rd' j = rd j) -> EsR w ro esz xs rd -> EsR w' ro' esz xs rd'
 | [],_,_,_,_=>by unfold EsR; trivial
 | x :: xs,rd,rd',hj,h=>by
  unfold EsR at h ⊢
  exact ⟨h.1,CsR.mono hc hr x _ _ hj h.2.1,EsR.mono hc hr esz xs _ _ (fun j=>hj (j + esz)) h.2.2⟩
end
end
section
variable {c c' : Ctx}
mutual
theorem VR.mono (hR : ∀ a v,RR c.w c.ro a v -> RR c'.w c'.ro a v) (hC : ∀ id x y z v,VR c (.cel id x y z) v -> VR c' (.cel id x y z) v) (hP : ∀ id lo n cp v,PrtR c id lo n cp v -> PrtR c' id lo n cp v)
  (ho : ∀ id o,c.objs id = some o -> ∃ o',c'.objs id = some o' /\ o'.esz = o.esz /\ (c'.hdr id).v = (c.hdr id).v) :
  ∀ (a : AV) (v : Value),VR c a v -> VR c' a v
 | .own id,v,h=>by
  unfold VR at h ⊢
  obtain ⟨h1,h2⟩:=h
  obtain ⟨o,ho1⟩:=Option.isSome_iff_exists.1 h1
  obtain ⟨o',e1,_,e3⟩:=ho id o ho1
  exact ⟨by simp [e1],by rw [e3]; exact h2⟩
 | .ptr id idx off,v,h=>by
  unfold VR at h ⊢
  obtain ⟨o,b,h1,h2,h3⟩:=h
  obtain ⟨o',e1,e2,e3⟩:=ho id o h1
  exact ⟨o',b,e1,by unfold Hdr.blk at h2 ⊢; rw [e3]; exact h2,by rw [e2]; exact h3⟩
 | .cel id idx off xs,v,h=>hC id idx off xs v h
 | .prt id lo n cp,v,h=>by unfold VR at h ⊢; exact hP id lo n cp v h
 | .agg cs,_,h=>by
  unfold VR at h ⊢
  obtain ⟨vs,h1,h2⟩:=h
  exact ⟨vs,h1,VL.mono hR hC hP ho cs _ h2⟩
 | .tup cs,_,h=>by
  unfold VR at h ⊢
  obtain ⟨vs,h1,h2⟩:=h
  exact ⟨vs,h1,VL.mono hR hC hP ho cs _ h2⟩
 | .fn _ cs,_,h=>by
  unfold VR at h ⊢
  obtain ⟨vs,h1,h2⟩:=h
  exact ⟨vs,h1,VL.mono hR hC hP ho cs _ h2⟩
 | .any,_,_=>by unfold VR; trivial
 | .int ..,_,h=>by unfold VR at h ⊢; exact h
 | .bool _,_,h=>by unfold VR at h ⊢; exact h
 | .str _,_,h=>by unfold VR at h ⊢; exact h
 | .nil,_,h=>by unfold VR at h ⊢; exact h
 | .sl _,_,h=>by unfold VR at h ⊢; exact hR _ _ h
 | .rp _,_,h=>by unfold VR at h ⊢; exact hR _ _ h
theorem VL.mono (hR : ∀ a v,RR c.w c.ro a v -> RR c'.w c'.ro a v) (hC : ∀ id x y z v,VR c (.cel id x y z) v -> VR c' (.cel id x y z) v) (hP : ∀ id lo n cp v,PrtR c id lo n cp v -> PrtR c' id lo n cp v)
  (ho : ∀ id o,c.objs id = some o -> ∃ o',c'.objs id = some o' /\ o'.esz = o.esz /\ (c'.hdr id).v = (c.hdr id).v) :
  ∀ (as : List AV) (vs : List Value),VL c as vs -> VL c' as vs
 | [],[],_=>by unfold VL; trivial
 | a :: as,v :: vs,h=>by
  unfold VL at h ⊢
  exact ⟨VR.mono hR hC hP ho a v h.1,VL.mono hR hC hP ho as vs h.2⟩
 | [],_ :: _,h=>by unfold VL at h; exact h.elim
 | _ :: _,[],h=>by unfold VL at h; exact h.elim
end
def subP (a : AV) (lo n cp : Nat) : AV :=
 match a with
 | .cel j _ _ _=>.prt j lo n cp
 | _=>.any
def AV.sub (so : Nat -> AV) (sp : Nat -> Nat -> Nat -> AV) (sc : SC) : AV -> AV
 | .own id=>so id
 | .ptr id idx off=>sp id idx off
 | .cel id idx off xs=>sc id idx off xs
 | .prt id lo n cp=>subP (sc id 0 0 []) lo n cp
 | .agg cs=>.agg (subL cs)
 | .tup cs=>.tup (subL cs)
 | .fn f cs=>.fn f (subL cs)
 | a=>a
where subL : List AV -> List AV
 | []=>[]
 | a :: as=>AV.sub so sp sc a :: subL as
mutual
theorem VR.sub {so : Nat -> AV} {sp : Nat -> Nat -> Nat -> AV} {sc : SC} (hR : ∀ a v,RR c.w c.ro a v -> RR c'.w c'.ro a v)
  (hso : ∀ id v,VR c (.own id) v -> VR c' (so id) v) (hsp : ∀ id idx off v,VR c (.ptr id idx off) v -> VR c' (sp id idx off) v) (hsc : ∀ id idx off xs v,VR c (.cel id idx off xs) v -> VR c' (sc id idx off xs) v) (hpt : ∀ id j x y z lo n cp v,sc id 0 0 [] = .cel j x y z -> PrtR c id lo n cp v -> PrtR c' j lo n cp v) :
  ∀ (a : AV) (v : Value),VR c a v -> VR c' (a.sub so sp sc) v
 | .own id,v,h=>by unfold AV.sub; exact hso id v h
 | .ptr id idx off,v,h=>by unfold AV.sub; exact hsp id idx off v h
 | .cel id idx off xs,v,h=>by unfold AV.sub; exact hsc id idx off xs v h
 | .prt id lo n cp,v,h=>by
  unfold AV.sub subP
  split
  ·rename_i j x y z hj
   unfold VR at h ⊢
   exact hpt id j x y z lo n cp v hj h
  ·unfold VR; trivial
 | .agg cs,_,h=>by
  unfold AV.sub
  unfold VR at h ⊢
  obtain ⟨vs,h1,h2⟩:=h
  exact ⟨vs,h1,VL.sub hR hso hsp hsc hpt cs _ h2⟩
 | .tup cs,_,h=>by
  unfold AV.sub
  unfold VR at h ⊢
  obtain ⟨vs,h1,h2⟩:=h
  exact ⟨vs,h1,VL.sub hR hso hsp hsc hpt cs _ h2⟩
 | .fn _ cs,_,h=>by
  unfold AV.sub
  unfold VR at h ⊢
  obtain ⟨vs,h1,h2⟩:=h
  exact ⟨vs,h1,VL.sub hR hso hsp hsc hpt cs _ h2⟩
 | .any,_,_=>by unfold AV.sub VR; trivial
 | .int ..,_,h=>by unfold AV.sub; unfold VR at h ⊢; exact h
 | .bool _,_,h=>by unfold AV.sub; unfold VR at h ⊢; exact h
 | .str _,_,h=>by unfold AV.sub; unfold VR at h ⊢; exact h
 | .nil,_,h=>by unfold AV.sub; unfold VR at h ⊢; exact h
 | .sl _,_,h=>by unfold AV.sub; unfold VR at h ⊢; exact hR _ _ h
 | .rp _,_,h=>by unfold AV.sub; unfold VR at h ⊢; exact hR _ _ h
theorem VL.sub {so : Nat -> AV} {sp : Nat -> Nat -> Nat -> AV} {sc : SC} (hR : ∀ a v,RR c.w c.ro a v -> RR c'.w c'.ro a v)
  (hso : ∀ id v,VR c (.own id) v -> VR c' (so id) v) (hsp : ∀ id idx off v,VR c (.ptr id idx off) v -> VR c' (sp id idx off) v) (hsc : ∀ id idx off xs v,VR c (.cel id idx off xs) v -> VR c' (sc id idx off xs) v) (hpt : ∀ id j x y z lo n cp v,sc id 0 0 [] = .cel j x y z -> PrtR c id lo n cp v -> PrtR c' j lo n cp v) :
  ∀ (as : List AV) (vs : List Value),VL c as vs -> VL c' (AV.sub.subL so sp sc as) vs
 | [],[],_=>by unfold AV.sub.subL VL; trivial
 | a :: as,v :: vs,h=>by
  unfold VL at h
  unfold AV.sub.subL VL
  exact ⟨VR.sub hR hso hsp hsc hpt a v h.1,VL.sub hR hso hsp hsc hpt as vs h.2⟩
 | [],_ :: _,h=>by unfold VL at h; exact h.elim
 | _ :: _,[],h=>by unfold VL at h; exact h.elim
end
end
mutual
theorem AV.sub_id : ∀ a : AV,a.sub (fun i=>.own i) (fun i x y=>.ptr i x y) (fun i x y z=>.cel i x y z) = a
 | .prt _ _ _ _=>by unfold AV.sub subP; rfl
 | .own _ | .ptr _ _ _ | .cel _ _ _ _ | .any | .int _ _ | .bool _ | .str _ | .nil | .sl _ | .rp _=>by unfold AV.sub; rfl
 | .agg cs=>by unfold AV.sub; rw [AV.subL_id cs]
 | .tup cs=>by unfold AV.sub; rw [AV.subL_id cs]
 | .fn _ cs=>by unfold AV.sub; rw [AV.subL_id cs]
theorem AV.subL_id : ∀ as : List AV,AV.sub.subL (fun i=>.own i) (fun i x y=>.ptr i x y) (fun i x y z=>.cel i x y z) as = as
 | []=>by unfold AV.sub.subL; rfl
 | a :: as=>by unfold AV.sub.subL; rw [AV.sub_id a,AV.subL_id as]
end
end Go.Ab
namespace Go.Ab
open Go.RowKit
def OwnR (w : World) (N : Nat -> Prop) (e size : Nat) (v : Value) (n : Nat) (xs : List Value) : Prop :=
 xs.length = n * size /\
 ((∃ base,v = .slice base 0 0 /\ n = 0) \/
 ∃ g cap cur,v = .slice (some ⟨g,0,none⟩) n cap /\ 0 < cap /\ N g /\ w.heap[g]? = some (.cells cur e (0,0)) /\ n <= cap /\ cap <= maxLen /\ cur.size = cap * size /\ cur.toList.take (n * size) = xs)
section
variable {w : World} {N : Nat -> Prop} {e size : Nat} {v : Value} {n : Nat} {xs : List Value}
theorem blk_slice {g n cap : Nat} (h : 0 < cap) : Value.blk (.slice (some ⟨g,0,none⟩) n cap) = some g:=by simp only [Value.blk]; rw [if_neg (by omega)]
theorem blk_zero {base : Option Addr} {n : Nat} : Value.blk (.slice base n 0) = none:=by cases base <;> simp [Value.blk]
theorem OwnR.lt (h : OwnR w N e size v n xs) : ∀ k,v.blk = some k -> N k /\ k < w.heap.size:=by
 intro k hk
 rcases h.2 with ⟨base,rfl,_⟩ | ⟨g,cap,cur,rfl,hc,hb,hg,_⟩
 ·rw [blk_zero] at hk; cases hk
 ·rw [blk_slice hc] at hk
  cases hk
  exact ⟨hb,(Array.getElem?_eq_some_iff.1 hg).1⟩
theorem OwnR.mono {w' : World} {N' : Nat -> Prop} (h : OwnR w N e size v n xs) (hb : ∀ b,v.blk = some b -> w'.heap[b]? = w.heap[b]?) (hN : ∀ b,v.blk = some b -> N b -> N' b) : OwnR w' N' e size v n xs:=by
 refine ⟨h.1,?_⟩
 rcases h.2 with hn | ⟨g,cap,cur,rfl,hc,hg,hgg,rest⟩
 ·exact .inl hn
 ·exact .inr ⟨g,cap,cur,rfl,hc,hN g (blk_slice hc) hg,by rw [hb g (blk_slice hc)]; exact hgg,rest⟩
theorem OwnR.kept {w' : World} {row : Option Nat} (h : OwnR w N e size v n xs) (hg : w.grownBy w' row) (hne : v.blk = none \/ v.blk ≠ row) : OwnR w' N e size v n xs:=by
 refine h.mono (fun b hb=>hg.block b (h.lt b hb).2 ?_) (fun _ _ h=>h)
 rw [hb] at hne
 simpa using hne
theorem OwnR.row (h : OwnR w N e size v n xs) {g : Nat} (hg : v.blk = some g) : w.ownsRow 0 e size v n xs:=by
 refine ⟨h.1,?_⟩
 rcases h.2 with ⟨base,rfl,_⟩ | ⟨g,cap,cur,rfl,hc,_,rest⟩
 ·rw [blk_zero] at hg; cases hg
 ·exact .inr ⟨g,cap,cur,rfl,Nat.zero_le _,rest⟩
theorem OwnR.cells (h : OwnR w N e size v n xs) {g : Nat} (hg : v.blk = some g) : ∀ j u,xs[j]? = some u -> w.cell? ((⟨g,0,none⟩ : Addr).add j) = some u:=by
 refine (h.row hg).cells ?_
 rcases h.2 with ⟨base,rfl,_⟩ | ⟨g,cap,cur,rfl,hc,rest⟩
 ·rw [blk_zero] at hg; cases hg
 ·rw [blk_slice hc] at hg
  exact hg
theorem OwnR.of_row {B : Nat} (h : w.ownsRow B e size v n xs) (hN : ∀ b,B <= b -> N b) : OwnR w N e size v n xs:=by
 refine ⟨h.1,?_⟩
 rcases h.2 with ⟨rfl,hn⟩ | ⟨g,cap,cur,rfl,h1,h2,h3,h4⟩
 ·exact .inl ⟨none,rfl,hn⟩
 ·by_cases hc : cap = 0
  ·subst hc
   have : n = 0:=by omega
   subst this
   exact .inl ⟨_,rfl,rfl⟩
  ·exact .inr ⟨g,cap,cur,rfl,by omega,hN g h1,h2,h3,h4⟩
theorem OwnR.uniq {N' : Nat -> Prop} {e' : Nat} {ys : List Value} (h : OwnR w N e size v n xs) (h' : OwnR w N' e' size v n ys) : xs = ys:=by
 rcases h.2 with ⟨base,e1,hn⟩ | ⟨g,cap,cur,e1,hc,_,hg,_,_,_,ht⟩
 ·have h1:=h.1
  have h2:=h'.1
  rw [hn,Nat.zero_mul] at h1 h2
  rw [List.length_eq_zero_iff.1 h1,List.length_eq_zero_iff.1 h2]
 ·rcases h'.2 with ⟨base,e2,hn⟩ | ⟨g',cap',cur',e2,_,_,hg',_,_,_,ht'⟩
  ·rw [e1] at e2
   cases e2
   omega
  ·rw [e1] at e2
   cases e2
   rw [hg] at hg'
   cases hg'
   rw [<- ht,<- ht']
theorem OwnR.one (h : OwnR w N e size v n xs) : v.oneCell' = true:=by
 rcases h.2 with ⟨_,e,_⟩ | ⟨g,cap,cur,e,_⟩ <;> rw [e] <;> rfl
end
mutual
def TR (w : World) : AV -> Shp -> Value -> List Nat -> Prop
 | .sl xs,sh,v,S=>∃ ty esz cells cs S',sh = .sl ty esz cells /\ 0 < esz /\ OwnR w (fun _=>True) ty esz v xs.length cs /\ (∀ u ∈ cs,u.oneCell' = true) /\ S = v.blk.toList ++ S' /\ TEs w esz cells xs cs S'
 | .nil,sh,v,S=>(∃ ty esz cells,sh = .sl ty esz cells) /\ (∃ base,v = .slice base 0 0) /\ S = []
 | .int k n,sh,v,S=>sh = .leaf /\ v = .int k n /\ S = []
 | .bool b,sh,v,S=>sh = .leaf /\ v = .bool b /\ S = []
 | .str l,sh,v,S=>sh = .leaf /\ v = .string ⟨l.toArray⟩ /\ S = []
 | .any,_,_,S=>S = []
 | .rp _,_,_,_=>False
 | .own _,_,_,_=>False
 | .ptr _ _ _,_,_,_=>False
 | .cel _ _ _ _,_,_,_=>False
 | .prt _ _ _ _,_,_,_=>False
 | .agg _,_,_,_=>False
 | .tup _,_,_,_=>False
 | .fn _ _,_,_,_=>False
def TL (w : World) : List AV -> List Shp -> List Value -> List Nat -> Prop
 | [],shs,vs,S=>shs = [] /\ vs = [] /\ S = []
 | a :: as,shs,vs,S=>∃ sh shs' v vs' S1 S2,shs = sh :: shs' /\ vs = v :: vs' /\ S = S1 ++ S2 /\ TR w a sh v S1 /\ TL w as shs' vs' S2
def TEs (w : World) (esz : Nat) (cells : List Shp) : List (List AV) -> List Value -> List Nat -> Prop
 | [],vs,S=>vs = [] /\ S = []
 | x :: xs,vs,S=>∃ v1 v2 S1 S2,vs = v1 ++ v2 /\ v1.length = esz /\ S = S1 ++ S2 /\ TL w x cells v1 S1 /\ TEs w esz cells xs v2 S2
end
section
variable {w w' : World}
mutual
theorem TR.mono : ∀ (a : AV) (sh : Shp) (v : Value) (S : List Nat),(∀ b ∈ S,w'.heap[b]? = w.heap[b]?) -> TR w a sh v S -> TR w' a sh v S
 | .sl xs,sh,v,S,hS,h=>by
  unfold TR at h ⊢
  obtain ⟨ty,esz,cells,cs,S',h1,h2,h3,h4,h5,h6⟩:=h
  refine ⟨ty,esz,cells,cs,S',h1,h2,h3.mono (fun b hb=>hS b (by rw [h5,hb]; simp)) (fun _ _ h=>h),h4,h5,TEs.mono esz cells xs cs S' (fun b hb=>hS b (by rw [h5]; simp [hb])) h6⟩
 | .nil,sh,v,S,hS,h=>by unfold TR at h ⊢; exact h
 | .int ..,sh,v,S,hS,h=>by unfold TR at h ⊢; exact h
 | .bool _,sh,v,S,hS,h=>by unfold TR at h ⊢; exact h
 | .str _,sh,v,S,hS,h=>by unfold TR at h ⊢; exact h
 | .any,sh,v,S,hS,h=>by unfold TR at h ⊢; exact h
 | .rp _,_,_,_,_,h=>by unfold TR at h; exact h.elim
 | .own _,_,_,_,_,h=>by unfold TR at h; exact h.elim
 | .ptr _ _ _,_,_,_,_,h=>by unfold TR at h; exact h.elim
 | .cel _ _ _ _,_,_,_,_,h=>by unfold TR at h; exact h.elim
 | .prt _ _ _ _,_,_,_,_,h=>by unfold TR at h; exact h.elim
 | .agg _,_,_,_,_,h=>by unfold TR at h; exact h.elim
 | .tup _,_,_,_,_,h=>by unfold TR at h; exact h.elim
 | .fn _ _,_,_,_,_,h=>by unfold TR at h; exact h.elim
theorem TL.mono : ∀ (as : List AV) (shs : List Shp) (vs : List Value) (S : List Nat),(∀ b ∈ S,w'.heap[b]? = w.heap[b]?) -> TL w as shs vs S -> TL w' as shs vs S
 | [],shs,vs,S,_,h=>by unfold TL at h ⊢; exact h
 | a :: as,shs,vs,S,hS,h=>by
  unfold TL at h ⊢
  obtain ⟨sh,shs',v,vs',S1,S2,h1,h2,h3,h4,h5⟩:=h
  exact ⟨sh,shs',v,vs',S1,S2,h1,h2,h3,TR.mono a sh v S1 (fun b hb=>hS b (by rw [h3]; simp [hb])) h4,TL.mono as shs' vs' S2 (fun b hb=>hS b (by rw [h3]; simp [hb])) h5⟩
theorem TEs.mono (esz : Nat) (cells : List Shp) : ∀ (xs : List (List AV)) (vs : List Value) (S : List Nat),(∀ b ∈ S,w'.heap[b]? = w.heap[b]?) -> TEs w esz cells xs vs S -> TEs w' esz cells xs vs S
 | [],vs,S,_,h=>by unfold TEs at h ⊢; exact h
 | x :: xs,vs,S,hS,h=>by
  unfold TEs at h ⊢
  obtain ⟨v1,v2,S1,S2,h1,h2,h3,h4,h5⟩:=h
  exact ⟨v1,v2,S1,S2,h1,h2,h3,TL.mono x cells v1 S1 (fun b hb=>hS b (by rw [h3]; simp [hb])) h4,TEs.mono esz cells xs v2 S2 (fun b hb=>hS b (by rw [h3]; simp [hb])) h5⟩
end
mutual
theorem TR.lt : ∀ (a : AV) (sh : Shp) (v : Value) (S : List Nat),TR w a sh v S -> ∀ b ∈ S,b < w.heap.size
 | .sl xs,sh,v,S,h=>by
  unfold TR at h
  obtain ⟨ty,esz,cells,cs,S',h1,h2,h3,h4,h5,h6⟩:=h
  intro b hb
  rw [h5] at hb
  rcases List.mem_append.1 hb with hb | hb
  ·exact (h3.lt b (by simpa using hb)).2
  ·exact TEs.lt esz cells xs cs S' h6 b hb
 | .nil,sh,v,S,h=>by unfold TR at h; rw [h.2.2]; simp
 | .int ..,sh,v,S,h=>by unfold TR at h; rw [h.2.2]; simp
 | .bool _,sh,v,S,h=>by unfold TR at h; rw [h.2.2]; simp
 | .str _,sh,v,S,h=>by unfold TR at h; rw [h.2.2]; simp
 | .any,sh,v,S,h=>by unfold TR at h; rw [h]; simp
 | .rp _,_,_,_,h=>by unfold TR at h; exact h.elim
 | .own _,_,_,_,h=>by unfold TR at h; exact h.elim
 | .ptr _ _ _,_,_,_,h=>by unfold TR at h; exact h.elim
 | .cel _ _ _ _,_,_,_,h=>by unfold TR at h; exact h.elim
 | .prt _ _ _ _,_,_,_,h=>by unfold TR at h; exact h.elim
 | .agg _,_,_,_,h=>by unfold TR at h; exact h.elim
 | .tup _,_,_,_,h=>by unfold TR at h; exact h.elim
 | .fn _ _,_,_,_,h=>by unfold TR at h; exact h.elim
theorem TL.lt : ∀ (as : List AV) (shs : List Shp) (vs : List Value) (S : List Nat),TL w as shs vs S -> ∀ b ∈ S,b < w.heap.size
 | [],shs,vs,S,h=>by unfold TL at h; rw [h.2.2]; simp
 | a :: as,shs,vs,S,h=>by
  unfold TL at h
  obtain ⟨sh,shs',v,vs',S1,S2,h1,h2,h3,h4,h5⟩:=h
  intro b hb
  rw [h3] at hb
  rcases List.mem_append.1 hb with hb | hb
  ·exact TR.lt a sh v S1 h4 b hb
  ·exact TL.lt as shs' vs' S2 h5 b hb
theorem TEs.lt (esz : Nat) (cells : List Shp) : ∀ (xs : List (List AV)) (vs : List Value) (S : List Nat),TEs w esz cells xs vs S -> ∀ b ∈ S,b < w.heap.size
 | [],vs,S,h=>by unfold TEs at h; rw [h.2]; simp
 | x :: xs,vs,S,h=>by
  unfold TEs at h
  obtain ⟨v1,v2,S1,S2,h1,h2,h3,h4,h5⟩:=h
  intro b hb
  rw [h3] at hb
  rcases List.mem_append.1 hb with hb | hb
  ·exact TL.lt x cells v1 S1 h4 b hb
  ·exact TEs.lt esz cells xs v2 S2 h5 b hb
end
end
theorem VL.length {c : Ctx} : ∀ {as : List AV} {vs : List Value},VL c as vs -> as.length = vs.length
 | [],[],_=>rfl
 | a :: as,v :: vs,h=>by
  unfold VL at h
  simp [VL.length h.2]
 | [],_ :: _,h=>by unfold VL at h; exact h.elim
 | _ :: _,[],h=>by unfold VL at h; exact h.elim
theorem VL.nil {c : Ctx} : VL c [] []:=by unfold VL; trivial
theorem VL.cons {c : Ctx} {a : AV} {v : Value} {as : List AV} {vs : List Value} (h : VR c a v) (hs : VL c as vs) : VL c (a :: as) (v :: vs):=by
 unfold VL; exact ⟨h,hs⟩
theorem VL.append {c : Ctx} : ∀ {as : List AV} {vs : List Value} {bs : List AV} {us : List Value},VL c as vs -> VL c bs us -> VL c (as ++ bs) (vs ++ us)
 | [],[],_,_,_,h=>by simpa using h
 | a :: as,v :: vs,_,_,h,h'=>by
  unfold VL at h
  exact VL.cons h.1 (VL.append h.2 h')
 | [],_ :: _,_,_,h,_=>by unfold VL at h; exact h.elim
 | _ :: _,[],_,_,h,_=>by unfold VL at h; exact h.elim
theorem VL.take {c : Ctx} : ∀ (n : Nat) {as : List AV} {vs : List Value},VL c as vs -> VL c (as.take n) (vs.take n)
 | 0,_,_,_=>by simpa using VL.nil
 | n + 1,[],[],_=>by simpa using VL.nil
 | n + 1,a :: as,v :: vs,h=>by
  unfold VL at h
  exact VL.cons h.1 (VL.take n h.2)
 | _ + 1,[],_ :: _,h=>by unfold VL at h; exact h.elim
 | _ + 1,_ :: _,[],h=>by unfold VL at h; exact h.elim
theorem VL.drop {c : Ctx} : ∀ (n : Nat) {as : List AV} {vs : List Value},VL c as vs -> VL c (as.drop n) (vs.drop n)
 | 0,_,_,h=>by simpa using h
 | n + 1,[],[],_=>by simpa using VL.nil
 | n + 1,a :: as,v :: vs,h=>by
  unfold VL at h
  simpa using VL.drop n h.2
 | _ + 1,[],_ :: _,h=>by unfold VL at h; exact h.elim
 | _ + 1,_ :: _,[],h=>by unfold VL at h; exact h.elim
theorem VL.get {c : Ctx} : ∀ {as : List AV} {vs : List Value},VL c as vs -> ∀ (i : Nat) (a : AV),as[i]? = some a -> ∃ v,vs[i]? = some v /\ VR c a v
 | [],_,_,i,a,h=>by simp at h
 | a :: as,v :: vs,h,0,b,hb=>by
  unfold VL at h
  simp at hb
  subst hb
  exact ⟨v,rfl,h.1⟩
 | a :: as,v :: vs,h,i + 1,b,hb=>by
  unfold VL at h
  simpa using VL.get h.2 i b (by simpa using hb)
 | _ :: _,[],h,_,_,_=>by unfold VL at h; exact h.elim
theorem RR.value {c : Ctx} : ∀ (a : AV) (v : Value),RR c.w c.ro a v -> VR c a v
 | .any,_,_=>by unfold VR; trivial
 | .int ..,_,h=>by unfold RR at h; unfold VR; exact h
 | .bool _,_,h=>by unfold RR at h; unfold VR; exact h
 | .str _,_,h=>by unfold RR at h; unfold VR; exact h
 | .nil,_,h=>by unfold RR at h; unfold VR; exact h
 | .sl _,_,h=>by unfold VR; exact h
 | .rp _,_,h=>by unfold VR; exact h
 | .own _,_,h=>by unfold RR at h; exact h.elim
 | .ptr _ _ _,_,h=>by unfold RR at h; exact h.elim
 | .cel _ _ _ _,_,h=>by unfold RR at h; exact h.elim
 | .prt _ _ _ _,_,h=>by unfold RR at h; exact h.elim
 | .agg cs,_,h=>by
  unfold RR at h
  unfold VR
  obtain ⟨vs,h1,h2⟩:=h
  exact ⟨vs,h1,values cs _ h2⟩
 | .tup cs,_,h=>by
  unfold RR at h
  unfold VR
  obtain ⟨vs,h1,h2⟩:=h
  exact ⟨vs,h1,values cs _ h2⟩
 | .fn _ cs,_,h=>by
  unfold RR at h
  unfold VR
  obtain ⟨vs,h1,h2⟩:=h
  exact ⟨vs,h1,values cs _ h2⟩
where values {c : Ctx} : ∀ (as : List AV) (vs : List Value),LR c.w c.ro as vs -> VL c as vs
 | [],[],_=>VL.nil
 | a :: as,v :: vs,h=>by
  unfold LR at h
  exact VL.cons (RR.value a v h.1) (values as vs h.2)
 | [],_ :: _,h=>by unfold LR at h; exact h.elim
 | _ :: _,[],h=>by unfold LR at h; exact h.elim
def AV.one : AV -> Bool
 | .any | .cel _ _ _ _ | .prt _ _ _ _ | .agg _ | .tup _=>false
 | _=>true
def AV.cells : AV -> List AV
 | .agg cs=>cs
 | a=>[a]
def AV.plain : AV -> Bool
 | .int _ _ | .bool _ | .str _ | .nil | .sl _=>true
 | _=>false
theorem VR.oneCell {c : Ctx} {a : AV} {v : Value} (h : VR c a v) (h1 : a.one = true) (hh : ∀ id,(c.objs id).isSome = true -> (c.hdr id).v.oneCell' = true) : v.oneCell' = true:=by
 cases a <;> simp [AV.one] at h1 <;> unfold VR at h
 case int=>subst h; rfl
 case bool=>subst h; rfl
 case str=>subst h; rfl
 case nil=>obtain ⟨_,h⟩:=h; subst h; rfl
 case sl=>unfold RR at h; obtain ⟨_,_,h,_⟩:=h; subst h; rfl
 case rp=>unfold RR at h; obtain ⟨_,_,h,_⟩:=h; subst h; rfl
 case own id=>obtain ⟨h1,h⟩:=h; subst h; exact hh id h1
 case ptr=>obtain ⟨_,_,_,_,h⟩:=h; subst h; rfl
 case fn=>obtain ⟨_,h,_⟩:=h; subst h; rfl
theorem plain_one {a : AV} (h : a.plain = true) : a.one = true:=by cases a <;> simp_all [AV.plain,AV.one]
theorem VR.readOnly {c : Ctx} {a : AV} {v : Value} (h : VR c a v) (h1 : a.plain = true) : RR c.w c.ro a v:=by
 cases a <;> simp [AV.plain] at h1 <;> unfold VR at h <;> first | exact h | (unfold RR; exact h)
theorem VL.readOnly {c : Ctx} : ∀ {as : List AV} {vs : List Value},VL c as vs -> as.all AV.plain = true -> LR c.w c.ro as vs
 | [],[],_,_=>by unfold LR; trivial
 | a :: as,v :: vs,h,hp=>by
  unfold VL at h
  simp at hp
  unfold LR
  exact ⟨h.1.readOnly hp.1,VL.readOnly h.2 (by simpa using hp.2)⟩
 | [],_ :: _,h,_=>by unfold VL at h; exact h.elim
 | _ :: _,[],h,_=>by unfold VL at h; exact h.elim
structure St where
 env : Nat -> AV
 sz : Nat
 objs : Nat -> Option AObj
 nxt : Nat
 gh : List AV
def roOf (F : Nat -> Prop) (w : World) (hdr : Nat -> Hdr) (objs : Nat -> Option AObj) : Nat -> Prop :=
 fun b=>F b /\ b < w.heap.size /\ ∀ id o,objs id = some o -> ¬ (hdr id).has b
def St.ctx (s : St) (F : Nat -> Prop) (w : World) (hdr : Nat -> Hdr) : Ctx:=⟨w,roOf F w hdr s.objs,hdr,s.objs⟩
def CellsR (c : Ctx) (o : AObj) (cs : List Value) (fp : List Nat) : Prop :=
 match o.kind with
 | .box=>VL c o.elems.flatten cs /\ fp = []
 | .slc=>LR c.w c.ro o.elems.flatten cs /\ fp = []
 | .deep sh=>TEs c.w o.esz sh o.elems cs fp
theorem CellsR_box {c : Ctx} {o : AObj} {cs : List Value} (hk : o.kind = .box) (h : VL c o.elems.flatten cs) : CellsR c o cs []:=by unfold CellsR; rw [hk]; exact ⟨h,rfl⟩
theorem CellsR_slc {c : Ctx} {o : AObj} {cs : List Value} (hk : o.kind = .slc) (h : LR c.w c.ro o.elems.flatten cs) : CellsR c o cs []:=by unfold CellsR; rw [hk]; exact ⟨h,rfl⟩
theorem CellsR_deep {c : Ctx} {o : AObj} {cs : List Value} {fp : List Nat} {sh : List Shp} (hk : o.kind = .deep sh) (h : TEs c.w o.esz sh o.elems cs fp) : CellsR c o cs fp:=by unfold CellsR; rw [hk]; exact h
theorem CellsR.box {c : Ctx} {o : AObj} {cs : List Value} {fp : List Nat} (h : CellsR c o cs fp) (hk : o.kind = .box) : VL c o.elems.flatten cs /\ fp = []:=by unfold CellsR at h; rw [hk] at h; exact h
theorem CellsR.slc {c : Ctx} {o : AObj} {cs : List Value} {fp : List Nat} (h : CellsR c o cs fp) (hk : o.kind = .slc) : LR c.w c.ro o.elems.flatten cs /\ fp = []:=by unfold CellsR at h; rw [hk] at h; exact h
theorem CellsR.deep {c : Ctx} {o : AObj} {cs : List Value} {fp : List Nat} {sh : List Shp} (h : CellsR c o cs fp) (hk : o.kind = .deep sh) : TEs c.w o.esz sh o.elems cs fp:=by unfold CellsR at h; rw [hk] at h; exact h
structure ObjR (N : Nat -> Prop) (c : Ctx) (o : AObj) (h : Hdr) : Prop where
 pos : 0 < o.esz
 lens : ∀ e ∈ o.elems,e.length = o.esz
 nd : h.fp.Nodup /\ (∀ b,h.blk = some b -> b ∉ h.fp) /\ ∀ b ∈ h.fp,N b /\ b < c.w.heap.size
 row : ∃ cs,OwnR c.w N o.ty o.esz h.v o.elems.length cs /\ (∀ u ∈ cs,u.oneCell' = true) /\ CellsR c o cs h.fp
theorem nd_nil {N : Nat -> Prop} {v : Value} {w : World} : (Hdr.mk v []).fp.Nodup /\ (∀ b,(Hdr.mk v []).blk = some b -> b ∉ (Hdr.mk v []).fp) /\ ∀ b ∈ (Hdr.mk v []).fp,N b /\ b < w.heap.size :=
 ⟨List.nodup_nil,fun _ _=>by simp,fun b hb=>by simp at hb⟩
theorem ObjR.monoN {N N' : Nat -> Prop} {c : Ctx} {o : AObj} {h : Hdr} (hN : ∀ b,N b -> N' b) (ho : ObjR N c o h) : ObjR N' c o h:=by
 obtain ⟨h1,h2,⟨n1,n2,n3⟩,cs,h3,h4⟩:=ho
 exact ⟨h1,h2,⟨n1,n2,fun b hb=>⟨hN b (n3 b hb).1,(n3 b hb).2⟩⟩,cs,h3.mono (fun _ _=>rfl) (fun b _=>hN b),h4⟩
theorem ObjR.has {N : Nat -> Prop} {c : Ctx} {o : AObj} {h : Hdr} (ho : ObjR N c o h) {b : Nat} (hb : h.has b) : N b /\ b < c.w.heap.size:=by
 obtain ⟨_,_,n,cs,h3,_⟩:=ho
 rcases hb with hb | hb
 ·exact h3.lt b hb
 ·exact n.2.2 b hb
theorem ObjR.slc {N : Nat -> Prop} {c : Ctx} {o : AObj} {h : Hdr} (ho : ObjR N c o h) (hk : o.kind = .slc) : ∃ cs,OwnR c.w N o.ty o.esz h.v o.elems.length cs /\ (∀ u ∈ cs,u.oneCell' = true) /\ LR c.w c.ro o.elems.flatten cs /\ h.fp = []:=by
 obtain ⟨_,_,_,cs,h3,h4,h5⟩:=ho
 unfold CellsR at h5
 rw [hk] at h5
 exact ⟨cs,h3,h4,h5⟩
structure Base where
 w : World
 N : Nat -> Prop
 up : ∀ b,w.heap.size <= b -> N b
 tab : Tab w N
structure Frame (w0 : Base) (w : World) : Prop where
 os : w.os = w0.w.os
 tape : w.tape = w0.w.tape
 output : w.output = w0.w.output
 size : w0.w.heap.size <= w.heap.size
 block : ∀ k,k < w0.w.heap.size -> ¬ w0.N k -> w.heap[k]? = w0.w.heap[k]?
theorem Frame.refl (w0 : Base) : Frame w0 w0.w:=⟨rfl,rfl,rfl,Nat.le_refl _,fun _ _ _=>rfl⟩
structure Sim (F : Nat -> Prop) (w0 : Base) (gv : List Value) (s : St) (a : Act) (w : World) (hdr : Nat -> Hdr) : Prop where
 env : ∀ t,VR (s.ctx F w hdr) (s.env t) (a.eval (.tmp t))
 sz : a.tmps.size = s.sz
 defers : a.defers = []
 gh : VL (s.ctx F w hdr) s.gh gv
 objs : ∀ id o,s.objs id = some o -> ObjR w0.N (s.ctx F w hdr) o (hdr id)
 dis : ∀ i j o o' b,s.objs i = some o -> s.objs j = some o' -> (hdr i).has b -> (hdr j).has b -> i = j
 below : Frame w0 w
 free : ∀ b,w0.N b -> F b
def SimE (F : Nat -> Prop) (w0 : Base) (gv : List Value) (s : St) (a : Act) (w : World) : Prop:=∃ hdr,Sim F w0 gv s a w hdr
theorem Sim.tab {F : Nat -> Prop} {w0 : Base} {gv : List Value} {s : St} {a : Act} {w : World} {hdr : Nat -> Hdr} (h : Sim F w0 gv s a w hdr) {N : Nat -> Prop} (hN : ∀ b,N b -> w0.N b) : Tab w N:=w0.tab.frame h.below.size h.below.block hN
theorem Sim.news {F : Nat -> Prop} {w0 : Base} {gv : List Value} {s : St} {a : Act} {w : World} {hdr : Nat -> Hdr} (h : Sim F w0 gv s a w hdr) : Tab w (fun b=>w.heap.size <= b):=h.tab fun b hb=>w0.up b (Nat.le_trans h.below.size hb)
def subO (so : Nat -> AV) (sp : Nat -> Nat -> Nat -> AV) (sc : SC) (o : AObj) : AObj :=
 match o.kind with
 | .box=>{ o with elems:=o.elems.map (AV.sub.subL so sp sc) }
 | .slc=>o
 | .deep _=>o
theorem subL_length (so : Nat -> AV) (sp : Nat -> Nat -> Nat -> AV) (sc : SC) : ∀ (l : List AV),(AV.sub.subL so sp sc l).length = l.length
 | []=>by unfold AV.sub.subL; rfl
 | a :: l=>by unfold AV.sub.subL; simp [subL_length so sp sc l]
theorem subL_append (so : Nat -> AV) (sp : Nat -> Nat -> Nat -> AV) (sc : SC) : ∀ (l k : List AV),AV.sub.subL so sp sc (l ++ k) = AV.sub.subL so sp sc l ++ AV.sub.subL so sp sc k
 | [],k=>by simp [AV.sub.subL]
 | a :: l,k=>by simp [AV.sub.subL,subL_append so sp sc l k]
theorem subL_flatten (so : Nat -> AV) (sp : Nat -> Nat -> Nat -> AV) (sc : SC) : ∀ (xs : List (List AV)),(xs.map (AV.sub.subL so sp sc)).flatten = AV.sub.subL so sp sc xs.flatten
 | []=>by simp [AV.sub.subL]
 | x :: xs=>by simp [subL_append,subL_flatten so sp sc xs]
theorem subO_esz (so : Nat -> AV) (sp : Nat -> Nat -> Nat -> AV) (sc : SC) (o : AObj) : (subO so sp sc o).esz = o.esz /\ (subO so sp sc o).ty = o.ty /\ (subO so sp sc o).kind = o.kind /\ (subO so sp sc o).elems.length = o.elems.length:=by
 unfold subO
 split <;> simp
theorem subO_box (so : Nat -> AV) (sp : Nat -> Nat -> Nat -> AV) (sc : SC) (o : AObj) : (subO so sp sc o).box = o.box:=by
 unfold AObj.box
 rw [(subO_esz so sp sc o).2.2.1]
theorem subO_id (o : AObj) : subO (fun i=>.own i) (fun i x y=>.ptr i x y) (fun i x y z=>.cel i x y z) o = o:=by
 unfold subO
 split
 ·rename_i hk
  have : (AV.sub.subL (fun i=>AV.own i) (fun i x y=>AV.ptr i x y) (fun i x y z=>AV.cel i x y z)) = id:=by
   funext l
   exact AV.subL_id l
  rw [this,List.map_id]
 ·rfl
 ·rfl
section
variable {F : Nat -> Prop} {w0 : Base} {gv : List Value} {s : St} {a : Act} {w : World} {hdr : Nat -> Hdr}
theorem Sim.ge (h : Sim F w0 gv s a w hdr) {id : Nat} {o : AObj} (ho : s.objs id = some o) {b : Nat} (hb : (hdr id).has b) : w0.N b /\ b < w.heap.size:=(h.objs id o ho).has hb
theorem Sim.hdrOne (h : Sim F w0 gv s a w hdr) (id : Nat) (hi : (s.objs id).isSome = true) : (hdr id).v.oneCell' = true:=by
 obtain ⟨o,ho⟩:=Option.isSome_iff_exists.1 hi
 obtain ⟨cs,h1,_⟩:=(h.objs id o ho).row
 exact h1.one
def St.put (s : St) (d : Option Nat) (v : AV) : St :=
 match d with
 | none=>s
 | some d=>{ s with env:=fun t=>if t = d then v else s.env t }
def St.fits (s : St) (d : Option Nat) : Bool :=
 match d with
 | none=>true
 | some d=>decide (d < s.sz)
theorem Act.eval_put (a : Act) (d : Nat) (v : Value) (t : Nat) (hd : d < a.tmps.size) : (a.put (some d) v).eval (.tmp t) = if t = d then v else a.eval (.tmp t):=by
 simp only [Act.put,Act.eval]
 by_cases h : t = d
 ·subst h; simp [hd]
 ·simp [h,Array.getD_eq_getD_getElem?,Ne.symm h]
theorem Sim.put (h : Sim F w0 gv s a w hdr) {d : Option Nat} {x : AV} {v : Value} (hd : s.fits d = true) (hv : VR (s.ctx F w hdr) x v) : Sim F w0 gv (s.put d x) (a.put d v) w hdr:=by
 cases d with
 | none=>simpa [St.put,Act.put] using h
 | some d =>
  simp [St.fits] at hd
  refine ⟨fun t=>?_,?_,h.defers,h.gh,h.objs,h.dis,h.below,h.free⟩
  ·rw [Act.eval_put a d v t (by rw [h.sz]; exact hd)]
   simp only [St.put]
   by_cases ht : t = d
   ·simp only [ht,if_true]; exact hv
   ·simp only [ht,if_false]; exact h.env t
  ·simp [Act.put,St.put,h.sz]
theorem Sim.recast (h : Sim F w0 gv s a w hdr) {w' : World} {hdr' : Nat -> Hdr} {s' : St} {so : Nat -> AV} {sp : Nat -> Nat -> Nat -> AV} {sc : SC} (T C : Nat -> Prop)
  (hos : w'.os = w.os) (htp : w'.tape = w.tape) (hou : w'.output = w.output) (hsz : w.heap.size <= w'.heap.size)
  (hblk : ∀ k,k < w.heap.size -> ¬ T k -> w'.heap[k]? = w.heap[k]?) (hT : ∀ k,T k -> ∃ id o,s.objs id = some o /\ (hdr id).has k)
  (henv : ∀ t,s'.env t = (s.env t).sub so sp sc) (hz : s'.sz = s.sz) (hgh : s'.gh = AV.sub.subL so sp sc s.gh)
  (hown : ∀ i o b,s'.objs i = some o -> (hdr' i).has b -> (∃ j oj,s.objs j = some oj /\ (hdr j).has b) \/ w.heap.size <= b)
  (hso : ∀ id v,VR (s.ctx F w hdr) (.own id) v -> VR (s'.ctx F w' hdr') (so id) v)
  (hsp : ∀ id x y v,VR (s.ctx F w hdr) (.ptr id x y) v -> VR (s'.ctx F w' hdr') (sp id x y) v)
  (hsc : ∀ id x y z v,VR (s.ctx F w hdr) (.cel id x y z) v -> VR (s'.ctx F w' hdr') (sc id x y z) v)
  (hpt : ∀ id j x y z lo n cp v,sc id 0 0 [] = .cel j x y z -> PrtR (s.ctx F w hdr) id lo n cp v -> PrtR (s'.ctx F w' hdr') j lo n cp v)
  (hkeep : ∀ i o',s'.objs i = some o' -> ¬ C i -> ∃ o,s.objs i = some o /\ o' = subO so sp sc o /\ hdr' i = hdr i /\ ∀ b,(hdr i).has b -> ¬ T b)
  (hnew : (∀ x v,RR w (roOf F w hdr s.objs) x v -> RR w' (roOf F w' hdr' s'.objs) x v) -> ∀ i o',s'.objs i = some o' -> C i -> ObjR w0.N (s'.ctx F w' hdr') o' (hdr' i))
  (hdis : ∀ i j o o' b,s'.objs i = some o -> s'.objs j = some o' -> (hdr' i).has b -> (hdr' j).has b -> i = j) :
  Sim F w0 gv s' a w' hdr':=by
 have hro : ∀ b,roOf F w hdr s.objs b -> roOf F w' hdr' s'.objs b:=by
  intro b ⟨f1,f2,f3⟩
  refine ⟨f1,Nat.lt_of_lt_of_le f2 hsz,fun i o hi hb=>?_⟩
  rcases hown i o b hi hb with ⟨j,oj,h1,h2⟩ | h1
  ·exact f3 j oj h1 h2
  ·omega
 have hcell : ∀ k j,roOf F w hdr s.objs k -> w'.cell? ⟨k,j,none⟩ = w.cell? ⟨k,j,none⟩:=by
  intro k j ⟨f1,f2,f3⟩
  refine World.cell?_of_block (w:=w) (a:=⟨k,j,none⟩) (hblk k f2 fun ht=>?_)
  obtain ⟨i,o,h1,h2⟩:=hT k ht
  exact f3 i o h1 h2
 have hR : ∀ x v,RR w (roOf F w hdr s.objs) x v -> RR w' (roOf F w' hdr' s'.objs) x v:=fun x v=>RR.mono hcell hro x v
 have hL : ∀ x v,LR w (roOf F w hdr s.objs) x v -> LR w' (roOf F w' hdr' s'.objs) x v:=fun x v=>LR.mono hcell hro x v
 refine ⟨fun t=>?_,by rw [hz]; exact h.sz,h.defers,?_,fun i o' hi=>?_,hdis,?_,h.free⟩
 ·rw [henv]
  exact VR.sub (c:=s.ctx F w hdr) (c':=s'.ctx F w' hdr') hR hso hsp hsc hpt _ _ (h.env t)
 ·rw [hgh]
  exact VL.sub (c:=s.ctx F w hdr) (c':=s'.ctx F w' hdr') hR hso hsp hsc hpt _ _ h.gh
 ·by_cases hc : C i
  ·exact hnew hR i o' hi hc
  ·obtain ⟨o,ho,rfl,hh,hnt⟩:=hkeep i o' hi hc
   have hlt:=fun b hb=>(h.ge (b:=b) ho hb).2
   obtain ⟨k2,k3,⟨n1,n2,n3⟩,cs,k4,k5,k6⟩:=h.objs i o ho
   obtain ⟨s1,s2,s3,s4⟩:=subO_esz so sp sc o
   rw [hh]
   have hheap : ∀ b,(hdr i).has b -> w'.heap[b]? = w.heap[b]?:=fun b hb=>hblk b (hlt b hb) (hnt b hb)
   refine ⟨by rw [s1]; exact k2,?_,⟨n1,n2,fun b hb=>⟨(n3 b hb).1,Nat.lt_of_lt_of_le (n3 b hb).2 hsz⟩⟩,cs,?_,k5,?_⟩
   ·intro e he
    rw [s1]
    unfold subO at he
    split at he
    ·simp at he
     obtain ⟨e0,he0,rfl⟩:=he
     rw [subL_length]; exact k3 e0 he0
    ·exact k3 e he
    ·exact k3 e he
   ·rw [s1,s2,s4]
    exact k4.mono (fun b hb=>hheap b (.inl hb)) (fun _ _ h=>h)
   ·unfold CellsR at k6 ⊢
    rw [s3]
    cases hk : o.kind with
    | box =>
     simp only [hk] at k6 ⊢
     have e : (subO so sp sc o).elems.flatten = AV.sub.subL so sp sc o.elems.flatten:=by simp [subO,hk,subL_flatten]
     rw [e]
     exact ⟨VL.sub (c:=s.ctx F w hdr) (c':=s'.ctx F w' hdr') hR hso hsp hsc hpt _ _ k6.1,k6.2⟩
    | slc =>
     simp only [hk] at k6 ⊢
     have e : (subO so sp sc o).elems = o.elems:=by simp [subO,hk]
     rw [e]
     exact ⟨hL _ _ k6.1,k6.2⟩
    | deep sh =>
     simp only [hk] at k6 ⊢
     have e : (subO so sp sc o).elems = o.elems:=by simp [subO,hk]
     rw [e,s1]
     exact TEs.mono _ _ _ _ _ (fun b hb=>hheap b (.inr hb)) k6
 ·refine ⟨by rw [hos,h.below.os],by rw [htp,h.below.tape],by rw [hou,h.below.output],Nat.le_trans h.below.size hsz,fun k hk hn=>?_⟩
  rw [<- h.below.block k hk hn]
  refine hblk k (Nat.lt_of_lt_of_le hk h.below.size) fun ht=>?_
  obtain ⟨i,o,h1,h2⟩:=hT k ht
  exact hn (h.ge h1 h2).1
theorem cel_keep {c c' : Ctx} (ho : ∀ id o,c.objs id = some o -> ∃ o',c'.objs id = some o' /\ o'.esz = o.esz /\ (c'.hdr id).v = (c.hdr id).v)
  (hk : ∀ id o o' sh,c.objs id = some o -> c'.objs id = some o' -> o.kind = .deep sh -> o' = o)
  (hw : ∀ id o b j,c.objs id = some o -> (c.hdr id).blk = some b -> c'.w.cell? ⟨b,j,none⟩ = c.w.cell? ⟨b,j,none⟩) : ∀ id x y z v,VR c (.cel id x y z) v -> VR c' (.cel id x y z) v:=by
 intro id x y z v h
 unfold VR at h ⊢
 obtain ⟨o,b,sh,e,h1,hs,q1,q2,h2,h3⟩:=h
 obtain ⟨o',e1,e2,e3⟩:=ho id o h1
 have ee:=hk id o o' sh h1 e1 hs
 subst ee
 exact ⟨o',b,sh,e,e1,hs,q1,q2,by unfold Hdr.blk at h2 ⊢; rw [e3]; exact h2,by rw [hw id o' b _ h1 h2]; exact h3⟩
theorem ptr_keep {c c' : Ctx} (ho : ∀ id o,c.objs id = some o -> ∃ o',c'.objs id = some o' /\ o'.esz = o.esz /\ (c'.hdr id).v = (c.hdr id).v) : ∀ id x y v,VR c (.ptr id x y) v -> VR c' (.ptr id x y) v:=by
 intro id x y v h
 unfold VR at h ⊢
 obtain ⟨o,b,h1,h2,h3⟩:=h
 obtain ⟨o',e1,e2,e3⟩:=ho id o h1
 exact ⟨o',b,e1,by unfold Hdr.blk at h2 ⊢; rw [e3]; exact h2,by rw [e2]; exact h3⟩
theorem own_keep {c c' : Ctx} (ho : ∀ id o,c.objs id = some o -> ∃ o',c'.objs id = some o' /\ o'.esz = o.esz /\ (c'.hdr id).v = (c.hdr id).v) : ∀ id v,VR c (.own id) v -> VR c' (.own id) v:=by
 intro id v h
 unfold VR at h ⊢
 obtain ⟨h1,h2⟩:=h
 obtain ⟨o,h3⟩:=Option.isSome_iff_exists.1 h1
 obtain ⟨o',e1,e2,e3⟩:=ho id o h3
 exact ⟨by simp [e1],by rw [e3]; exact h2⟩
theorem prt_keep {c c' : Ctx} (ho : ∀ id o,c.objs id = some o -> ∃ o',c'.objs id = some o' /\ o'.esz = o.esz /\ (c'.hdr id).v = (c.hdr id).v /\ o'.box = o.box) : ∀ id lo n cp v,PrtR c id lo n cp v -> PrtR c' id lo n cp v:=by
 intro id lo n cp v ⟨o,h1,h2,h3,h4⟩
 obtain ⟨o',e1,e2,e3,e4⟩:=ho id o h1
 refine ⟨o',e1,by rw [e4]; exact h2,h3,?_⟩
 rw [e2,e3]
 exact h4
theorem prt_own {c c' : Ctx} (ho : ∀ id o,c.objs id = some o -> ∃ o',c'.objs id = some o' /\ o'.esz = o.esz /\ (c'.hdr id).v = (c.hdr id).v /\ o'.box = o.box) : ∀ id j x y z lo n cp v,AV.cel id 0 0 [] = .cel j x y z -> PrtR c id lo n cp v -> PrtR c' j lo n cp v:=by
 intro id j x y z lo n cp v e h
 cases e
 exact prt_keep ho id lo n cp v h
theorem Sim.grow (h : Sim F w0 gv s a w hdr) {w' : World} {hdr' : Nat -> Hdr} {objs' : Nat -> Option AObj} 
  (hb : Below w.heap.size w w') (hold : ∀ id o,s.objs id = some o -> objs' id = some o /\ hdr' id = hdr id) 
  (hnew : ∀ id o,objs' id = some o -> s.objs id = none -> ObjR (fun b=>w.heap.size <= b) ⟨w',roOf F w' hdr' objs',hdr',objs'⟩ o (hdr' id))
  (hdis : ∀ i j o o' b,objs' i = some o -> objs' j = some o' -> s.objs i = none -> s.objs j = none -> (hdr' i).has b -> (hdr' j).has b -> i = j) :
  Sim F w0 gv { s with objs:=objs' } a w' hdr':=by
 have hnb : ∀ id o b,objs' id = some o -> s.objs id = none -> (hdr' id).has b -> w.heap.size <= b:=fun id o b h1 h2 h3=>((hnew id o h1 h2).has h3).1
 have hO : ∀ id o,s.objs id = some o -> ∃ o',objs' id = some o' /\ o'.esz = o.esz /\ (hdr' id).v = (hdr id).v:=fun id o ho=>⟨o,(hold id o ho).1,rfl,by rw [(hold id o ho).2]⟩
 refine h.recast (s':={ s with objs:=objs' }) (so:=fun i=>.own i) (sp:=fun i x y=>.ptr i x y) (sc:=fun i x y=>.cel i x y) (fun _=>False) (fun i=>s.objs i = none) hb.os hb.tape hb.output hb.size (fun k hk _=>hb.block k hk) (fun _ h=>h.elim)
  (fun t=>(AV.sub_id _).symm) rfl (AV.subL_id _).symm ?_
  (own_keep (c:=s.ctx F w hdr) (c':=St.ctx { s with objs:=objs' } F w' hdr') hO) (ptr_keep (c:=s.ctx F w hdr) (c':=St.ctx { s with objs:=objs' } F w' hdr') hO)
  (cel_keep (c:=s.ctx F w hdr) (c':=St.ctx { s with objs:=objs' } F w' hdr') hO (fun id o o' sh h1 h2 h3=>by have h2' : objs' id = some o':=h2; rw [(hold id o h1).1] at h2'; cases h2'; rfl) (fun id o b j ho hbk=>hb.cell (p:=⟨b,j,none⟩) (h.ge ho (.inl hbk)).2))
  (prt_own (c:=s.ctx F w hdr) (c':=St.ctx { s with objs:=objs' } F w' hdr') fun id o ho=>⟨o,(hold id o ho).1,rfl,by show (hdr' id).v = _; rw [(hold id o ho).2]; rfl,rfl⟩) ?_ ?_ ?_
 ·intro i o b hi hbb
  cases hs : s.objs i with
  | none=>exact .inr (hnb i o b hi hs hbb)
  | some o1 =>
   rw [(hold i o1 hs).2] at hbb
   exact .inl ⟨i,o1,hs,hbb⟩
 ·intro i o' hi hc
  cases hs : s.objs i with
  | none=>exact absurd hs hc
  | some o1 =>
   refine ⟨o1,rfl,?_,(hold i o1 hs).2,fun _ _ h=>h⟩
   rw [subO_id]
   have:=(hold i o1 hs).1
   replace hi : objs' i = some o':=hi
   rw [this] at hi
   exact (Option.some.inj hi).symm
 ·intro _ i o' hi hc
  exact (hnew i o' hi hc).monoN fun b hb=>w0.up b (Nat.le_trans h.below.size hb)
 ·intro i j o o' b hi hj bi bj
  cases hsi : s.objs i with
  | none =>
   cases hsj : s.objs j with
   | none=>exact hdis i j o o' b hi hj hsi hsj bi bj
   | some o2 =>
    have h1:=hnb i o b hi hsi bi
    rw [(hold j o2 hsj).2] at bj
    have h2:=(h.ge hsj bj).2
    omega
  | some o1 =>
   rw [(hold i o1 hsi).2] at bi
   cases hsj : s.objs j with
   | none =>
    have h1:=hnb j o' b hj hsj bj
    have h2:=(h.ge hsi bi).2
    omega
   | some o2 =>
    rw [(hold j o2 hsj).2] at bj
    exact h.dis i j o1 o2 b hsi hsj bi bj
end
end Go.Ab
namespace Go.Ab
open Go.RowKit
theorem flatten_length {α : Type} (n : Nat) : ∀ (xs : List (List α)),(∀ e ∈ xs,e.length = n) -> xs.flatten.length = xs.length * n
 | [],_=>by simp
 | x :: xs,h=>by
  have h1:=h x (by simp)
  have h2:=flatten_length n xs (fun e he=>h e (by simp [he]))
  simp [h1,h2,Nat.add_mul,Nat.add_comm]
theorem flatten_get {α : Type} (n : Nat) : ∀ (xs : List (List α)),(∀ e ∈ xs,e.length = n) -> ∀ (i : Nat) (e : List α),xs[i]? = some e -> ∀ j,j < n -> xs.flatten[i * n + j]? = e[j]?
 | [],_,i,e,hi,_,_=>by simp at hi
 | x :: xs,h,0,e,hi,j,hj=>by
  simp at hi
  subst hi
  have h1:=h x (by simp)
  simp [List.getElem?_append,h1,hj]
 | x :: xs,h,i + 1,e,hi,j,hj=>by
  have h1:=h x (by simp)
  have h2:=flatten_get n xs (fun e he=>h e (by simp [he])) i e (by simpa using hi) j hj
  rw [List.flatten_cons,List.getElem?_append,if_neg (by rw [h1]; simp [Nat.add_mul]; omega),h1,<- h2]
  congr 1
  simp [Nat.add_mul]
  omega
theorem flatten_drop {α : Type} (n : Nat) : ∀ (xs : List (List α)),(∀ e ∈ xs,e.length = n) -> ∀ (i : Nat) (e : List α),xs[i]? = some e -> ∀ off,off <= n -> ((xs.flatten.drop (i * n + off)).take (n - off)) = e.drop off
 | [],_,i,e,hi,_,_=>by simp at hi
 | x :: xs,h,0,e,hi,off,hoff=>by
  simp at hi
  subst hi
  have h1:=h x (by simp)
  simp only [Nat.zero_mul,Nat.zero_add,List.flatten_cons]
  rw [List.drop_append_of_le_length (by omega),List.take_append_of_le_length (by simp; omega),List.take_of_length_le (by simp; omega)]
 | x :: xs,h,i + 1,e,hi,off,hoff=>by
  have h1:=h x (by simp)
  have h2:=flatten_drop n xs (fun e he=>h e (by simp [he])) i e (by simpa using hi) off hoff
  rw [List.flatten_cons,List.drop_append,<- h2]
  have e1 : List.drop ((i + 1) * n + off) x = []:=List.drop_eq_nil_of_le (by rw [h1]; simp [Nat.add_mul]; omega)
  have e2 : (i + 1) * n + off - x.length = i * n + off:=by rw [h1]; simp [Nat.add_mul]; omega
  rw [e1,e2,List.nil_append]
def splice {α : Type} (e : List α) (off : Nat) (cs : List α) : List α:=e.take off ++ cs ++ e.drop (off + cs.length)
theorem splice_length {α : Type} (e : List α) (off : Nat) (cs : List α) (h : off + cs.length <= e.length) : (splice e off cs).length = e.length:=by
 simp [splice]
 omega
theorem flatten_splice {α : Type} (n : Nat) : ∀ (xs : List (List α)),(∀ e ∈ xs,e.length = n) -> ∀ (i : Nat) (e : List α),xs[i]? = some e -> ∀ (off : Nat) (cs : List α),off + cs.length <= n ->
  (xs.set i (splice e off cs)).flatten = splice xs.flatten (i * n + off) cs
 | [],_,i,e,hi,_,_,_=>by simp at hi
 | x :: xs,h,0,e,hi,off,cs,hoff=>by
  simp at hi
  subst hi
  have h1:=h x (by simp)
  simp only [List.set_cons_zero,List.flatten_cons,Nat.zero_mul,Nat.zero_add,splice]
  rw [List.take_append_of_le_length (by omega),List.drop_append_of_le_length (by omega)]
  simp [List.append_assoc]
 | x :: xs,h,i + 1,e,hi,off,cs,hoff=>by
  have h1:=h x (by simp)
  have h2:=flatten_splice n xs (fun e he=>h e (by simp [he])) i e (by simpa using hi) off cs hoff
  have e2 : (i + 1) * n + off = x.length + (i * n + off):=by rw [h1]; simp [Nat.add_mul]; omega
  have e3 : x.length + (i * n + off) + cs.length = x.length + (i * n + off + cs.length):=by omega
  rw [List.set_cons_succ,List.flatten_cons,h2,List.flatten_cons,e2]
  unfold splice
  rw [e3,List.take_length_add_append,List.drop_length_add_append]
  simp [List.append_assoc]
theorem LR.length {w : World} {ro : Nat -> Prop} : ∀ {as : List AV} {vs : List Value},LR w ro as vs -> as.length = vs.length
 | [],[],_=>rfl
 | a :: as,v :: vs,h=>by
  unfold LR at h
  simp [LR.length h.2]
 | [],_ :: _,h=>by unfold LR at h; exact h.elim
 | _ :: _,[],h=>by unfold LR at h; exact h.elim
theorem LR.append {w : World} {ro : Nat -> Prop} : ∀ {as : List AV} {vs : List Value} {bs : List AV} {us : List Value},LR w ro as vs -> LR w ro bs us -> LR w ro (as ++ bs) (vs ++ us)
 | [],[],_,_,_,h=>by simpa using h
 | a :: as,v :: vs,_,_,h,h'=>by
  unfold LR at h
  simp only [List.cons_append]
  unfold LR
  exact ⟨h.1,LR.append h.2 h'⟩
 | [],_ :: _,_,_,h,_=>by unfold LR at h; exact h.elim
 | _ :: _,[],_,_,h,_=>by unfold LR at h; exact h.elim
theorem LR.take {w : World} {ro : Nat -> Prop} : ∀ (n : Nat) {as : List AV} {vs : List Value},LR w ro as vs -> LR w ro (as.take n) (vs.take n)
 | 0,_,_,_=>by simp only [List.take_zero]; unfold LR; trivial
 | n + 1,[],[],_=>by simp only [List.take_nil]; unfold LR; trivial
 | n + 1,a :: as,v :: vs,h=>by
  unfold LR at h
  simp only [List.take_succ_cons]
  unfold LR
  exact ⟨h.1,LR.take n h.2⟩
 | _ + 1,[],_ :: _,h=>by unfold LR at h; exact h.elim
 | _ + 1,_ :: _,[],h=>by unfold LR at h; exact h.elim
theorem LR.drop {w : World} {ro : Nat -> Prop} : ∀ (n : Nat) {as : List AV} {vs : List Value},LR w ro as vs -> LR w ro (as.drop n) (vs.drop n)
 | 0,_,_,h=>by simpa using h
 | n + 1,[],[],h=>by simpa using h
 | n + 1,a :: as,v :: vs,h=>by
  unfold LR at h
  simpa using LR.drop n h.2
 | _ + 1,[],_ :: _,h=>by unfold LR at h; exact h.elim
 | _ + 1,_ :: _,[],h=>by unfold LR at h; exact h.elim
theorem VL.splice {c : Ctx} {as : List AV} {vs : List Value} {bs : List AV} {us : List Value} (n : Nat) (h : VL c as vs) (h' : VL c bs us) : VL c (Ab.splice as n bs) (Ab.splice vs n us):=by
 unfold Ab.splice
 rw [VL.length h']
 exact ((h.take n).append h').append (h.drop _)
theorem LR.splice {w : World} {ro : Nat -> Prop} {as : List AV} {vs : List Value} {bs : List AV} {us : List Value} (n : Nat) (h : LR w ro as vs) (h' : LR w ro bs us) : LR w ro (Ab.splice as n bs) (Ab.splice vs n us):=by
 unfold Ab.splice
 rw [LR.length h']
 exact ((h.take n).append h').append (h.drop _)
theorem ownsRow_cells {w : World} {N : Nat -> Prop} {e size : Nat} {v : Value} {n : Nat} {cs : List Value} (h : OwnR w N e size v n cs) {b : Nat} (hb : v.blk = some b) :
  ∃ cap cur,v = .slice (some ⟨b,0,none⟩) n cap /\ 0 < cap /\ N b /\ w.heap[b]? = some (.cells cur e (0,0)) /\ n <= cap /\ cap <= maxLen /\ cur.size = cap * size /\ cur.toList.take (n * size) = cs:=by
 rcases h.2 with ⟨base,rfl,_⟩ | ⟨g,cap,cur,rfl,h0,h1,h2,h3,h4,h5,h6⟩
 ·rw [blk_zero] at hb; cases hb
 ·rw [blk_slice h0] at hb
  cases hb
  exact ⟨cap,cur,rfl,h0,h1,h2,h3,h4,h5,h6⟩
theorem row_store {w : World} {N : Nat -> Prop} {ty esz n : Nat} {v : Value} {cs0 : List Value} (hrow : OwnR w N ty esz v n cs0) {b : Nat} (hb : v.blk = some b) {vs : List Value} (h1 : ∀ u ∈ vs,u.oneCell' = true) {at' : Nat} (hfit : at' + vs.length <= n * esz) :
  ∃ w',(∀ P : Program,(storeCells ⟨b,at',none⟩ vs).run P w = .ok () w') /\ (∀ k,k ≠ b -> w'.heap[k]? = w.heap[k]?) /\ w'.heap.size = w.heap.size /\ w'.os = w.os /\ w'.tape = w.tape /\ w'.output = w.output /\
   OwnR w' N ty esz v n (splice cs0 at' vs):=by
 obtain ⟨cap,cur,hh,hc0',hBb,hg,hcap,hmax,hcur,htake⟩:=ownsRow_cells hrow hb
 have hcap2 : n * esz <= cap * esz:=Nat.mul_le_mul_right _ hcap
 have hrun:=fun P : Program=>run_storeCells_at P b at' ty vs 0 cur w hg (by rw [hcur]; omega) h1
 simp only [Nat.add_zero] at hrun
 refine ⟨_,hrun,?_⟩
 have hw1 : ∀ k,k ≠ b -> (w.setRow b ((cur.toList.take at' ++ vs ++ cur.toList.drop (at' + vs.length)).toArray)).heap[k]? = w.heap[k]?:=fun k hk=>setRow_other w b k _ hk
 have hw2:=setRow_heap w b cur ((cur.toList.take at' ++ vs ++ cur.toList.drop (at' + vs.length)).toArray) ty (0,0) hg
 have hsz : (w.setRow b ((cur.toList.take at' ++ vs ++ cur.toList.drop (at' + vs.length)).toArray)).heap.size = w.heap.size:=by simp [World.setRow]
 have hc0 : cs0.length = n * esz:=hrow.1
 have htk : (cur.toList.take at' ++ vs ++ cur.toList.drop (at' + vs.length)).take (n * esz) = splice cs0 at' vs:=by
  unfold splice
  rw [<- htake]
  have l1 : (cur.toList.take at').length = at':=by simp [hcur]; omega
  have l2 : (cur.toList.take at' ++ vs).length = at' + vs.length:=by rw [laT,l1]
  rw [List.take_append,List.take_of_length_le (l:=cur.toList.take at' ++ vs) (by rw [l2]; omega),l2,List.take_take,Nat.min_eq_left (by omega),List.drop_take]
 refine ⟨hw1,hsz,rfl,rfl,rfl,?_,.inr ⟨b,cap,_,hh,hc0',hBb,hw2,hcap,hmax,?_,?_⟩⟩
 ·rw [splice_length _ _ _ (by rw [hc0]; omega),hc0]
 ·simp [hcur]; omega
 ·simpa using htk
section
variable {F : Nat -> Prop} {w0 : Base} {gv : List Value} {s : St} {a : Act} {w : World} {hdr : Nat -> Hdr}
theorem Sim.store (h : Sim F w0 gv s a w hdr) {id : Nat} {o : AObj} (ho : s.objs id = some o) {idx off : Nat} {e : List AV} (he : o.elems[idx]? = some e)
  {cs : List AV} {vs : List Value} (hv : VL (s.ctx F w hdr) cs vs) (h1 : ∀ u ∈ vs,u.oneCell' = true) (hfit : off + cs.length <= o.esz) (hp : o.kind = .box \/ o.kind = .slc /\ cs.all AV.plain = true)
  {b : Nat} (hb : (hdr id).blk = some b) :
  ∃ w',(∀ P : Program,(storeCells ⟨b,idx * o.esz + off,none⟩ vs).run P w = .ok () w') /\
   Sim F w0 gv { s with objs:=fun i=>if i = id then some { o with elems:=o.elems.set idx (splice e off cs) } else s.objs i } a w' hdr:=by
 obtain ⟨hpos,hlens,hnd,cs0,hrow,hone,hcl⟩:=h.objs id o ho
 have hlen : cs.length = vs.length:=VL.length hv
 have hilt : idx < o.elems.length:=(List.getElem?_eq_some_iff.1 he).1
 have hidx : idx * o.esz + o.esz <= o.elems.length * o.esz:=by
  have:=Nat.mul_le_mul_right o.esz (show idx + 1 <= o.elems.length by omega)
  simpa [Nat.add_mul] using this
 obtain ⟨w',hrun,hw1,hsz,hos,htp,hou,hrow'⟩:=row_store hrow hb h1 (at':=idx * o.esz + off) (by omega)
 refine ⟨w',hrun,?_⟩
 have hel : e.length = o.esz:=hlens e (mgE he)
 have hO : ∀ i oi,s.objs i = some oi -> ∃ o',(fun i=>if i = id then some { o with elems:=o.elems.set idx (splice e off cs) } else s.objs i) i = some o' /\ o'.esz = oi.esz /\ (hdr i).v = (hdr i).v:=by
  intro i oi hi
  by_cases hx : i = id
  ·subst hx
   rw [ho] at hi
   cases hi
   exact ⟨{ o with elems:=o.elems.set idx (splice e off cs) },by simp,rfl,rfl⟩
  ·exact ⟨oi,by simp [hx,hi],rfl,rfl⟩
 have pick : ∀ i oi,(if i = id then some { o with elems:=o.elems.set idx (splice e off cs) } else s.objs i) = some oi -> ∃ ox,s.objs i = some ox:=by
  intro i oi hi
  by_cases hx : i = id
  ·subst hx; exact ⟨o,ho⟩
  ·exact ⟨oi,by simpa [hx] using hi⟩
 generalize hs' : ({ s with objs:=fun i=>if i = id then some { o with elems:=o.elems.set idx (splice e off cs) } else s.objs i } : St) = s'
 have hobj' : s'.objs = fun i=>if i = id then some { o with elems:=o.elems.set idx (splice e off cs) } else s.objs i:=by rw [<- hs']
 have hO' : ∀ i oi,s.objs i = some oi -> ∃ o',s'.objs i = some o' /\ o'.esz = oi.esz /\ (hdr i).v = (hdr i).v:=by rw [hobj']; exact hO
 have hsov:=own_keep (c:=s.ctx F w hdr) (c':=s'.ctx F w' hdr) hO'
 have hspv:=ptr_keep (c:=s.ctx F w hdr) (c':=s'.ctx F w' hdr) hO'
 have hscv : ∀ i x y z v,VR (s.ctx F w hdr) (.cel i x y z) v -> VR (s'.ctx F w' hdr) (.cel i x y z) v:=by
  intro i x y z v hv'
  unfold VR at hv' ⊢
  obtain ⟨o1,b1,sh,e1,r1,q2,q3,q4,r2,r3⟩:=hv'
  replace r1 : s.objs i = some o1:=r1
  have hne : i ≠ id:=by
   rintro rfl
   rw [ho] at r1
   cases r1
   rcases hp with hp | hp
   ·rw [hp] at q2; cases q2
   ·rw [hp.1] at q2; cases q2
  refine ⟨o1,b1,sh,e1,by show s'.objs i = _; rw [hobj']; simpa [hne] using r1,q2,q3,q4,r2,?_⟩
  refine (World.cell?_of_block (w:=w) (w':=w') (a:=⟨b1,_,none⟩) (hw1 b1 fun e=>hne ?_)).trans r3
  exact h.dis i id o1 o b1 r1 ho (.inl r2) (.inl (by rw [e]; exact hb))
 have hptv:=prt_own (c:=s.ctx F w hdr) (c':=s'.ctx F w' hdr) (fun i oi hi=>by
  show ∃ o',s'.objs i = some o' /\ _
  rw [hobj']
  by_cases hx : i = id
  ·subst hx
   replace hi : s.objs i = some oi:=hi
   rw [ho] at hi
   cases hi
   exact ⟨{ o with elems:=o.elems.set idx (splice e off cs) },by simp,rfl,rfl,rfl⟩
  ·exact ⟨oi,(if_neg hx).trans hi,rfl,rfl,rfl⟩)
 refine h.recast (s':=s') (hdr':=hdr) (so:=fun i=>.own i) (sp:=fun i x y=>.ptr i x y) (sc:=fun i x y=>.cel i x y) (fun k=>k = b) (fun i=>i = id) hos htp hou (by rw [hsz]; exact Nat.le_refl _) (fun k _ hk=>hw1 k hk) (fun k e=>⟨id,o,ho,.inl (by rw [e]; exact hb)⟩)
  (fun t=>by rw [<- hs']; exact (AV.sub_id _).symm) (by rw [<- hs']) (by rw [<- hs']; exact (AV.subL_id _).symm) ?_ hsov hspv hscv hptv ?_ ?_ ?_
 ·intro i oi bb hi hbb
  rw [hobj'] at hi
  obtain ⟨ox,hox⟩:=pick i oi hi
  exact .inl ⟨i,ox,hox,hbb⟩
 ·intro i oi hi hne
  rw [hobj'] at hi
  simp only [hne,if_false] at hi
  refine ⟨oi,hi,(subO_id oi).symm,rfl,fun bb hbb e=>hne ?_⟩
  exact h.dis i id oi o bb hi ho hbb (.inl (by rw [e]; exact hb))
 ·intro hR i oi hi hx
  subst hx
  rw [hobj'] at hi
  have hoi : { o with elems:=o.elems.set idx (splice e off cs) } = oi:=by simpa using hi
  subst hoi
  have hflat : (o.elems.set idx (splice e off cs)).flatten = splice o.elems.flatten (idx * o.esz + off) cs:=flatten_splice o.esz o.elems hlens idx e he off cs hfit
  refine ⟨hpos,?_,⟨hnd.1,hnd.2.1,fun bb hbb=>⟨(hnd.2.2 bb hbb).1,by show bb < w'.heap.size; rw [hsz]; exact (hnd.2.2 bb hbb).2⟩⟩,splice cs0 (idx * o.esz + off) vs,?_,?_,?_⟩
  ·intro x hx
   rcases List.mem_or_eq_of_mem_set hx with hx | hx
   ·exact hlens x hx
   ·rw [hx,splice_length _ _ _ (by rw [hel]; exact hfit)]; exact hel
  ·show OwnR w' w0.N o.ty o.esz (hdr i).v (o.elems.set idx (splice e off cs)).length _
   rw [List.length_set]
   exact hrow'
  ·intro u hu
   unfold splice at hu
   simp only [List.mem_append] at hu
   rcases hu with (hu | hu) | hu
   ·exact hone u (List.mem_of_mem_take hu)
   ·exact h1 u hu
   ·exact hone u (List.mem_of_mem_drop hu)
  ·have hL : ∀ (xs : List AV) (us : List Value),LR w (roOf F w hdr s.objs) xs us -> LR w' (roOf F w' hdr s'.objs) xs us:=by
    intro xs
    induction xs with
    | nil=>intro us hus; cases us with
     | nil=>unfold LR; trivial
     | cons=>unfold LR at hus; exact hus.elim
    | cons x xs ih=>intro us hus; cases us with
     | nil=>unfold LR at hus; exact hus.elim
     | cons u us =>
      unfold LR at hus ⊢
      exact ⟨hR _ _ hus.1,ih us hus.2⟩
   have hML : ∀ x v,VL (s.ctx F w hdr) x v -> VL (s'.ctx F w' hdr) x v:=fun x v hx=>by
    have:=VL.sub (c:=s.ctx F w hdr) (c':=s'.ctx F w' hdr) (so:=fun i=>.own i) (sp:=fun i x y=>.ptr i x y) (sc:=fun i x y=>.cel i x y) hR hsov hspv hscv hptv x v hx
    rwa [AV.subL_id] at this
   unfold CellsR at hcl ⊢
   rcases hp with hk | ⟨hk,hpl⟩
   ·simp only [hk] at hcl ⊢
    rw [hflat]
    exact ⟨hML _ _ (hcl.1.splice _ hv),hcl.2⟩
   ·simp only [hk] at hcl ⊢
    rw [hflat]
    exact ⟨hL _ _ (hcl.1.splice _ (hv.readOnly hpl)),hcl.2⟩
 ·intro i j oi oj bb hi hj
  rw [hobj'] at hi hj
  obtain ⟨ox,hox⟩:=pick i oi hi
  obtain ⟨oy,hoy⟩:=pick j oj hj
  exact h.dis i j ox oy bb hox hoy
end
end Go.Ab
namespace Go.Ab
open Go.RowKit
theorem EsR_of_row {w : World} {ro : Nat -> Prop} (esz : Nat) : ∀ (xs : List (List AV)) (cs : List Value) (rd : Nat -> Option Value),(∀ e ∈ xs,e.length = esz) -> (∀ j u,cs[j]? = some u -> rd j = some u) -> LR w ro xs.flatten cs -> EsR w ro esz xs rd
 | [],_,_,_,_,_=>by unfold EsR; trivial
 | x :: xs,cs,rd,hl,hrd,h=>by
  have hx:=hl x (by simp)
  have h1:=LR.take esz h
  have h2:=LR.drop esz h
  rw [List.flatten_cons,List.take_append_of_le_length (by omega),List.take_of_length_le (by omega)] at h1
  rw [List.flatten_cons,List.drop_append_of_le_length (by omega),List.drop_eq_nil_of_le (by omega),List.nil_append] at h2
  unfold EsR
  refine ⟨hx,CsR_of_row x (cs.take esz) rd (fun j u hj=>hrd j u ?_) h1,EsR_of_row esz xs (cs.drop esz) _ (fun e he=>hl e (by simp [he])) (fun j u hj=>?_) h2⟩
  ·rw [List.getElem?_take] at hj
   split at hj
   ·exact hj
   ·cases hj
  ·rw [List.getElem?_drop] at hj
   rw [Nat.add_comm]
   exact hrd _ u hj
where CsR_of_row {w : World} {ro : Nat -> Prop} : ∀ (x : List AV) (cs : List Value) (rd : Nat -> Option Value),(∀ j u,cs[j]? = some u -> rd j = some u) -> LR w ro x cs -> CsR w ro x rd
 | [],_,_,_,_=>by unfold CsR; trivial
 | a :: x,v :: cs,rd,hrd,h=>by
  unfold LR at h
  unfold CsR
  exact ⟨⟨v,hrd 0 v rfl,h.1⟩,CsR_of_row x cs _ (fun j u hj=>hrd (j + 1) u (by simpa using hj)) h.2⟩
 | _ :: _,[],_,_,h=>by unfold LR at h; exact h.elim
section
variable {w : World} {ro : Nat -> Prop}
theorem TL.length : ∀ {as : List AV} {shs : List Shp} {vs : List Value} {S : List Nat},TL w as shs vs S -> as.length = vs.length /\ shs.length = vs.length
 | [],shs,vs,S,h=>by unfold TL at h; rw [h.1,h.2.1]; exact ⟨rfl,rfl⟩
 | a :: as,shs,vs,S,h=>by
  unfold TL at h
  obtain ⟨sh,shs',v,vs',S1,S2,h1,h2,h3,h4,h5⟩:=h
  have:=TL.length h5
  rw [h1,h2]
  simp [this.1,this.2]
mutual
theorem TR.reads : ∀ (a : AV) (sh : Shp) (v : Value) (S : List Nat),(∀ b ∈ S,ro b) -> TR w a sh v S -> RR w ro a v
 | .sl xs,sh,v,S,hS,h=>by
  unfold TR at h
  obtain ⟨ty,esz,cells,cs,S',h1,h2,h3,h4,h5,h6⟩:=h
  obtain ⟨r1,r2⟩:=TEs.reads esz cells xs cs S' (fun b hb=>hS b (by rw [h5]; simp [hb])) h6
  unfold RR
  rcases h3.2 with ⟨base,e,e2⟩ | ⟨g,cap,cur,e,e0,e1,e2,e3,e4,e5,e6⟩
  ·exact ⟨base,0,by rw [e,e2],by omega,.inl (List.length_eq_zero_iff.1 e2)⟩
  ·have hblk : v.blk = some g:=by rw [e]; exact blk_slice e0
   refine ⟨some ⟨g,0,none⟩,cap,e,e3,.inr ⟨g,0,esz,rfl,hS g (by rw [h5,hblk]; simp),?_⟩⟩
   refine EsR.mono (w:=w) (w':=w) (ro:=ro) (fun _ _ _=>rfl) (fun _ h=>h) esz xs _ _ (fun j=>?_) (EsR_of_row esz xs cs (fun j=>w.cell? ⟨g,j,none⟩) r2 ?_ r1)
   ·show w.cell? ⟨g,0 + j,none⟩ = w.cell? ⟨g,j,none⟩
    rw [Nat.zero_add]
   ·intro j u hj
    have hc:=h3.cells (g:=g) hblk j u hj
    simpa [Addr.add_lit] using hc
 | .nil,sh,v,S,hS,h=>by unfold TR at h; unfold RR; exact h.2.1
 | .int ..,sh,v,S,hS,h=>by unfold TR at h; unfold RR; exact h.2.1
 | .bool _,sh,v,S,hS,h=>by unfold TR at h; unfold RR; exact h.2.1
 | .str _,sh,v,S,hS,h=>by unfold TR at h; unfold RR; exact h.2.1
 | .any,sh,v,S,hS,h=>by unfold RR; trivial
 | .rp _,_,_,_,_,h=>by unfold TR at h; exact h.elim
 | .own _,_,_,_,_,h=>by unfold TR at h; exact h.elim
 | .ptr _ _ _,_,_,_,_,h=>by unfold TR at h; exact h.elim
 | .cel _ _ _ _,_,_,_,_,h=>by unfold TR at h; exact h.elim
 | .prt _ _ _ _,_,_,_,_,h=>by unfold TR at h; exact h.elim
 | .agg _,_,_,_,_,h=>by unfold TR at h; exact h.elim
 | .tup _,_,_,_,_,h=>by unfold TR at h; exact h.elim
 | .fn _ _,_,_,_,_,h=>by unfold TR at h; exact h.elim
theorem TL.reads : ∀ (as : List AV) (shs : List Shp) (vs : List Value) (S : List Nat),(∀ b ∈ S,ro b) -> TL w as shs vs S -> LR w ro as vs
 | [],shs,vs,S,_,h=>by unfold TL at h; rw [h.2.1]; unfold LR; trivial
 | a :: as,shs,vs,S,hS,h=>by
  unfold TL at h
  obtain ⟨sh,shs',v,vs',S1,S2,h1,h2,h3,h4,h5⟩:=h
  rw [h2]
  unfold LR
  exact ⟨TR.reads a sh v S1 (fun b hb=>hS b (by rw [h3]; simp [hb])) h4,TL.reads as shs' vs' S2 (fun b hb=>hS b (by rw [h3]; simp [hb])) h5⟩
theorem TEs.reads (esz : Nat) (cells : List Shp) : ∀ (xs : List (List AV)) (vs : List Value) (S : List Nat),(∀ b ∈ S,ro b) -> TEs w esz cells xs vs S -> LR w ro xs.flatten vs /\ ∀ x ∈ xs,x.length = esz
 | [],vs,S,_,h=>by unfold TEs at h; rw [h.1]; simp only [List.flatten_nil]; unfold LR; exact ⟨trivial,by simp⟩
 | x :: xs,vs,S,hS,h=>by
  unfold TEs at h
  obtain ⟨v1,v2,S1,S2,h1,h2,h3,h4,h5⟩:=h
  obtain ⟨r1,r2⟩:=TEs.reads esz cells xs v2 S2 (fun b hb=>hS b (by rw [h3]; simp [hb])) h5
  rw [h1,List.flatten_cons]
  refine ⟨(TL.reads x cells v1 S1 (fun b hb=>hS b (by rw [h3]; simp [hb])) h4).append r1,fun y hy=>?_⟩
  rcases List.mem_cons.1 hy with rfl | hy
  ·rw [(TL.length h4).1,h2]
  ·exact r2 y hy
end
end
theorem own_reads {N : Nat -> Prop} {c : Ctx} {o : AObj} {h : Hdr} (ho : ObjR N c o h) (hbox : o.box = false) (ro' : Nat -> Prop)
  (hro : ∀ b,c.ro b -> ro' b) (hb : ∀ b,h.has b -> ro' b) : RR c.w ro' (.sl o.elems) h.v:=by
 obtain ⟨hpos,hlens,hnd,cs,h1,h2,h4⟩:=ho
 have hlr : LR c.w ro' o.elems.flatten cs:=by
  unfold CellsR at h4
  cases hk : o.kind with
  | box=>unfold AObj.box at hbox; rw [hk] at hbox; cases hbox
  | slc=>simp only [hk] at h4; exact LR.mono (fun _ _ _=>rfl) hro _ _ h4.1
  | deep sh=>simp only [hk] at h4; exact (TEs.reads o.esz sh o.elems cs h.fp (fun b hb'=>hb b (.inr hb')) h4).1
 unfold RR
 rcases h1.2 with ⟨base,e,e2⟩ | ⟨g,cap,cur,e,e0,e1,e2,e3,e4,e5,e6⟩
 ·exact ⟨base,0,by rw [e,e2],by omega,.inl (List.length_eq_zero_iff.1 e2)⟩
 ·have hblk : h.v.blk = some g:=by rw [e]; exact blk_slice e0
  refine ⟨some ⟨g,0,none⟩,cap,e,e3,.inr ⟨g,0,o.esz,rfl,hb g (.inl hblk),?_⟩⟩
  refine EsR.mono (w:=c.w) (w':=c.w) (ro:=ro') (fun _ _ _=>rfl) (fun _ h=>h) o.esz o.elems _ _ (fun j=>?_) (EsR_of_row o.esz o.elems cs (fun j=>c.w.cell? ⟨g,j,none⟩) hlens ?_ hlr)
  ·show c.w.cell? ⟨g,0 + j,none⟩ = c.w.cell? ⟨g,j,none⟩
   rw [Nat.zero_add]
  ·intro j u hj
   have hc:=h1.cells (g:=g) hblk j u hj
   simpa [Addr.add_lit] using hc
section
variable {F : Nat -> Prop} {w0 : Base} {gv : List Value} {s : St} {a : Act} {w : World} {hdr : Nat -> Hdr}
def turned (s : St) (so : Nat -> AV) (sp : Nat -> Nat -> Nat -> AV) (sc : SC) (id : Nat) (o' : Option AObj) : St :=
 match s with
 | ⟨e,z,o,n,g⟩=>⟨fun t=>(e t).sub so sp sc,z,fun i=>if i = id then o' else (o i).map (subO so sp sc),n,AV.sub.subL so sp sc g⟩
theorem Sim.turn (h : Sim F w0 gv s a w hdr) {id : Nat} {o0 : AObj} (hid : s.objs id = some o0) {w' : World} {hdr' : Nat -> Hdr} {o' : Option AObj} {so : Nat -> AV} {sp : Nat -> Nat -> Nat -> AV} {sc : SC}
  (hw : w.grownBy w' (hdr id).blk) (hh : ∀ j,j ≠ id -> hdr' j = hdr j)
  (hso : ∀ j,j ≠ id -> so j = .own j) (hsp : ∀ j x y,j ≠ id -> sp j x y = .ptr j x y) (hsc : ∀ j x y z,j ≠ id -> sc j x y z = .cel j x y z)
  (hoid : ∀ v,VR (s.ctx F w hdr) (.own id) v -> VR ((turned s so sp sc id o').ctx F w' hdr') (so id) v)
  (hpid : ∀ x y v,VR (s.ctx F w hdr) (.ptr id x y) v -> VR ((turned s so sp sc id o').ctx F w' hdr') (sp id x y) v)
  (hcid : ∀ x y z v,VR (s.ctx F w hdr) (.cel id x y z) v -> VR ((turned s so sp sc id o').ctx F w' hdr') (sc id x y z) v)
  (hqid : ∀ j x y z lo n cp v,sc id 0 0 [] = .cel j x y z -> PrtR (s.ctx F w hdr) id lo n cp v -> PrtR ((turned s so sp sc id o').ctx F w' hdr') j lo n cp v)
  (ho' : (∀ x v,RR w (roOf F w hdr s.objs) x v -> RR w' (roOf F w' hdr' (turned s so sp sc id o').objs) x v) -> ∀ o,o' = some o -> ObjR w0.N ((turned s so sp sc id o').ctx F w' hdr') o (hdr' id))
  (hb' : ∀ o b,o' = some o -> (hdr' id).has b -> (hdr id).has b \/ w.heap.size <= b) :
  Sim F w0 gv (turned s so sp sc id o') a w' hdr':=by
 have hob : ∀ i o,(turned s so sp sc id o').objs i = some o -> i ≠ id -> ∃ o1,s.objs i = some o1 /\ o = subO so sp sc o1:=by
  intro i o hi hne
  simp only [turned,hne,if_false] at hi
  cases hs : s.objs i with
  | none=>simp [hs] at hi
  | some o1=>exact ⟨o1,rfl,by simpa [hs] using hi.symm⟩
 have hon : ∀ j o1,j ≠ id -> s.objs j = some o1 -> (turned s so sp sc id o').objs j = some (subO so sp sc o1):=by
  intro j o1 hx ho1
  simp [turned,hx,ho1]
 have hsoV : ∀ j v,VR (s.ctx F w hdr) (.own j) v -> VR ((turned s so sp sc id o').ctx F w' hdr') (so j) v:=by
  intro j v hv
  by_cases hx : j = id
  ·subst hx; exact hoid v hv
  ·rw [hso j hx]
   unfold VR at hv ⊢
   obtain ⟨h1,h2⟩:=hv
   obtain ⟨o1,ho1⟩:=Option.isSome_iff_exists.1 h1
   refine ⟨?_,?_⟩
   ·show ((turned s so sp sc id o').objs j).isSome = true
    rw [hon j o1 hx ho1]; rfl
   ·show v = (hdr' j).v
    rw [hh j hx]; exact h2
 have hspV : ∀ j x y v,VR (s.ctx F w hdr) (.ptr j x y) v -> VR ((turned s so sp sc id o').ctx F w' hdr') (sp j x y) v:=by
  intro j x y v hv
  by_cases hx : j = id
  ·subst hx; exact hpid x y v hv
  ·rw [hsp j x y hx]
   unfold VR at hv ⊢
   obtain ⟨o1,b,h1,h2,h3⟩:=hv
   refine ⟨subO so sp sc o1,b,hon j o1 hx h1,?_,?_⟩
   ·show (hdr' j).blk = some b
    rw [hh j hx]; exact h2
   ·rw [(subO_esz so sp sc o1).1]; exact h3
 have hblk : ∀ j o1 b,j ≠ id -> s.objs j = some o1 -> (hdr j).has b -> (hdr id).blk ≠ some b:=by
  intro j o1 b hx ho1 hb e
  exact hx (h.dis j id o1 o0 b ho1 hid hb (.inl e))
 have hscV : ∀ j x y z v,VR (s.ctx F w hdr) (.cel j x y z) v -> VR ((turned s so sp sc id o').ctx F w' hdr') (sc j x y z) v:=by
  intro j x y z v hv
  by_cases hx : j = id
  ·subst hx; exact hcid x y z v hv
  ·rw [hsc j x y z hx]
   unfold VR at hv ⊢
   obtain ⟨o1,b,sh,e,h1,hk,q1,q2,h2,h3⟩:=hv
   have hsame : subO so sp sc o1 = o1:=by simp [subO,hk]
   have hon1:=hon j o1 hx h1
   rw [hsame] at hon1
   refine ⟨o1,b,sh,e,hon1,hk,q1,q2,?_,?_⟩
   ·show (hdr' j).blk = some b
    rw [hh j hx]; exact h2
   ·refine (World.cell?_of_block (w:=w) (w':=w') (a:=⟨b,_,none⟩) (hw.block b (h.ge h1 (.inl h2)).2 fun e=>?_)).trans h3
    exact hblk j o1 b hx h1 (.inl h2) e.symm
 have hptV : ∀ i j x y z lo n cp v,sc i 0 0 [] = .cel j x y z -> PrtR (s.ctx F w hdr) i lo n cp v -> PrtR ((turned s so sp sc id o').ctx F w' hdr') j lo n cp v:=by
  intro i j x y z lo n cp v e hv
  by_cases hx : i = id
  ·subst hx; exact hqid j x y z lo n cp v e hv
  ·rw [hsc i 0 0 [] hx] at e
   cases e
   obtain ⟨o1,h1,h2,h3,h4⟩:=hv
   obtain ⟨s1,s2,s3,s4⟩:=subO_esz so sp sc o1
   refine ⟨subO so sp sc o1,hon i o1 hx h1,by rw [subO_box]; exact h2,h3,?_⟩
   rw [s1]
   show _ \/ (_ /\ ∃ b m,(hdr' i).v = _ /\ _)
   rw [hh i hx]
   exact h4
 refine h.recast (s':=turned s so sp sc id o') (hdr':=hdr') (fun k=>(hdr id).blk = some k) (fun i=>i = id) hw.os hw.tape hw.output hw.size (fun k hk hn=>hw.block k hk (fun e=>hn e.symm)) (fun k e=>⟨id,o0,hid,.inl e⟩)
  (fun t=>rfl) rfl rfl ?_ hsoV hspV hscV hptV ?_ ?_ ?_
 ·intro i o b hi hb
  by_cases hx : i = id
  ·subst hx
   have e1 : o' = some o:=by simpa [turned] using hi
   rcases hb' o b e1 hb with e2 | e2
   ·exact .inl ⟨i,o0,hid,e2⟩
   ·exact .inr e2
  ·obtain ⟨o1,ho1,_⟩:=hob i o hi hx
   rw [hh i hx] at hb
   exact .inl ⟨i,o1,ho1,hb⟩
 ·intro i o hi hx
  obtain ⟨o1,ho1,e⟩:=hob i o hi hx
  exact ⟨o1,ho1,e,hh i hx,fun b hb=>hblk i o1 b hx ho1 hb⟩
 ·intro hR i o hi hx
  subst hx
  exact ho' hR o (by simpa [turned] using hi)
 ·have key : ∀ i j o oo b,(turned s so sp sc id o').objs i = some o -> (turned s so sp sc id o').objs j = some oo -> i = id -> j ≠ id -> (hdr' i).has b -> (hdr' j).has b -> False:=by
   intro i j o oo b hi hj ei ej bi bj
   subst ei
   have e1 : o' = some o:=by simpa [turned] using hi
   obtain ⟨o1,ho1,_⟩:=hob j oo hj ej
   rw [hh j ej] at bj
   rcases hb' o b e1 bi with e2 | e2
   ·exact ej (h.dis j i o1 o0 b ho1 hid bj e2)
   ·have:=(h.ge ho1 bj).2; omega
  intro i j o oo b hi hj bi bj
  by_cases ei : i = id
  ·by_cases ej : j = id
   ·rw [ei,ej]
   ·exact (key i j o oo b hi hj ei ej bi bj).elim
  ·by_cases ej : j = id
   ·exact (key j i oo o b hj hi ej ei bj bi).elim
   ·obtain ⟨o1,ho1,_⟩:=hob i o hi ei
    obtain ⟨o2,ho2,_⟩:=hob j oo hj ej
    rw [hh i ei] at bi
    rw [hh j ej] at bj
    exact h.dis i j o1 o2 b ho1 ho2 bi bj
def killO (id : Nat) : Nat -> AV:=fun j=>if j = id then .any else .own j
def killP (id : Nat) : Nat -> Nat -> Nat -> AV:=fun j x y=>if j = id then .any else .ptr j x y
def killC (id : Nat) : SC:=fun j x y z=>if j = id then .any else .cel j x y z
theorem LR.ofR {w w' : World} {ro ro' : Nat -> Prop} (hR : ∀ x v,RR w ro x v -> RR w' ro' x v) : ∀ (xs : List AV) (us : List Value),LR w ro xs us -> LR w' ro' xs us
 | [],[],_=>by unfold LR; trivial
 | x :: xs,u :: us,h=>by
  unfold LR at h ⊢
  exact ⟨hR _ _ h.1,LR.ofR hR xs us h.2⟩
 | [],_ :: _,h=>by unfold LR at h; exact h.elim
 | _ :: _,[],h=>by unfold LR at h; exact h.elim
theorem kindBox {o : AObj} (h : o.kind = .slc) : o.box = false:=by unfold AObj.box; rw [h]
theorem Sim.appended (h : Sim F w0 gv s a w hdr) {id : Nat} {o : AObj} (ho : s.objs id = some o) (hk : o.kind = .slc) {w' : World} {v' : Value} {ys : List (List AV)} {cs news : List Value}
  (hlr : LR w (roOf F w hdr s.objs) o.elems.flatten cs) (hcs : ∀ u ∈ cs,u.oneCell' = true)
  (hys : ∀ e ∈ ys,e.length = o.esz) (hnews : LR w (roOf F w hdr s.objs) ys.flatten news) (hone : ∀ u ∈ news,u.oneCell' = true)
  (hown : OwnR w' w0.N o.ty o.esz v' (o.elems.length + ys.length) (cs ++ news)) (hg : w.grownBy w' (hdr id).blk)
  (hb' : ∀ b,v'.blk = some b -> (hdr id).blk = some b \/ w.heap.size <= b) :
  Sim F w0 gv (turned s (killO id) (killP id) (killC id) id (some { o with elems:=o.elems ++ ys })) a w' (fun i=>if i = id then ⟨v',[]⟩ else hdr i):=by
 have hpos:=(h.objs id o ho).pos
 have hlens:=(h.objs id o ho).lens
 have any : ∀ {c : Ctx} {v : Value},VR c .any v:=by intro c v; unfold VR; trivial
 refine h.turn (o0:=o) ho hg (fun j hj=>by simp [hj]) (fun j hj=>by simp [killO,hj]) (fun j x y hj=>by simp [killP,hj]) (fun j x y z hj=>by simp [killC,hj]) (fun v _=>by simp only [killO,if_true]; exact any) (fun x y v _=>by simp only [killP,if_true]; exact any) (fun x y z v _=>by simp only [killC,if_true]; exact any) (fun j x y z lo n cp v e _=>by simp [killC] at e) ?_ ?_
 ·intro hR o1 e1
  cases e1
  have hall : LR w' (roOf F w' (fun i=>if i = id then ⟨v',[]⟩ else hdr i) (turned s (killO id) (killP id) (killC id) id (some { o with elems:=o.elems ++ ys })).objs) (o.elems ++ ys).flatten (cs ++ news):=by
   rw [List.flatten_append]
   exact LR.ofR hR _ _ (hlr.append hnews)
  simp only [if_true]
  refine ⟨hpos,?_,nd_nil,cs ++ news,?_,?_,?_⟩
  ·intro e he
   simp only [List.mem_append] at he
   rcases he with he | he
   ·exact hlens e he
   ·exact hys e he
  ·show OwnR w' w0.N o.ty o.esz v' (o.elems ++ ys).length (cs ++ news)
   rw [laT]
   exact hown
  ·intro u hu
   simp only [List.mem_append] at hu
   rcases hu with hu | hu
   ·exact hcs u hu
   ·exact hone u hu
  ·exact CellsR_slc hk hall
 ·intro o1 b _ e
  simp only [if_true] at e
  rcases e with e | e
  ·exact (hb' b e).imp .inl (fun h=>h)
  ·cases e
def frzO (id : Nat) (xs : List (List AV)) : Nat -> AV:=fun j=>if j = id then .sl xs else .own j
theorem Sim.freeze (h : Sim F w0 gv s a w hdr) {id : Nat} {o : AObj} (ho : s.objs id = some o) (hbox : o.box = false) :
  Sim F w0 gv (turned s (frzO id o.elems) (killP id) (killC id) id none) a w hdr:=by
 have any : ∀ {c : Ctx} {v : Value},VR c .any v:=by intro c v; unfold VR; trivial
 refine h.turn (o0:=o) ho ⟨rfl,rfl,rfl,Nat.le_refl _,fun _ _ _=>rfl⟩ (fun _ _=>rfl) (fun j hj=>by simp [frzO,hj]) (fun j x y hj=>by simp [killP,hj]) (fun j x y z hj=>by simp [killC,hj]) ?_ (fun x y v _=>by simp only [killP,if_true]; exact any) (fun x y z v _=>by simp only [killC,if_true]; exact any) (fun j x y z lo n cp v e _=>by simp [killC] at e) (fun _ _ e=>by cases e) (fun _ _ e=>by cases e)
 intro v hv
 unfold VR at hv
 obtain ⟨_,hv⟩:=hv
 subst hv
 simp only [frzO,if_true]
 unfold VR
 have hback : ∀ i oi,(turned s (frzO id o.elems) (killP id) (killC id) id none).objs i = some oi -> i ≠ id /\ ∃ o1,s.objs i = some o1:=by
  intro i oi hi
  by_cases hx : i = id
  ·subst hx; simp [turned] at hi
  ·simp only [turned,hx,if_false] at hi
   cases hs : s.objs i with
   | none=>simp [hs] at hi
   | some o1=>exact ⟨hx,o1,rfl⟩
 refine own_reads (h.objs id o ho) hbox _ ?_ ?_
 ·intro b ⟨hF0,h1,h2⟩
  refine ⟨hF0,h1,fun i oi hi e=>?_⟩
  obtain ⟨_,o1,hs⟩:=hback i oi hi
  exact h2 i o1 hs e
 ·intro b hb
  refine ⟨h.free b (h.ge ho hb).1,(h.ge ho hb).2,fun i oi hi e=>?_⟩
  obtain ⟨hx,o1,hs⟩:=hback i oi hi
  exact hx (h.dis i id o1 o b hs ho e hb)
end
section
variable {w : World}
theorem TL.append : ∀ {as : List AV} {shs : List Shp} {vs : List Value} {S : List Nat} {bs : List AV} {ths : List Shp} {us : List Value} {T : List Nat},TL w as shs vs S -> TL w bs ths us T -> TL w (as ++ bs) (shs ++ ths) (vs ++ us) (S ++ T)
 | [],shs,vs,S,_,_,_,_,h,h'=>by unfold TL at h; rw [h.1,h.2.1,h.2.2]; simpa using h'
 | a :: as,shs,vs,S,_,_,_,_,h,h'=>by
  unfold TL at h
  obtain ⟨sh,shs',v,vs',S1,S2,h1,h2,h3,h4,h5⟩:=h
  rw [h1,h2,h3]
  simp only [List.cons_append]
  unfold TL
  exact ⟨sh,_,v,_,S1,_,rfl,rfl,by rw [List.append_assoc],h4,h5.append h'⟩
theorem TL.cut : ∀ (n : Nat) {as : List AV} {shs : List Shp} {vs : List Value} {S : List Nat},TL w as shs vs S -> ∃ S1 S2,S = S1 ++ S2 /\ TL w (as.take n) (shs.take n) (vs.take n) S1 /\ TL w (as.drop n) (shs.drop n) (vs.drop n) S2
 | 0,as,shs,vs,S,h=>⟨[],S,rfl,by simp only [List.take_zero]; unfold TL; exact ⟨rfl,rfl,rfl⟩,by simpa using h⟩
 | n + 1,[],shs,vs,S,h=>by
  unfold TL at h
  rw [h.1,h.2.1,h.2.2]
  refine ⟨[],[],rfl,?_,?_⟩ <;> simp only [List.take_nil,List.drop_nil] <;> unfold TL <;> exact ⟨rfl,rfl,rfl⟩
 | n + 1,a :: as,shs,vs,S,h=>by
  unfold TL at h
  obtain ⟨sh,shs',v,vs',S1,S2,h1,h2,h3,h4,h5⟩:=h
  obtain ⟨T1,T2,k1,k2,k3⟩:=TL.cut n h5
  rw [h1,h2,h3,k1]
  refine ⟨S1 ++ T1,T2,by rw [List.append_assoc],?_,by simpa using k3⟩
  simp only [List.take_succ_cons]
  unfold TL
  exact ⟨sh,_,v,_,S1,T1,rfl,rfl,rfl,h4,k2⟩
theorem TL.at {as : List AV} {shs : List Shp} {vs : List Value} {S : List Nat} (h : TL w as shs vs S) {off : Nat} {a : AV} (ha : as[off]? = some a) :
  ∃ S1 Sa S2 sh v,S = S1 ++ Sa ++ S2 /\ shs[off]? = some sh /\ vs[off]? = some v /\ TR w a sh v Sa /\ TL w (as.take off) (shs.take off) (vs.take off) S1 /\ TL w (as.drop (off + 1)) (shs.drop (off + 1)) (vs.drop (off + 1)) S2:=by
 obtain ⟨S1,S2,k1,k2,k3⟩:=TL.cut off h
 obtain ⟨hlt,rfl⟩:=List.getElem?_eq_some_iff.1 ha
 rw [List.drop_eq_getElem_cons hlt] at k3
 unfold TL at k3
 obtain ⟨sh,shs',v,vs',T1,T2,h1,h2,h3,h4,h5⟩:=k3
 have e1 : shs[off]? = some sh:=by rw [<- List.head?_drop,h1]; rfl
 have e2 : vs[off]? = some v:=by rw [<- List.head?_drop,h2]; rfl
 refine ⟨S1,T1,T2,sh,v,by rw [k1,h3,List.append_assoc],e1,e2,h4,k2,?_⟩
 have e3 : shs.drop (off + 1) = shs':=by rw [<- List.drop_drop,h1]; rfl
 have e4 : vs.drop (off + 1) = vs':=by rw [<- List.drop_drop,h2]; rfl
 rw [e3,e4]
 exact h5
theorem TEs.append {esz : Nat} {cells : List Shp} : ∀ {xs : List (List AV)} {vs : List Value} {S : List Nat} {ys : List (List AV)} {us : List Value} {T : List Nat},TEs w esz cells xs vs S -> TEs w esz cells ys us T -> TEs w esz cells (xs ++ ys) (vs ++ us) (S ++ T)
 | [],vs,S,_,_,_,h,h'=>by unfold TEs at h; rw [h.1,h.2]; simpa using h'
 | x :: xs,vs,S,_,_,_,h,h'=>by
  unfold TEs at h
  obtain ⟨v1,v2,S1,S2,h1,h2,h3,h4,h5⟩:=h
  rw [h1,h3]
  simp only [List.cons_append]
  unfold TEs
  exact ⟨v1,_,S1,_,by rw [List.append_assoc],h2,by rw [List.append_assoc],h4,h5.append h'⟩
theorem TEs.length {esz : Nat} {cells : List Shp} : ∀ {xs : List (List AV)} {vs : List Value} {S : List Nat},TEs w esz cells xs vs S -> vs.length = xs.length * esz
 | [],vs,S,h=>by unfold TEs at h; rw [h.1]; simp
 | x :: xs,vs,S,h=>by
  unfold TEs at h
  obtain ⟨v1,v2,S1,S2,h1,h2,h3,h4,h5⟩:=h
  rw [h1,laT,h2,h5.length,List.length_cons,Nat.add_mul]
  omega
theorem TEs.cut {esz : Nat} {cells : List Shp} : ∀ (n : Nat) {xs : List (List AV)} {vs : List Value} {S : List Nat},TEs w esz cells xs vs S -> ∃ S1 S2,S = S1 ++ S2 /\ TEs w esz cells (xs.take n) (vs.take (n * esz)) S1 /\ TEs w esz cells (xs.drop n) (vs.drop (n * esz)) S2
 | 0,xs,vs,S,h=>⟨[],S,rfl,by simp only [Nat.zero_mul,List.take_zero]; unfold TEs; exact ⟨rfl,rfl⟩,by simpa using h⟩
 | n + 1,[],vs,S,h=>by
  unfold TEs at h
  rw [h.1,h.2]
  refine ⟨[],[],rfl,?_,?_⟩ <;> simp only [List.take_nil,List.drop_nil] <;> unfold TEs <;> exact ⟨rfl,rfl⟩
 | n + 1,x :: xs,vs,S,h=>by
  unfold TEs at h
  obtain ⟨v1,v2,S1,S2,h1,h2,h3,h4,h5⟩:=h
  obtain ⟨T1,T2,k1,k2,k3⟩:=TEs.cut n h5
  have e : (n + 1) * esz = v1.length + n * esz:=by rw [h2,Nat.add_mul]; omega
  rw [h1,h3,k1,e,List.take_length_add_append,List.drop_length_add_append]
  refine ⟨S1 ++ T1,T2,by rw [List.append_assoc],?_,k3⟩
  simp only [List.take_succ_cons]
  unfold TEs
  exact ⟨v1,_,S1,T1,rfl,h2,rfl,h4,k2⟩
theorem TEs.at {esz : Nat} {cells : List Shp} {xs : List (List AV)} {vs : List Value} {S : List Nat} (h : TEs w esz cells xs vs S) {idx : Nat} {e : List AV} (he : xs[idx]? = some e) :
  ∃ S1 Se S2,S = S1 ++ Se ++ S2 /\ TL w e cells ((vs.drop (idx * esz)).take esz) Se /\ TEs w esz cells (xs.take idx) (vs.take (idx * esz)) S1 /\ TEs w esz cells (xs.drop (idx + 1)) (vs.drop (idx * esz + esz)) S2:=by
 obtain ⟨S1,S2,k1,k2,k3⟩:=TEs.cut idx h
 obtain ⟨hlt,rfl⟩:=List.getElem?_eq_some_iff.1 he
 rw [List.drop_eq_getElem_cons hlt] at k3
 unfold TEs at k3
 obtain ⟨v1,v2,T1,T2,h1,h2,h3,h4,h5⟩:=k3
 refine ⟨S1,T1,T2,by rw [k1,h3,List.append_assoc],?_,k2,?_⟩
 ·rw [h1,<- h2,List.take_left]
  exact h4
 ·have e : vs.drop (idx * esz + esz) = v2:=by rw [<- List.drop_drop,h1,<- h2,List.drop_left]
  rw [e]
  exact h5
theorem TEs.set {w' : World} {esz : Nat} {cells : List Shp} {xs : List (List AV)} {vs : List Value} {idx : Nat} {e' : List AV} {ve' : List Value} {S1 Se' S2 : List Nat} (hidx : idx < xs.length) (hl : ve'.length = esz)
  (h1 : TEs w' esz cells (xs.take idx) (vs.take (idx * esz)) S1) (h : TL w' e' cells ve' Se') (h2 : TEs w' esz cells (xs.drop (idx + 1)) (vs.drop (idx * esz + esz)) S2) :
  TEs w' esz cells (xs.set idx e') (vs.take (idx * esz) ++ ve' ++ vs.drop (idx * esz + esz)) (S1 ++ Se' ++ S2):=by
 rw [List.set_eq_take_append_cons_drop,if_pos hidx,List.append_assoc,List.append_assoc]
 refine h1.append ?_
 unfold TEs
 exact ⟨ve',_,Se',S2,rfl,hl,rfl,h,h2⟩
theorem splice_mid {α : Type} {vs us : List α} {a esz off : Nat} (ho : off + us.length <= esz) : vs.take a ++ splice ((vs.drop a).take esz) off us ++ vs.drop (a + esz) = splice vs (a + off) us:=by
 unfold splice
 have e1 : ((vs.drop a).take esz).take off = (vs.drop a).take off:=by rw [List.take_take,Nat.min_eq_left (by omega)]
 have e2 : ((vs.drop a).take esz).drop (off + us.length) ++ vs.drop (a + esz) = vs.drop (a + off + us.length):=by
  have q1 : vs.drop (a + esz) = (vs.drop (a + off + us.length)).drop (esz - (off + us.length)):=by rw [List.drop_drop]; congr 1; omega
  have q2 : (vs.drop a).drop (off + us.length) = vs.drop (a + off + us.length):=by rw [List.drop_drop]; congr 1; omega
  rw [List.drop_take,q1,q2,List.take_append_drop]
 have e3 : vs.take a ++ (vs.drop a).take off = vs.take (a + off):=by rw [List.take_add]
 rw [e1]
 simp only [List.append_assoc]
 rw [e2,<- List.append_assoc,e3]
theorem TL.splice {w' : World} {as : List AV} {shs : List Shp} {vs : List Value} {S1 S2 T : List Nat} {off : Nat} {bs : List AV} {us : List Value} (hl : bs.length = us.length)
  (h1 : TL w' (as.take off) (shs.take off) (vs.take off) S1) (h : TL w' bs ((shs.drop off).take us.length) us T) (h2 : TL w' (as.drop (off + us.length)) (shs.drop (off + us.length)) (vs.drop (off + us.length)) S2) :
  TL w' (Ab.splice as off bs) shs (Ab.splice vs off us) (S1 ++ T ++ S2):=by
 have e : shs = shs.take off ++ (shs.drop off).take us.length ++ shs.drop (off + us.length):=by
  rw [List.append_assoc,<- List.drop_drop,List.take_append_drop,List.take_append_drop]
 rw [e]
 unfold Ab.splice
 rw [hl]
 exact (h1.append h).append h2
end
end Go.Ab
namespace Go.Ab
open Go.RowKit
def ofVal1 : Value -> AV
 | .bool b=>.bool b
 | .int k n=>.int k n
 | .string s=>.str s.data.toList
 | .slice none 0 0=>.nil
 | _=>.any
def ofVal : Value -> AV
 | .agg cs=>.agg (cs.toList.map ofVal1)
 | v=>ofVal1 v
theorem ofVal1_ok (c : Ctx) (v : Value) : VR c (ofVal1 v) v:=by
 unfold ofVal1
 split <;> unfold VR <;> simp
theorem ofVals_ok (c : Ctx) : ∀ l : List Value,VL c (l.map ofVal1) l
 | []=>VL.nil
 | v :: l=>VL.cons (ofVal1_ok c v) (ofVals_ok c l)
theorem ofVal_ok (c : Ctx) (v : Value) : VR c (ofVal v) v:=by
 unfold ofVal
 split
 ·unfold VR; exact ⟨_,rfl,ofVals_ok c _⟩
 ·exact ofVal1_ok c _
def St.val (s : St) : Operand -> AV
 | .tmp t=>s.env t
 | .const v=>ofVal v
 | .global _=>.any
 | .func f=>.fn f []
section
variable {F : Nat -> Prop} {w0 : Base} {gv : List Value} {s : St} {a : Act} {w : World} {hdr : Nat -> Hdr}
theorem Sim.val (h : Sim F w0 gv s a w hdr) (x : Operand) : VR (s.ctx F w hdr) (s.val x) (a.eval x):=by
 cases x with
 | tmp t=>exact h.env t
 | const v=>exact ofVal_ok _ v
 | global g=>unfold St.val VR; trivial
 | func f=>unfold St.val VR; exact ⟨#[],rfl,by simpa using VL.nil⟩
def hideA : AV -> AV
 | .sl _=>.any
 | a=>a
def viewE (k : BK) (l : List AV) : List AV:=match k with | .box=>l | .slc=>l | .deep _=>l.map hideA
theorem viewE_drop (k : BK) (l : List AV) (n : Nat) : viewE k (l.drop n) = (viewE k l).drop n:=by cases k <;> simp [viewE,List.map_drop]
theorem viewE_length (k : BK) (l : List AV) : (viewE k l).length = l.length:=by cases k <;> simp [viewE]
theorem viewE_flatten (k : BK) (xs : List (List AV)) : viewE k xs.flatten = (xs.map (viewE k)).flatten:=by
 cases k
 case deep sh =>
  show List.map hideA xs.flatten = (xs.map (List.map hideA)).flatten
  rw [List.map_flatten]
 case box =>
  show xs.flatten = (xs.map (fun l=>l)).flatten
  rw [List.map_id']
 case slc =>
  show xs.flatten = (xs.map (fun l=>l)).flatten
  rw [List.map_id']
theorem TR.val {c : Ctx} {w : World} : ∀ {a : AV} {sh : Shp} {v : Value} {S : List Nat},TR w a sh v S -> VR c (hideA a) v:=by
 intro a sh v S h
 cases a <;> unfold TR at h <;> simp only [hideA] <;> unfold VR <;> first | exact h.elim | trivial | exact h.2.1
theorem TL.vals {c : Ctx} {w : World} : ∀ {as : List AV} {shs : List Shp} {vs : List Value} {S : List Nat},TL w as shs vs S -> VL c (as.map hideA) vs
 | [],shs,vs,S,h=>by unfold TL at h; rw [h.2.1]; exact VL.nil
 | a :: as,shs,vs,S,h=>by
  unfold TL at h
  obtain ⟨sh,shs',v,vs',S1,S2,h1,h2,h3,h4,h5⟩:=h
  rw [h2]
  exact VL.cons h4.val h5.vals
theorem TEs.vals {c : Ctx} {w : World} {esz : Nat} {cells : List Shp} : ∀ {xs : List (List AV)} {vs : List Value} {S : List Nat},TEs w esz cells xs vs S -> VL c (xs.flatten.map hideA) vs
 | [],vs,S,h=>by unfold TEs at h; rw [h.1]; exact VL.nil
 | x :: xs,vs,S,h=>by
  unfold TEs at h
  obtain ⟨v1,v2,S1,S2,h1,h2,h3,h4,h5⟩:=h
  rw [h1,List.flatten_cons,List.map_append]
  exact h4.vals.append h5.vals
theorem CellsR.view {c : Ctx} {o : AObj} {cs : List Value} {fp : List Nat} (h : CellsR c o cs fp) : VL c (viewE o.kind o.elems.flatten) cs:=by
 cases hk : o.kind with
 | box=>exact (h.box hk).1
 | slc=>exact RR.value.values _ _ (h.slc hk).1
 | deep sh=>exact (h.deep hk).vals
def St.cellsAt (s : St) : AV -> Option (List AV)
 | .ptr id idx off =>
  match s.objs id with
  | some o =>
   match o.elems[idx]? with
   | some e=>some (viewE o.kind (e.drop off))
   | none=>none
  | none=>none
 | .rp cs=>some cs
 | _=>none
theorem CsR.list {w : World} {ro : Nat -> Prop} {c : Ctx} (hw : c.w = w) (hr : c.ro = ro) : ∀ (cs : List AV) (rd : Nat -> Option Value),CsR w ro cs rd -> ∃ vs,VL c cs vs /\ ∀ j u,vs[j]? = some u -> rd j = some u
 | [],_,_=>⟨[],VL.nil,fun j u h=>by simp at h⟩
 | a :: cs,rd,h=>by
  unfold CsR at h
  obtain ⟨⟨v,h1,h2⟩,h3⟩:=h
  obtain ⟨vs,k1,k2⟩:=CsR.list hw hr cs _ h3
  refine ⟨v :: vs,VL.cons (RR.value a v (by rw [hw,hr]; exact h2)) k1,fun j u hj=>?_⟩
  cases j with
  | zero=>simp at hj; subst hj; exact h1
  | succ j=>exact k2 j u (by simpa using hj)
theorem Sim.cellsAt (h : Sim F w0 gv s a w hdr) {p : AV} {v : Value} (hv : VR (s.ctx F w hdr) p v) {cs : List AV} (hc : s.cellsAt p = some cs) :
  ∃ b o vs,v = .pointer (some ⟨b,o,none⟩) /\ VL (s.ctx F w hdr) cs vs /\ ∀ j u,vs[j]? = some u -> w.cell? ((⟨b,o,none⟩ : Addr).add j) = some u:=by
 cases p <;> simp only [St.cellsAt] at hc <;> try (cases hc; done)
 case ptr id idx off =>
  unfold VR at hv
  obtain ⟨o,b,h1,h2,h3⟩:=hv
  replace h1 : s.objs id = some o:=h1
  rw [h1] at hc
  simp only at hc
  cases he : o.elems[idx]? with
  | none=>simp [he] at hc
  | some e =>
   simp only [he,Option.some.injEq] at hc
   subst hc
   obtain ⟨hpos,hlens,_,cs0,hrow,hone,hcl⟩:=h.objs id o h1
   have hvl:=hcl.view
   obtain ⟨cap,cur,hh,_,hBb,hg,hcap,hmax,hcur,htake⟩:=ownsRow_cells hrow h2
   have hel : e.length = o.esz:=hlens e (mgE he)
   have he' : (o.elems.map (viewE o.kind))[idx]? = some (viewE o.kind e):=by rw [List.getElem?_map,he]; rfl
   have hlens' : ∀ x ∈ o.elems.map (viewE o.kind),x.length = o.esz:=fun x hx=>by
    obtain ⟨y,hy,rfl⟩:=List.mem_map.1 hx
    rw [viewE_length]; exact hlens y hy
   rw [viewE_flatten] at hvl
   rw [viewE_drop]
   by_cases hoff : off <= o.esz
   ·refine ⟨b,idx * o.esz + off,(cs0.drop (idx * o.esz + off)).take (o.esz - off),h3,?_,?_⟩
    ·have:=flatten_drop o.esz _ hlens' idx _ he' off hoff
     rw [<- this]
     exact (hvl.drop _).take _
    ·intro j u hj
     rw [List.getElem?_take] at hj
     split at hj
     ·rw [List.getElem?_drop] at hj
      have:=hrow.cells (g:=b) h2 _ u hj
      rw [Addr.add_lit] at this ⊢
      rw [Nat.zero_add] at this
      exact this
     ·cases hj
   ·rw [List.drop_eq_nil_of_le (by rw [viewE_length]; omega)]
    exact ⟨b,idx * o.esz + off,[],h3,VL.nil,fun j u hj=>by simp at hj⟩
 case rp cs' =>
  simp only [Option.some.injEq] at hc
  subst hc
  unfold VR RR at hv
  obtain ⟨b,o,h1,h2,h3⟩:=hv
  obtain ⟨vs,k1,k2⟩:=CsR.list (c:=s.ctx F w hdr) rfl rfl cs' _ h3
  exact ⟨b,o,vs,h1,k1,fun j u hj=>by rw [Addr.add_lit]; exact k2 j u hj⟩
def isAggD : TypeDesc -> Bool
 | .struct _ | .array _ _=>true
 | _=>false
def takeA (P : Program) (T : TypeId) (cs : List AV) : Option AV :=
 match P.info? T with
 | some i =>
  match P.underlying T with
  | some d=>if isAggD d then (if i.size <= cs.length then some (.agg (cs.take i.size)) else none) else cs.head?
  | none=>none
 | none=>none
theorem run_isAgg {P : Program} {T : TypeId} {d : TypeDesc} (h : P.underlying T = some d) (w : World) : (isAgg T).run P w = .ok (isAggD d) w:=by
 cases d <;> simp [isAgg,run_underlying h,isAggD]
theorem Sim.load (h : Sim F w0 gv s a w hdr) {P : Program} {T : TypeId} {p : AV} {v : Value} (hv : VR (s.ctx F w hdr) p v) {cs : List AV} (hc : s.cellsAt p = some cs) {x : AV} (hx : takeA P T cs = some x) :
  ∃ u,(Instr.loadAt T v).run P w = .ok u w /\ VR (s.ctx F w hdr) x u:=by
 obtain ⟨b,o,vs,h1,h2,h3⟩:=h.cellsAt hv hc
 subst h1
 unfold takeA at hx
 cases hi : P.info? T with
 | none=>simp [hi] at hx
 | some i =>
  cases hd : P.underlying T with
  | none=>simp [hi,hd] at hx
  | some d =>
   simp only [hi,hd] at hx
   by_cases hg : isAggD d = true
   ·simp only [hg,if_true] at hx
    split at hx
    ·rename_i hle
     simp only [Option.some.injEq] at hx
     subst hx
     have hl : vs.length = cs.length:=h2.length.symm
     have hr:=run_loadCells_list (P:=P) w ⟨b,o,none⟩ (vs.take i.size) (fun j u hj=>h3 j u (by
      rw [List.getElem?_take] at hj
      split at hj
      ·exact hj
      ·cases hj))
     rw [List.length_take,Nat.min_eq_left (by omega)] at hr
     refine ⟨.agg (vs.take i.size).toArray,?_,?_⟩
     ·simp [Instr.loadAt,Instr.sureAddr,loadVar,run_isAgg hd,hg,sizeOf,typeInfo,hi,hr]
     ·unfold VR
      exact ⟨_,rfl,by simpa using h2.take i.size⟩
    ·cases hx
   ·simp only [hg] at hx
    cases cs with
    | nil=>simp at hx
    | cons c0 cs =>
     simp at hx
     subst hx
     cases vs with
     | nil=>unfold VL at h2; exact h2.elim
     | cons u vs =>
      unfold VL at h2
      have h4:=h3 0 u rfl
      have hg' : isAggD d = false:=by simpa using hg
      refine ⟨u,?_,h2.1⟩
      rw [Addr.add_lit,Nat.add_zero] at h4
      simp [Instr.loadAt,Instr.sureAddr,loadVar,run_isAgg hd,hg',h4]
def fieldOff (P : Program) (T : TypeId) (f : Nat) : Option (Nat × TypeId) :=
 match P.underlying T with
 | some (.struct fs) =>
  match fs[f]? with
  | some x =>
   match P.info? x.type with
   | some i=>if i.size = 0 then none else some (x.offset,x.type)
   | none=>none
  | none=>none
 | _=>none
def moveP (p : AV) (n : Nat) : Option AV :=
 match p with
 | .ptr id idx off=>some (.ptr id idx (off + n))
 | .rp cs=>some (.rp (cs.drop n))
 | _=>none
theorem CsR.drop {w : World} {ro : Nat -> Prop} : ∀ (n : Nat) (cs : List AV) (rd : Nat -> Option Value),CsR w ro cs rd -> CsR w ro (cs.drop n) (fun j=>rd (n + j))
 | 0,cs,rd,h=>by
  simp only [List.drop_zero]
  exact CsR.mono (w:=w) (ro:=ro) (fun _ _ _=>rfl) (fun _ h=>h) cs rd _ (fun j=>by rw [Nat.zero_add]) h
 | n + 1,[],rd,_=>by simp only [List.drop_nil]; unfold CsR; trivial
 | n + 1,a :: cs,rd,h=>by
  unfold CsR at h
  simp only [List.drop_succ_cons]
  exact CsR.mono (w:=w) (ro:=ro) (fun _ _ _=>rfl) (fun _ h=>h) _ _ _ (fun j=>by congr 1; omega) (CsR.drop n cs _ h.2)
theorem moveP_ok {c : Ctx} {p q : AV} {v : Value} {n : Nat} (hv : VR c p v) (hq : moveP p n = some q) : ∃ b o,v = .pointer (some ⟨b,o,none⟩) /\ VR c q (.pointer (some ⟨b,o + n,none⟩)):=by
 cases p <;> simp only [moveP] at hq <;> try (cases hq; done)
 case ptr id idx off =>
  cases hq
  unfold VR at hv
  obtain ⟨o,b,h1,h2,h3⟩:=hv
  refine ⟨b,_,h3,?_⟩
  unfold VR
  exact ⟨o,b,h1,h2,by rw [Nat.add_assoc]⟩
 case rp cs =>
  cases hq
  unfold VR RR at hv
  obtain ⟨b,o,h1,h2,h3⟩:=hv
  refine ⟨b,o,h1,?_⟩
  unfold VR RR
  refine ⟨b,o + n,rfl,h2,?_⟩
  exact CsR.mono (w:=c.w) (ro:=c.ro) (fun _ _ _=>rfl) (fun _ h=>h) _ _ _ (fun j=>by rw [Nat.add_assoc]) (CsR.drop n cs _ h3)
theorem run_fieldAt {P : Program} {T : TypeId} {f off : Nat} {t : TypeId} (h : fieldOff P T f = some (off,t)) (b o : Nat) (w : World) :
  (Instr.fieldAt T (.pointer (some ⟨b,o,none⟩)) f).run P w = .ok (.pointer (some ⟨b,o + off,none⟩)) w:=by
 unfold fieldOff at h
 split at h
 ·rename_i fs hu
  split at h
  ·rename_i x hx
   split at h
   ·rename_i i hi
    split at h
    ·cases h
    ·rename_i hz
     simp only [Option.some.injEq,Prod.mk.injEq] at h
     obtain ⟨rfl,rfl⟩:=h
     simp [Instr.fieldAt,run_underlying hu,hx,Instr.sureAddr,fieldPlace,sizeOf,typeInfo,hi,hz,Addr.add_lit]
   ·cases h
  ·cases h
 ·cases h
def elemOf? (P : Program) (T : TypeId) : Option TypeId :=
 match P.underlying T with
 | some (.slice e)=>some e
 | _=>none
theorem elemOf?_some {P : Program} {T e : TypeId} (h : elemOf? P T = some e) : P.underlying T = some (.slice e):=by
 unfold elemOf? at h
 split at h
 ·cases h; assumption
 ·cases h
def sizeOf? (P : Program) (T : TypeId) : Option Nat:=(P.info? T).map (·.size)
def indexP (s : St) (x : AV) (i : Int) (esz : Nat) : Option (Nat × AV) :=
 match x with
 | .own id =>
  match s.objs id with
  | some o=>if o.box = false /\ o.esz = esz then some (o.elems.length,.ptr id i.toNat 0) else none
  | none=>none
 | .sl xs=>some (xs.length,.rp (xs.getD i.toNat []))
 | _=>none
theorem EsR.get {w : World} {ro : Nat -> Prop} (esz : Nat) : ∀ (xs : List (List AV)) (rd : Nat -> Option Value),EsR w ro esz xs rd -> ∀ (i : Nat) (x : List AV),xs[i]? = some x -> x.length = esz /\ CsR w ro x (fun j=>rd (i * esz + j))
 | [],_,_,i,x,hi=>by simp at hi
 | x :: xs,rd,h,0,y,hi=>by
  unfold EsR at h
  simp at hi
  subst hi
  exact ⟨h.1,CsR.mono (w:=w) (ro:=ro) (fun _ _ _=>rfl) (fun _ h=>h) _ _ _ (fun j=>by simp) h.2.1⟩
 | x :: xs,rd,h,i + 1,y,hi=>by
  unfold EsR at h
  obtain ⟨h1,h2⟩:=EsR.get esz xs _ h.2.2 i y (by simpa using hi)
  exact ⟨h1,CsR.mono (w:=w) (ro:=ro) (fun _ _ _=>rfl) (fun _ h=>h) _ _ _ (fun j=>by congr 1; simp [Nat.add_mul]; omega) h2⟩
theorem Sim.indexAt (h : Sim F w0 gv s a w hdr) {P : Program} {T e : TypeId} (hT : elemOf? P T = some e) {esz : Nat} (hs : sizeOf? P e = some esz) {x q : AV} {v : Value} (hv : VR (s.ctx F w hdr) x v)
  {k : IntKind} {i : Int} {n : Nat} (hq : indexP s x i esz = some (n,q)) (h0 : 0 <= i) (hn : i < n) (hx : ∀ xs y,x = .sl xs -> xs[i.toNat]? = some y -> y.length = esz) :
  ∃ u,(Instr.indexAt T v (.int k i)).run P w = .ok u w /\ VR (s.ctx F w hdr) q u:=by
 have hu:=elemOf?_some hT
 unfold sizeOf? at hs
 cases hi : P.info? e with
 | none=>simp [hi] at hs
 | some ie =>
  simp [hi] at hs
  cases x <;> simp only [indexP] at hq <;> try (cases hq; done)
  case own id =>
   cases ho : s.objs id with
   | none=>simp [ho] at hq
   | some o =>
    simp only [ho] at hq
    split at hq
    ·rename_i hcond
     cases hq
     unfold VR at hv
     obtain ⟨_,hv⟩:=hv
     replace hv : v = (hdr id).v:=hv
     obtain ⟨hpos,hlens,_,cs0,hrow,_⟩:=h.objs id o ho
     rcases hrow.2 with ⟨_,e1,e2⟩ | ⟨g,cap,cur,e1,e0,e2,e3,e4,e5,e6,e7⟩
     ·omega
     ·have hadd : (⟨g,0,none⟩ : Addr).add (i.toNat * ie.size) = ⟨g,i.toNat * o.esz + 0,none⟩:=by
       rw [Addr.add_lit,hs,hcond.2]; simp
      refine ⟨.pointer (some ⟨g,i.toNat * o.esz + 0,none⟩),?_,?_⟩
      ·rw [hv,e1]
       simp [Instr.indexAt,asIntOf,run_underlying hu,sizeOf,typeInfo,hi,h0,hn,hadd]
      ·unfold VR
       exact ⟨o,g,ho,by show (hdr id).v.blk = some g; rw [e1]; exact blk_slice e0,rfl⟩
    ·cases hq
  case sl xs =>
   cases hq
   unfold VR RR at hv
   obtain ⟨base,cap,e1,e2,e3⟩:=hv
   rcases e3 with e3 | ⟨b,o,esz',f1,f2,f3⟩
   ·subst e3; simp at hn; omega
   ·have hlt : i.toNat < xs.length:=by omega
    have hget : xs[i.toNat]? = some (xs.getD i.toNat []):=by simp [List.getD_eq_getElem?_getD,hlt]
    obtain ⟨g1,g2⟩:=EsR.get esz' xs _ f3 i.toNat _ hget
    have hez : esz' = esz:=by rw [<- g1]; exact hx xs _ rfl hget
    subst hez
    have hadd : (⟨b,o,none⟩ : Addr).add (i.toNat * ie.size) = ⟨b,o + i.toNat * esz',none⟩:=by rw [Addr.add_lit,hs]
    refine ⟨.pointer (some ⟨b,o + i.toNat * esz',none⟩),?_,?_⟩
    ·rw [e1,f1]
     simp [Instr.indexAt,asIntOf,run_underlying hu,sizeOf,typeInfo,hi,h0,hn,hadd]
    ·unfold VR RR
     exact ⟨b,_,rfl,f2,CsR.mono (w:=w) (ro:=roOf F w hdr s.objs) (fun _ _ _=>rfl) (fun _ h=>h) _ _ _ (fun j=>by rw [Nat.add_assoc]) g2⟩
end
end Go.Ab
namespace Go.Ab
open Go.RowKit
def AV.cells? : AV -> Option (List AV)
 | .agg cs=>if cs.all AV.one then some cs else none
 | a=>if a.one then some [a] else none
theorem cells_of_one {v : Value} (h : v.oneCell' = true) : v.cells.toList = [v]:=by
 cases v <;> simp_all [Value.oneCell',Value.cells]
theorem VL.ones {c : Ctx} (hh : ∀ id,(c.objs id).isSome = true -> (c.hdr id).v.oneCell' = true) : ∀ {as : List AV} {vs : List Value},VL c as vs -> as.all AV.one = true -> ∀ u ∈ vs,u.oneCell' = true
 | [],[],_,_,u,hu=>by simp at hu
 | a :: as,v :: vs,h,ho,u,hu=>by
  unfold VL at h
  simp only [List.all_cons,baT] at ho
  simp only [List.mem_cons] at hu
  rcases hu with hu | hu
  ·rw [hu]; exact h.1.oneCell ho.1 hh
  ·exact VL.ones hh h.2 ho.2 u hu
 | [],_ :: _,h,_,_,_=>by unfold VL at h; exact h.elim
 | _ :: _,[],h,_,_,_=>by unfold VL at h; exact h.elim
theorem cells?_ok {c : Ctx} (hh : ∀ id,(c.objs id).isSome = true -> (c.hdr id).v.oneCell' = true) {x : AV} {v : Value} (h : VR c x v) {cs : List AV} (hc : x.cells? = some cs) :
  VL c cs v.cells.toList /\ ∀ u ∈ v.cells.toList,u.oneCell' = true:=by
 have one : ∀ y : AV,y.one = true -> VR c y v -> cs = [y] -> VL c cs v.cells.toList /\ ∀ u ∈ v.cells.toList,u.oneCell' = true:=by
  intro y hy hv e
  have h1:=hv.oneCell hy hh
  rw [cells_of_one h1,e]
  refine ⟨VL.cons hv VL.nil,fun u hu=>?_⟩
  simp at hu; rw [hu]; exact h1
 cases x
 case agg as =>
  simp only [AV.cells?] at hc
  split at hc
  ·rename_i ho
   cases hc
   unfold VR at h
   obtain ⟨vs,rfl,h2⟩:=h
   exact ⟨h2,VL.ones hh h2 ho⟩
  ·cases hc
 all_goals
  simp only [AV.cells?,AV.one,if_true] at hc
  first
   | (simp at hc; done)
   | (refine one _ rfl h ?_; simpa using hc.symm)
def zeroA (P : Program) (T : TypeId) : Option (List AV) :=
 match P.info? T with
 | some i =>
  match i.zero with
  | some z=>some (z.cells.toList.map ofVal1)
  | none=>none
 | none=>none
def fillA (place : Nat -> Option (Nat × Nat)) (cells : List AV) : List (Nat × AV) -> Option (List AV)
 | []=>some cells
 | (i,x) :: rest =>
  match place i with
  | some (off,size) =>
   match x.cells? with
   | some cs=>if cs.length = size /\ off + size <= cells.length then fillA place (splice cells off cs) rest else none
   | none=>none
  | none=>none
theorem foldl_set_splice (off : Nat) : ∀ (vs : List Value) (k : Nat) (cells : Array Value),off + k + vs.length <= cells.size ->
  ((vs.zipIdx k).foldl (fun cs (c,j)=>cs.setIfInBounds (off + j) c) cells).toList = splice cells.toList (off + k) vs
 | [],k,cells,_=>by simp [splice]
 | v :: vs,k,cells,h=>by
  simp only [List.length_cons] at h
  simp only [List.zipIdx_cons,List.foldl_cons]
  rw [foldl_set_splice off vs (k + 1) _ (by simp; omega)]
  unfold splice
  rw [Array.toList_setIfInBounds]
  have hk : off + k < cells.toList.length:=by simp; omega
  have e1 : List.take (off + (k + 1)) (cells.toList.set (off + k) v) = List.take (off + k) cells.toList ++ [v]:=by
   rw [<- Nat.add_assoc,List.take_succ_eq_append_getElem (by simpa using hk),List.take_set_of_le (Nat.le_refl _)]
   simp
  have e2 : List.drop (off + (k + 1) + vs.length) (cells.toList.set (off + k) v) = List.drop (off + k + (v :: vs).length) cells.toList:=by
   rw [List.drop_set_of_lt (by omega)]
   congr 1
   simp only [List.length_cons]
   omega
  rw [e1,e2]
  simp only [List.append_assoc,List.cons_append,List.nil_append]
theorem fillA_ok {c : Ctx} (hh : ∀ id,(c.objs id).isSome = true -> (c.hdr id).v.oneCell' = true) (place : Nat -> Option (Nat × Nat)) :
  ∀ (parts : List (Nat × AV)) (parts' : List (Nat × Value)) (cells : List AV) (cells' : Array Value) (r : List AV),
   parts.length = parts'.length -> (∀ (j : Nat) (p : Nat × AV) (q : Nat × Value),parts[j]? = some p -> parts'[j]? = some q -> p.1 = q.1 /\ VR c p.2 q.2) -> VL c cells cells'.toList -> fillA place cells parts = some r ->
   ∃ r',Instr.fill place cells' parts' = some r' /\ VL c r r'.toList
 | [],[],cells,cells',r,_,_,h,hf=>by
  simp only [fillA,Option.some.injEq] at hf
  subst hf
  exact ⟨cells',rfl,h⟩
 | (i,x) :: parts,(i',v) :: parts',cells,cells',r,hl,hp,h,hf=>by
  obtain ⟨e1,e2⟩:=hp 0 (i,x) (i',v) rfl rfl
  simp only at e1 e2
  subst e1
  simp only [fillA] at hf
  cases hpl : place i with
  | none=>simp [hpl] at hf
  | some os =>
   obtain ⟨off,size⟩:=os
   cases hc : x.cells? with
   | none=>simp [hpl,hc] at hf
   | some cs =>
    simp only [hpl,hc] at hf
    split at hf
    ·rename_i hcond
     obtain ⟨k1,_⟩:=cells?_ok hh e2 hc
     have hlen : cs.length = v.cells.toList.length:=k1.length
     have hcl : cells.length = cells'.size:=by simpa using h.length
     have hvs : v.cells.size = size:=by simpa [hcond.1] using hlen.symm
     have hsp:=foldl_set_splice off v.cells.toList 0 cells' (by simp; omega)
     have h2 : VL c (splice cells off cs) (splice cells'.toList off v.cells.toList):=h.splice off k1
     simp only [Nat.add_zero] at hsp
     rw [<- hsp] at h2
     obtain ⟨r',q1,q2⟩:=fillA_ok hh place parts parts' (splice cells off cs) _ r (by simpa using hl) (fun j p q hj hj'=>hp (j + 1) p q hj hj') h2 hf
     refine ⟨r',?_,q2⟩
     simp only [Instr.fill,hpl]
     rw [if_neg (by simp [hvs]; omega)]
     rw [<- q1]
     congr 1
     rw [<- Array.toList_zipIdx,Array.foldl_toList]
    ·cases hf
 | [],_ :: _,_,_,_,hl,_,_,_=>by simp at hl
 | _ :: _,[],_,_,_,hl,_,_,_=>by simp at hl
def placesOf (P : Program) (T : TypeId) : Option (List (Nat × Nat)) :=
 match P.underlying T with
 | some (.struct fields)=>fields.toList.mapM (fun f=>(P.info? f.type).map fun i=>(f.offset,i.size))
 | _=>none
def buildA (P : Program) (T : TypeId) (parts : List (Nat × AV)) : Option (List AV) :=
 match zeroA P T with
 | some z =>
  match placesOf P T with
  | some pl=>fillA (pl.toArray[·]?) z parts
  | none=>none
 | none=>none
theorem zeroA_ok {P : Program} {T : TypeId} {z : List AV} (h : zeroA P T = some z) : ∃ i v,P.info? T = some i /\ i.zero = some v /\ ∀ c,VL c z v.cells.toList:=by
 unfold zeroA at h
 cases hi : P.info? T with
 | none=>simp [hi] at h
 | some i =>
  cases hz : i.zero with
  | none=>simp [hi,hz] at h
  | some v =>
   simp [hi,hz] at h
   subst h
   exact ⟨i,v,rfl,hz,fun c=>ofVals_ok c _⟩
theorem buildA_ok {c : Ctx} (hh : ∀ id,(c.objs id).isSome = true -> (c.hdr id).v.oneCell' = true) {P : Program} {T : TypeId} {parts : List (Nat × AV)} {parts' : List (Nat × Value)} {r : List AV}
  (hl : parts.length = parts'.length) (hp : ∀ (j : Nat) (p : Nat × AV) (q : Nat × Value),parts[j]? = some p -> parts'[j]? = some q -> p.1 = q.1 /\ VR c p.2 q.2) (h : buildA P T parts = some r) :
  ∃ r',P.built T parts' = some r' /\ VL c r r'.toList:=by
 unfold buildA at h
 cases hz : zeroA P T with
 | none=>simp [hz] at h
 | some z =>
  cases hpl : placesOf P T with
  | none=>simp [hz,hpl] at h
  | some pl =>
   simp only [hz,hpl] at h
   obtain ⟨i,v,e1,e2,e3⟩:=zeroA_ok hz
   obtain ⟨r',q1,q2⟩:=fillA_ok hh _ parts parts' z v.cells r hl hp (e3 c) h
   refine ⟨r',?_,q2⟩
   unfold placesOf at hpl
   cases hu : P.underlying T with
   | none=>simp [hu] at hpl
   | some d =>
    cases d <;> simp only [hu] at hpl <;> try (cases hpl; done)
    unfold Program.built
    simp only [e1,hu,e2,hpl]
    exact q1
def intBin (op : BinOp) (k : IntKind) (x y : Int) : Option (Option Prop × AV) :=
 match op with
 | .add=>some (none,.int k (k.wrap (x + y)))
 | .sub=>some (none,.int k (k.wrap (x - y)))
 | .mul=>some (none,.int k (k.wrap (x * y)))
 | .quo=>some (some (y ≠ 0),.int k (k.wrap (x.tdiv y)))
 | .rem=>some (some (y ≠ 0),.int k (x.tmod y))
 | .eql=>some (none,.bool (x == y))
 | .neq=>some (none,.bool (x != y))
 | .lss=>some (none,.bool (decide (x < y)))
 | .leq=>some (none,.bool (decide (x <= y)))
 | .gtr=>some (none,.bool (decide (x > y)))
 | .geq=>some (none,.bool (decide (x ≥ y)))
 | .and=>some (none,.int k (k.wrap (BitVec.ofInt k.bits x &&& BitVec.ofInt k.bits y).toNat))
 | .or=>some (none,.int k (k.wrap (BitVec.ofInt k.bits x ||| BitVec.ofInt k.bits y).toNat))
 | .xor=>some (none,.int k (k.wrap (BitVec.ofInt k.bits x ^^^ BitVec.ofInt k.bits y).toNat))
 | _=>none
def strBin (op : BinOp) (x y : List UInt8) : Option (Option Prop × AV) :=
 match op with
 | .add=>some (some (x.length + y.length <= 4611686018427387904),.str (x ++ y))
 | .eql=>some (none,.bool (x == y))
 | .neq=>some (none,.bool (!(x == y)))
 | .lss=>some (none,.bool (Op.bytesLess x y))
 | .leq=>some (none,.bool (Op.bytesLess x y || x == y))
 | .gtr=>some (none,.bool (!(Op.bytesLess x y || x == y)))
 | .geq=>some (none,.bool (!Op.bytesLess x y))
 | _=>none
def isBoolT (P : Program) (T : TypeId) : Bool :=
 match P.underlying T with
 | some .bool=>true
 | _=>false
def leafB (P : Program) (t : TypeId) (x y : AV) : Option Bool :=
 match x with
 | .int k a =>
  match y with
  | .int k' b =>
   match P.underlying t with
   | some (.int _)=>if k = k' then some (a == b) else none
   | _=>none
  | _=>none
 | .str a =>
  match y with
  | .str b =>
   match P.underlying t with
   | some .string=>some (a == b)
   | _=>none
  | _=>none
 | .bool a =>
  match y with
  | .bool b =>
   match P.underlying t with
   | some .bool=>some (a == b)
   | _=>none
  | _=>none
 | _=>none
def eqF (P : Program) (xs ys : List AV) : List Field -> Option Bool
 | []=>some true
 | f :: fs =>
  match xs[f.offset]? with
  | some x =>
   match ys[f.offset]? with
   | some y =>
    match leafB P f.type x y with
    | some b =>
     match fs with
     | []=>some b
     | _ :: _ =>
      match eqF P xs ys fs with
      | some r=>some (b && r)
      | none=>none
    | none=>none
   | none=>none
  | none=>none
def structOk (P : Program) (T : TypeId) : Bool :=
 match P.underlying T with
 | some (.struct fs) => fs.toList.all (fun f => f.name != "_") && (!P.stoodInHeld T && !P.eqGuardType P.depth T)
 | _=>false
def binA (P : Program) (op : BinOp) (T : TypeId) (x y : AV) : Option (Option Prop × AV) :=
 match x with
 | .int k a =>
  match y with
  | .int k' b =>
   match op with
   | .shl=>some (some (0 <= b),.int k (k.wrap (a * 2 ^ (min b.toNat k.bits))))
   | .shr=>some (some (0 <= b),.int k (a.fdiv (2 ^ (min b.toNat k.bits))))
   | _=>if k = k' then intBin op k a b else none
  | _=>none
 | .str a =>
  match y with
  | .str b=>strBin op a b
  | _=>none
 | .bool a =>
  match y with
  | .bool b =>
   match isBoolT P T with
   | true =>
    match op with
    | .eql=>some (none,.bool (a == b))
    | .neq=>some (none,.bool (!(a == b)))
    | _=>none
   | false=>none
  | _=>none
 | .agg xs =>
  match y with
  | .agg ys =>
   match P.underlying T with
   | some (.struct fs) =>
    match eqF P xs ys fs.toList with
    | some b =>
     match op with
     | .eql=>some (some (structOk P T = true),.bool b)
     | .neq=>some (some (structOk P T = true),.bool (!b))
     | _=>none
    | none=>none
   | _=>none
  | _=>none
 | _=>none
end Go.Ab
namespace Go.Ab
open Go.RowKit
def resCtx (R : Nat -> Prop) (sh : Bool) (w w' : World) (hdr : Nat -> Hdr) (os : List AObj) : Ctx :=
 ⟨w',fun b=>((sh = true /\ R b) \/ w.heap.size <= b) /\ b < w'.heap.size /\ ∀ id o,os[id]? = some o -> ¬ (hdr id).has b,hdr,fun id=>os[id]?⟩
structure ResR (R : Nat -> Prop) (sh : Bool) (w w' : World) (hdr : Nat -> Hdr) (r : AV) (os : List AObj) (v : Value) : Prop where
 val : VR (resCtx R sh w w' hdr os) r v
 slc : ∀ o ∈ os,o.box = false
 objs : ∀ (id : Nat) o,os[id]? = some o -> ObjR (fun b=>w.heap.size <= b) (resCtx R sh w w' hdr os) o (hdr id)
 dis : ∀ (i j : Nat) o o' b,os[i]? = some o -> os[j]? = some o' -> (hdr i).has b -> (hdr j).has b -> i = j
def Ans (P : Program) (f : Nat) (args : Array Value) (w : World) (R : Value -> World -> Prop) : Prop :=
 match (callFunc f args).run P w with
 | .ok (.value v) w'=>R v w'
 | .ok (.enter f' args') w'=>Calls P f' args' w' fun e w''=>∃ v,e = .returned v /\ R v w''
 | _=>False
theorem run_callFunc_body {P : Program} {f : Nat} {fn : Func} {c : Code} (hf : P.funcs[f]? = some fn) (hname : (fn.name == "runtime.NumGoroutine") = false) (hb : fn.body = some c) (args : Array Value) (w : World) :
  (callFunc f args).run P w = .ok (.enter f args) w:=by
 have hn2 : ¬ fn.name = "runtime.NumGoroutine" := by simpa using hname
 simp [callFunc,hf,hn2,hb]
theorem Ans_body {P : Program} {f : Nat} {fn : Func} {c : Code} {args : Array Value} {w : World} {R : Value -> World -> Prop} (hf : P.funcs[f]? = some fn) (hname : (fn.name == "runtime.NumGoroutine") = false) (hb : fn.body = some c) :
  Ans P f args w R ↔ Calls P f args w fun e w''=>∃ v,e = .returned v /\ R v w'':=by
 unfold Ans
 rw [run_callFunc_body hf hname hb]
theorem Ans.upon {P : Program} {f : Nat} {args : Array Value} {w : World} {R : Value -> World -> Prop} {o : Oper} {a : Act} {next : Act -> World -> Prop} {Q : Exit -> Act -> World -> Prop} (h : Ans P f args w R)
  (hn : ∀ v w',R v w' -> next (a.put o.dst v) w') : o.upon P a next Q ((callFunc f args).run P w):=by
 unfold Ans at h
 split at h
 ·rename_i e; rw [e]; exact hn _ _ h
 ·rename_i e
  rw [e]
  refine h.mono fun e w' hq=>?_
  obtain ⟨v,rfl,hq⟩:=hq
  exact hn _ _ hq
 ·exact h.elim
structure PC (P : Program) (sh : Bool) (f : Nat) (args : List AV) (r : AV) (os : List AObj) : Prop where
 run : ∀ (w : World) (R : Nat -> Prop) (vals : List Value),ROk w R -> LR w R args vals ->
  Ans P f vals.toArray w fun v w'=>∃ hdr,Below w.heap.size w w' /\ ResR R sh w w' hdr r os v
def rf0 (s : St) : AV -> AV
 | .own id =>
  match s.objs id with
  | some o=>if o.box then .any else .sl o.elems
  | none=>.any
 | .ptr _ _ _=>.any
 | .cel _ _ _ xs=>.sl xs
 | .prt _ _ _ _=>.any
 | .agg _=>.any
 | .tup _=>.any
 | .fn _ _=>.any
 | a=>a
def rf1 (s : St) : AV -> AV
 | .agg cs=>.agg (cs.map (rf0 s))
 | .ptr id idx off =>
  match s.objs id with
  | some o =>
   match o.box with
   | true =>
    match s.cellsAt (.ptr id idx off) with
    | some cs=>.rp (cs.map (rf0 s))
    | none=>.any
   | false=>.any
  | none=>.any
 | a=>rf0 s a
def rf (s : St) : AV -> AV
 | .fn f caps=>.fn f (caps.map (rf1 s))
 | a=>rf1 s a
def known0 (s : St) : AV -> Bool
 | .own id=>(s.objs id).isSome
 | .ptr id _ _=>(s.objs id).isSome
 | .cel id _ _ _=>(s.objs id).isSome
 | .prt id _ _ _=>(s.objs id).isSome
 | _=>true
def known1 (s : St) : AV -> Bool
 | .agg cs=>cs.all (known0 s)
 | .ptr id idx off =>
  match s.objs id with
  | some o =>
   match o.box with
   | true =>
    match s.cellsAt (.ptr id idx off) with
    | some cs=>cs.all (known0 s)
    | none=>false
   | false=>false
  | none=>false
 | a=>known0 s a
def known (s : St) : AV -> Bool
 | .fn _ caps=>caps.all (known1 s)
 | a=>known1 s a
def AV.ro1 : AV -> Bool
 | .int _ _ | .bool _ | .str _ | .nil | .sl _ | .rp _=>true
 | _=>false
def AV.ro2 : AV -> Bool
 | .agg cs=>cs.all AV.ro1
 | a=>a.ro1
def AV.shift (d : Nat) (a : AV) : AV:=a.sub (fun id=>.own (d + id)) (fun id x y=>.ptr (d + id) x y) (fun id x y z=>.cel (d + id) x y z)
def addObjs (d : Nat) (os : List AObj) (objs : Nat -> Option AObj) : Nat -> Option AObj :=
 match os with
 | []=>objs
 | o :: os=>addObjs (d + 1) os (fun i=>if i = d then some o else objs i)
def freeFrom (d : Nat) (os : List AObj) (objs : Nat -> Option AObj) : Bool :=
 match os with
 | []=>true
 | _ :: os =>
  match objs d with
  | none=>freeFrom (d + 1) os objs
  | some _=>false
def frzIds (s : St) : List Nat -> St
 | []=>s
 | id :: ids =>
  match s.objs id with
  | some o=>if o.box then frzIds s ids else frzIds (turned s (frzO id o.elems) (killP id) (killC id) id none) ids
  | none=>frzIds s ids
def ownsOf : List AV -> List Nat
 | []=>[]
 | .own id :: as=>id :: ownsOf as
 | _ :: as=>ownsOf as
def frzL (s : St) (cs : List AV) : St × List AV:=(frzIds s (ownsOf cs),cs.map (rf0 s))
@[irreducible] def splitB (b : Bool) (A B : Prop) : Prop:=(b = true -> A) /\ (b = false -> B)
theorem splitB_intro {b : Bool} {A B : Prop} (h : b = true -> A) (h' : b = false -> B) : splitB b A B:=by unfold splitB; exact ⟨h,h'⟩
theorem splitB_true {A B : Prop} (h : A) : splitB true A B:=splitB_intro (fun _=>h) (fun e=>by cases e)
theorem splitB_false {A B : Prop} (h : B) : splitB false A B:=splitB_intro (fun e=>by cases e) (fun _=>h)
theorem splitB_elim {b : Bool} {A B : Prop} (h : splitB b A B) : (b = true -> A) /\ (b = false -> B):=by unfold splitB at h; exact h
def force0 (v : AV) (K : AV -> Prop) : Prop :=
 match v with
 | .any=>K .any
 | .int k n=>K (.int k n)
 | .bool b=>K (.bool b)
 | .str l=>K (.str l)
 | .nil=>K .nil
 | .sl xs=>K (.sl xs)
 | .rp cs=>K (.rp cs)
 | .own id=>K (.own id)
 | .ptr id x y=>K (.ptr id x y)
 | .cel id x y z=>K (.cel id x y z)
 | .prt id x y z=>K (.prt id x y z)
 | .agg cs=>K (.agg cs)
 | .tup cs=>K (.tup cs)
 | .fn f cs=>K (.fn f cs)
theorem force0_eq (v : AV) (K : AV -> Prop) : force0 v K = K v:=by cases v <;> rfl
def forceL0 (l : List AV) : (List AV -> Prop) -> Prop :=
 List.rec (motive:=fun _=>(List AV -> Prop) -> Prop) (fun K=>K []) (fun a _ ih K=>force0 a fun a=>ih fun as=>K (a :: as)) l
theorem forceL0_eq : ∀ (l : List AV) (K : List AV -> Prop),forceL0 l K = K l
 | [],_=>rfl
 | a :: as,K=>by
  show force0 a (fun a=>forceL0 as fun as=>K (a :: as)) = _
  rw [force0_eq,forceL0_eq as]
def force1 (v : AV) (K : AV -> Prop) : Prop :=
 match v with
 | .agg cs=>forceL0 cs fun cs=>K (.agg cs)
 | v=>force0 v K
theorem force1_eq (v : AV) (K : AV -> Prop) : force1 v K = K v:=by cases v <;> first | rfl | exact forceL0_eq _ _
def forceL1 (l : List AV) : (List AV -> Prop) -> Prop :=
 List.rec (motive:=fun _=>(List AV -> Prop) -> Prop) (fun K=>K []) (fun a _ ih K=>force1 a fun a=>ih fun as=>K (a :: as)) l
theorem forceL1_eq : ∀ (l : List AV) (K : List AV -> Prop),forceL1 l K = K l
 | [],_=>rfl
 | a :: as,K=>by
  show force1 a (fun a=>forceL1 as fun as=>K (a :: as)) = _
  rw [force1_eq,forceL1_eq as]
def force (v : AV) (K : AV -> Prop) : Prop :=
 match v with
 | .tup cs=>forceL1 cs fun cs=>K (.tup cs)
 | v=>force1 v K
theorem force_eq (v : AV) (K : AV -> Prop) : force v K = K v:=by
 cases v <;> first | rfl | exact forceL1_eq _ _ | exact forceL0_eq _ _
def forceLL (l : List (List AV)) : (List (List AV) -> Prop) -> Prop :=
 List.rec (motive:=fun _=>(List (List AV) -> Prop) -> Prop) (fun K=>K []) (fun r _ ih K=>ih fun rs=>K (r :: rs)) l
theorem forceLL_eq : ∀ (l : List (List AV)) (K : List (List AV) -> Prop),forceLL l K = K l
 | [],_=>rfl
 | a :: as,K=>by
  show forceLL as (fun rs=>K (a :: rs)) = _
  rw [forceLL_eq as]
def forceS (s : St) (K : St -> Prop) : Prop :=
 match s with
 | ⟨e,z,o,n,g⟩=>K ⟨e,z,o,n,g⟩
theorem forceS_eq (s : St) (K : St -> Prop) : forceS s K = K s:=by cases s; rfl
def upd (d : Nat) (v : AV) (e : Nat -> AV) : Nat -> AV:=fun t=>match Nat.beq t d with | true=>v | false=>e t
theorem upd_eq (d : Nat) (v : AV) (e : Nat -> AV) : upd d v e = fun t=>if t = d then v else e t:=by
 funext t
 unfold upd
 cases h : Nat.beq t d with
 | true=>rw [if_pos (Nat.eq_of_beq_eq_true h)]
 | false=>rw [if_neg (Nat.ne_of_beq_eq_false h)]
def putS (s : St) (d : Option Nat) (v : AV) (K : St -> Prop) : Prop :=
 match s with
 | ⟨e,z,o,n,g⟩ =>
  match d with
  | none=>K ⟨e,z,o,n,g⟩
  | some d=>K ⟨upd d v e,z,o,n,g⟩
theorem putS_eq (s : St) (d : Option Nat) (v : AV) (K : St -> Prop) : putS s d v K = K (s.put d v):=by
 cases s
 cases d with
 | none=>rfl
 | some d=>simp only [putS,upd_eq]; rfl
def St.fitsZ (s : St) (d : Option Nat) : Bool :=
 match d with
 | none=>true
 | some d=>Nat.blt d s.sz
theorem fitsZ_eq (s : St) (d : Option Nat) : s.fitsZ d = s.fits d:=by
 cases d with
 | none=>rfl
 | some d =>
  simp only [St.fitsZ,St.fits,Nat.blt]
  cases h : Nat.ble (d + 1) s.sz with
  | true=>have:=nbT h; simp; omega
  | false =>
   have : ¬ (d + 1 <= s.sz):=fun hle=>by rw [Nat.ble_eq_true_of_le hle] at h; cases h
   simp; omega
def St.putK (s : St) (d : Option Nat) (v : AV) (K : St -> Prop) : Prop :=
 match s.fitsZ d with
 | true=>force v fun v=>putS s d v K
 | false=>False
theorem putK_elim {s : St} {d : Option Nat} {v : AV} {K : St -> Prop} (h : s.putK d v K) : s.fits d = true /\ K (s.put d v):=by
 unfold St.putK at h
 split at h
 ·rename_i hf
  rw [force_eq,putS_eq] at h
  exact ⟨by rw [<- fitsZ_eq]; exact hf,h⟩
 ·exact h.elim
def Named (b x : Bool) : Prop:=b = x
@[irreducible] def nameB (b : Bool) (K : Bool -> Prop) : Prop:=∀ x,Named b x -> K x
theorem nameB_intro {b : Bool} {K : Bool -> Prop} (h : ∀ x,Named b x -> K x) : nameB b K:=by unfold nameB; exact h
theorem nameB_true {K : Bool -> Prop} (h : K true) : nameB true K:=nameB_intro fun x hx=>by cases hx; exact h
theorem nameB_false {K : Bool -> Prop} (h : K false) : nameB false K:=nameB_intro fun x hx=>by cases hx; exact h
theorem nameB_elim {b : Bool} {K : Bool -> Prop} (h : nameB b K) : K b:=by unfold nameB at h; exact h b rfl
def nameV (v : AV) (K : AV -> Prop) : Prop :=
 match v with
 | .bool b=>nameB b fun x=>K (.bool x)
 | .tup l =>
  match l with
  | [x,y] =>
   match x with
   | .bool a =>
    match y with
    | .bool b=>nameB a fun a'=>nameB b fun b'=>K (.tup [.bool a',.bool b'])
    | y=>nameB a fun a'=>K (.tup [.bool a',y])
   | x =>
    match y with
    | .bool b=>nameB b fun b'=>K (.tup [x,.bool b'])
    | y=>K (.tup [x,y])
  | l=>K (.tup l)
 | v=>K v
theorem nameV_elim {v : AV} {K : AV -> Prop} (h : nameV v K) : K v:=by
 unfold nameV at h
 split at h
 ·exact nameB_elim h
 ·split at h
  ·split at h
   ·split at h
    ·exact nameB_elim (nameB_elim h)
    ·exact nameB_elim h
   ·split at h
    ·exact nameB_elim h
    ·exact h
  ·exact h
 ·exact h
def St.putN (s : St) (d : Option Nat) (v : AV) (K : St -> Prop) : Prop:=nameV v fun v=>s.putK d v K
theorem putN_elim {s : St} {d : Option Nat} {v : AV} {K : St -> Prop} (h : s.putN d v K) : s.putK d v K:=nameV_elim (K:=fun v=>s.putK d v K) h
def addBox (s : St) (id ty : Nat) (cs : List AV) : St :=
 match s with
 | ⟨e,z,o,n,g⟩=>⟨e,z,fun i=>if i = id then some ⟨.box,ty,cs.length,[cs]⟩ else o i,n,g⟩
def addSlc (s : St) (id ty esz : Nat) (es : List (List AV)) : St :=
 match s with
 | ⟨e,z,o,n,g⟩=>⟨e,z,fun i=>if i = id then some ⟨.slc,ty,esz,es⟩ else o i,n,g⟩
def setObj (s : St) (id : Nat) (ob : AObj) : St :=
 match s with
 | ⟨e,z,o,n,g⟩=>⟨e,z,fun i=>if i = id then some ob else o i,n,g⟩
def storeK (s : St) (id : Nat) (ob : AObj) (idx : Nat) (e' : List AV) (K : St -> Prop) : Prop :=
 match ob with
 | ⟨b,ty,esz,es⟩=>forceL0 e' fun e'=>forceLL (es.set idx e') fun es'=>forceS (setObj s id ⟨b,ty,esz,es'⟩) K
theorem storeK_eq (s : St) (id : Nat) (ob : AObj) (idx : Nat) (e' : List AV) (K : St -> Prop) : storeK s id ob idx e' K = K (setObj s id { ob with elems:=ob.elems.set idx e' }):=by
 cases ob
 simp only [storeK,forceL0_eq,forceLL_eq,forceS_eq]
def boxK (s : St) (nid T : Nat) (cs : List AV) (K : St -> Prop) : Prop:=forceL0 cs fun cs=>forceS (addBox s nid T cs) K
theorem boxK_eq (s : St) (nid T : Nat) (cs : List AV) (K : St -> Prop) : boxK s nid T cs K = K (addBox s nid T cs):=by
 simp only [boxK,forceL0_eq,forceS_eq]
def CallS (P : Program) (f : Nat) (args : List AV) (s : St) (d : Option Nat) (K : St -> Prop) : Prop :=
 ∀ (F : Nat -> Prop) (w0 : Base) (gv : List Value) (a : Act) (w : World) (hdr : Nat -> Hdr),Sim F w0 gv s a w hdr -> ∀ vals : List Value,VL (s.ctx F w hdr) args vals ->
  Ans P f vals.toArray w fun v w'=>∃ s',K s' /\ SimE F w0 gv s' (a.put d v) w'
@[irreducible] def CallA (P : Program) (f : Nat) (args : List AV) (s : St) (nid : Nat) (d : Option Nat) (K : St -> Prop) : Prop :=
 CallS P f args s d K \/ ∃ sh r os,PC P sh f (args.map (rf s)) r os /\ (sh = true -> args.all AV.ro2 = true) /\ (freeFrom nid os s.objs = true /\ os.length <= 16) /\ args.all (known s) = true /\
  St.putN { s with objs:=addObjs nid os s.objs } d (r.shift nid) K
def chunk {α : Type} (size : Nat) : Nat -> List α -> List (List α)
 | 0,_=>[]
 | n + 1,l=>l.take size :: chunk size n (l.drop size)
def elemsOf (s : St) : AV -> Option (List (List AV))
 | .sl xs=>some xs
 | .own id =>
  match s.objs id with
  | some o =>
   match o.kind with
   | .box=>none
   | .slc=>some o.elems
   | .deep _=>none
  | none=>none
 | .nil=>some []
 | _=>none
mutual
def Shp.beq : Shp -> Shp -> Bool
 | .leaf,.leaf=>true
 | .sl t e c,.sl t' e' c'=>Nat.beq t t' && (Nat.beq e e' && beqL c c')
 | .leaf,.sl _ _ _=>false
 | .sl _ _ _,.leaf=>false
def beqL : List Shp -> List Shp -> Bool
 | [],[]=>true
 | a :: as,b :: bs=>Shp.beq a b && beqL as bs
 | [],_ :: _=>false
 | _ :: _,[]=>false
end
def inL (j : Nat) : List Nat -> Bool
 | []=>false
 | i :: l=>match Nat.beq j i with | true=>true | false=>inL j l
def dupL : List Nat -> Bool
 | []=>false
 | i :: l=>inL i l || dupL l
def absA (s : St) : AV -> AV
 | .own id =>
  match s.objs id with
  | some o=>.sl o.elems
  | none=>.any
 | a=>a
def fitA (s : St) (sh : Shp) (a : AV) : Bool :=
 match sh with
 | .leaf =>
  match a with
  | .int _ _=>true
  | .bool _=>true
  | .str _=>true
  | _=>false
 | .sl ty esz cells =>
  match a with
  | .nil=>true
  | .own id =>
   match s.objs id with
   | some o =>
    match o.kind with
    | .deep sh'=>Nat.beq o.ty ty && (Nat.beq o.esz esz && beqL sh' cells)
    | .box=>false
    | .slc=>false
   | none=>false
  | _=>false
def fitL (s : St) : List Shp -> List AV -> Bool
 | [],[]=>true
 | sh :: shs,a :: as=>fitA s sh a && fitL s shs as
 | [],_ :: _=>false
 | _ :: _,[]=>false
def killsO (ids : List Nat) : Nat -> AV:=fun j=>match inL j ids with | true=>.any | false=>.own j
def killsP (ids : List Nat) : Nat -> Nat -> Nat -> AV:=fun j x y=>match inL j ids with | true=>.any | false=>.ptr j x y
def killsC (ids : List Nat) : SC:=fun j x y z=>match inL j ids with | true=>.any | false=>.cel j x y z
def takeIn (s : St) (ids : List Nat) (id : Nat) (o' : AObj) : St :=
 match s with
 | ⟨e,z,o,n,g⟩=>⟨fun t=>(e t).sub (killsO ids) (killsP ids) (killsC (id :: ids)),z,fun i=>if i = id then some o' else match inL i ids with | true=>none | false=>(o i).map (subO (killsO ids) (killsP ids) (killsC (id :: ids))),n,AV.sub.subL (killsO ids) (killsP ids) (killsC (id :: ids)) g⟩
def keepC (k : Option (Nat × AV)) (s : St) : St :=
 match k with
 | none=>s
 | some (t,x) =>
  match s with
  | ⟨e,z,o,n,g⟩=>⟨upd t x e,z,o,n,g⟩
def KeepOk (s : St) (id idx off : Nat) (cs e' : List AV) (k : Option (Nat × AV)) : Prop :=
 ∀ t x,k = some (t,x) -> ∃ j p xs,s.env t = .own j /\ cs[p]? = some (.own j) /\ e'[off + p]? = some (.sl xs) /\ x = .cel id idx (off + p) xs
@[irreducible] def StoreD (s : St) (id idx off : Nat) (ob : AObj) (sh : List Shp) (cs e : List AV) (K : St -> Prop) : Prop :=
 fitL s ((sh.drop off).take cs.length) cs = true /\ (inL id (ownsOf cs) = false /\ dupL (ownsOf cs) = false) /\
  ∃ k s',KeepOk s id idx off cs (splice e off (cs.map (absA s))) k /\ (∀ F w0 gv a w,SimE F w0 gv (keepC k (takeIn s (ownsOf cs) id { ob with elems:=ob.elems.set idx (splice e off (cs.map (absA s))) })) a w -> SimE F w0 gv s' a w) /\ K s'
def isDeep (s : St) (id : Nat) : Bool :=
 match s.objs id with
 | some o =>
  match o.kind with
  | .deep _=>true
  | .box=>false
  | .slc=>false
 | none=>false
def allDeep (s : St) : List Nat -> Bool
 | []=>true
 | i :: l=>match isDeep s i with | true=>allDeep s l | false=>false
def anyDeep (s : St) (ids : List Nat) : Bool :=
 match ids with
 | []=>false
 | i :: l=>allDeep s (i :: l)
def flatA (sh : Shp) (a : AV) : Bool :=
 match sh with
 | .leaf =>
  match a with
  | .int _ _=>true
  | .bool _=>true
  | .str _=>true
  | _=>false
 | .sl _ _ _ =>
  match a with
  | .nil=>true
  | _=>false
def flatFit : List Shp -> List AV -> Bool
 | [],[]=>true
 | sh :: shs,a :: al=>flatA sh a && flatFit shs al
 | [],_ :: _=>false
 | _ :: _,[]=>false
def PromAll (s : St) : List (Nat × List Shp) -> Prop
 | []=>True
 | (id,sh) :: l=>(∃ ty esz es,s.objs id = some ⟨.slc,ty,esz,es⟩ /\ ∀ e ∈ es,flatFit sh e = true) /\ PromAll s l
def promK (l : List (Nat × List Shp)) (i : Nat) (o : AObj) : AObj :=
 match l with
 | []=>o
 | (id,sh) :: l=>match Nat.beq i id with | true=>{ o with kind:=.deep sh } | false=>promK l i o
def promS (s : St) (l : List (Nat × List Shp)) : St :=
 match s with
 | ⟨e,z,o,n,g⟩=>⟨e,z,fun i=>(o i).map (promK l i),n,g⟩
@[irreducible] def BuildD (s : St) (nid ty esz n : Nat) (r : List AV) (d : Option Nat) (K : St -> Prop) : Prop :=
 ∃ l,PromAll s l /\ ∃ sh,n = 1 /\ (fitL (promS s l) sh r = true /\ dupL (ownsOf r) = false /\ inL nid (ownsOf r) = false) /\
  forceS (takeIn (promS s l) (ownsOf r) nid ⟨.deep sh,ty,esz,[r.map (absA (promS s l))]⟩) fun s'=>s'.putK d (.own nid) K
@[irreducible] def AppD (_ : Program) (e : TypeId) (i : TypeInfo) (s : St) (id : Nat) (o : AObj) (sh : List Shp) (y : AV) (d : Option Nat) (K : St -> Prop) : Prop :=
 ∃ j oj,y = .own j /\ s.objs j = some oj /\ (j ≠ id /\ oj.kind = .deep sh /\ oj.esz = i.size /\ o.ty = e /\ o.esz = i.size /\ i.zero.isSome = true /\ (i.zero.map (·.cells.size)) = some i.size) /\
  (o.elems.length + oj.elems.length <= 70368744177664 /\ (o.elems.length + oj.elems.length) * i.bytes <= 140737488355328) /\
  forceS (takeIn s [id,j] id { o with elems:=o.elems ++ oj.elems }) fun s'=>s'.putK d (.own id) K
@[irreducible] def AppN (_ : Program) (e : TypeId) (i : TypeInfo) (s : St) (nid j : Nat) (d : Option Nat) (K : St -> Prop) : Prop :=
 ∃ oj sh,s.objs j = some oj /\ s.objs nid = none /\ (oj.kind = .deep sh /\ oj.esz = i.size /\ i.zero.isSome = true /\ (i.zero.map (·.cells.size)) = some i.size) /\
  (oj.elems.length <= 70368744177664 /\ oj.elems.length * i.bytes <= 140737488355328) /\
  forceS (takeIn s [j] nid ⟨.deep sh,e,i.size,oj.elems⟩) fun s'=>s'.putK d (.own nid) K
def deepId (s : St) (y : AV) : Option Nat :=
 match y with
 | .own j =>
  match isDeep s j with
  | true=>some j
  | false=>none
 | _=>none
def appA (P : Program) (T : TypeId) (x y : AV) (s : St) (nid : Nat) (d : Option Nat) (K : St -> Prop) : Prop :=
 match elemOf? P T with
 | some e =>
  match P.info? e with
  | some i =>
   match x with
   | .own id =>
    match s.objs id with
    | some o =>
     match o.kind with
     | .box=>False
     | .deep sh=>AppD P e i s id o sh y d K
     | .slc =>
     match elemsOf s y with
     | some ys =>
      (o.kind = .slc /\ o.ty = e /\ o.esz = i.size /\ y ≠ .own id /\ i.zero.isSome = true /\ (i.zero.map (·.cells.size)) = some i.size) /\ (∀ z ∈ ys,z.length = i.size) /\ ys.flatten.all AV.one = true /\
      (o.elems.length + ys.length <= 70368744177664 /\ (o.elems.length + ys.length) * i.bytes <= 140737488355328) /\
      forceS (turned s (killO id) (killP id) (killC id) id (some { o with elems:=o.elems ++ ys })) fun s'=>s'.putK d (.own id) K
     | none=>False
    | none=>False
   | .nil =>
    match deepId s y with
    | some j=>AppN P e i s nid j d K
    | none =>
    match elemsOf s y with
    | some ys =>
     match s.objs nid with
     | none =>
      (0 < i.size /\ i.zero.isSome = true /\ (i.zero.map (·.cells.size)) = some i.size) /\ (∀ z ∈ ys,z.length = i.size) /\ ys.flatten.all AV.one = true /\
      (ys.length <= 70368744177664 /\ ys.length * i.bytes <= 140737488355328) /\
      forceS (addSlc s nid e i.size ys) fun s'=>s'.putK d (.own nid) K
     | some _=>False
    | none=>False
   | _=>False
  | none=>False
 | none=>False
def sliceA (P : Program) (T : TypeId) (x : AV) (lo hi : Int) (s : St) (d : Option Nat) (K : St -> Prop) : Prop :=
 match x with
 | .str l =>
  match P.underlying T with
  | some .string=>(0 <= lo /\ lo <= hi /\ hi <= l.length) /\ s.putK d (.str ((l.take hi.toNat).drop lo.toNat)) K
  | _=>False
 | .sl xs =>
  match elemOf? P T with
  | some e =>
   match sizeOf? P e with
   | some esz=>(0 <= lo /\ lo <= hi /\ hi <= xs.length) /\ (∀ z ∈ xs,z.length = esz) /\ s.putK d (.sl ((xs.take hi.toNat).drop lo.toNat)) K
   | none=>False
  | none=>False
 | _=>False
def lenA (s : St) : AV -> Option Nat
 | .str l=>some l.length
 | .sl xs=>some xs.length
 | .nil=>some 0
 | .own id =>
  match s.objs id with
  | some o=>if o.box then none else some o.elems.length
  | none=>none
 | .cel _ _ _ xs=>some xs.length
 | _=>none
def intA : AV -> Option (IntKind × Int)
 | .int k n=>some (k,n)
 | _=>none
def AV.isStr : AV -> Bool
 | .str _=>true
 | _=>false
def lenT (P : Program) (T : TypeId) (x : AV) : Bool :=
 match P.underlying T with
 | some .string=>x.isStr
 | some (.slice _)=>!x.isStr
 | _=>false
@[irreducible] def LoadK (P : Program) (T : TypeId) (cs : List AV) (K : AV -> Prop) : Prop:=∃ v,takeA P T cs = some v /\ cs.all AV.plain = true /\ K v
@[irreducible] def LoadD (P : Program) (T : TypeId) (e : List AV) (id idx off : Nat) (K : AV -> Prop) : Prop :=
 (∃ v,takeA P T ((e.drop off).map hideA) = some v /\ K v) \/ ∃ xs d,e[off]? = some (.sl xs) /\ P.underlying T = some d /\ isAggD d = false /\ (P.info? T).isSome = true /\ K (.cel id idx off xs)
theorem LoadD_of {P : Program} {T : TypeId} {e : List AV} {id idx off : Nat} {K : AV -> Prop} {v : AV} (h : takeA P T ((e.drop off).map hideA) = some v) (hk : K v) : LoadD P T e id idx off K:=by
 unfold LoadD
 exact .inl ⟨v,h,hk⟩
theorem LoadD_cel {P : Program} {T : TypeId} {e : List AV} {id idx off : Nat} {K : AV -> Prop} {xs : List (List AV)} {d : TypeDesc} (h : e[off]? = some (.sl xs)) (h1 : P.underlying T = some d) (h2 : isAggD d = false) (h3 : (P.info? T).isSome = true) (hk : K (.cel id idx off xs)) : LoadD P T e id idx off K:=by
 unfold LoadD
 exact .inr ⟨xs,d,h,h1,h2,h3,hk⟩
def nilC (op : BinOp) (y : Operand) : Bool :=
 match op with
 | .eql =>
  match y with
  | .const v =>
   match v with
   | .slice a n c =>
    match a with
    | none=>n == 0 && c == 0
    | some _=>false
   | _=>false
  | _=>false
 | _=>false
theorem nilC_eq {op : BinOp} {y : Operand} (h : nilC op y = true) : op = .eql /\ y = .const (.slice none 0 0):=by
 unfold nilC at h
 split at h
 ·split at h
  ·split at h
   ·split at h
    ·simp at h
     obtain ⟨rfl,rfl⟩:=h
     exact ⟨rfl,rfl⟩
    ·cases h
   ·cases h
  ·cases h
 ·cases h
@[irreducible] def nilB (n : Nat) (K : Bool -> Prop) : Prop:=∀ b : Bool,(b = true -> n = 0) -> K b
theorem nilB_intro {n : Nat} {K : Bool -> Prop} (h : n = 0 -> K true) (h' : K false) : nilB n K:=by
 unfold nilB
 intro b hb
 cases b with
 | true=>exact h (hb rfl)
 | false=>exact h'
theorem nilB_elim {n : Nat} {K : Bool -> Prop} (h : nilB n K) (b : Bool) (hb : b = true -> n = 0) : K b:=by
 unfold nilB at h
 exact h b hb
def OpOk (P : Program) (o : Oper) (s : St) (K : St -> Prop) : Prop :=
 ∀ F w0 gv a w,SimE F w0 gv s a w -> ∀ (next : Act -> World -> Prop) Q,(∀ s' a' w',K s' -> SimE F w0 gv s' a' w' -> next a' w') -> o.wp P a w next Q
@[irreducible] def HookA (P : Program) (o : Oper) (nid : Nat) (s : St) (K : St -> Prop) : Prop:=nid = nid /\ OpOk P o s K
@[irreducible] def eitherB (A B : Prop) : Prop:=A \/ B
theorem eitherB_l {A B : Prop} (h : A) : eitherB A B:=by unfold eitherB; exact .inl h
theorem eitherB_r {A B : Prop} (h : B) : eitherB A B:=by unfold eitherB; exact .inr h
theorem eitherB_elim {A B : Prop} (h : eitherB A B) : A \/ B:=by unfold eitherB at h; exact h
def opA (P : Program) (o : Oper) (nid : Nat) (s : St) (K : St -> Prop) : Prop :=
 match o.op with
 | .move x=>s.putK o.dst (s.val x) K
 | .assign x=>s.putK o.dst (s.val x) K
 | .pick c a b =>
  match s.val c with
  | .bool t=>splitB t (s.putK o.dst (s.val a) K) (s.putK o.dst (s.val b) K)
  | _=>False
 | .alloc T =>
  match zeroA P T with
  | some cs =>
   match s.objs nid with
   | none=>(0 < cs.length /\ cs.all AV.one = true) /\ boxK s nid T cs fun s'=>s'.putK o.dst (.ptr nid 0 0) K
   | some _=>False
  | none=>False
 | .box T x =>
  match (s.val x).cells? with
  | some cs =>
   match s.objs nid with
   | none=>0 < cs.length /\ boxK s nid T cs fun s'=>s'.putK o.dst (.ptr nid 0 0) K
   | some _=>False
  | none=>False
 | .build T parts =>
  match buildA P T (parts.toList.map fun p=>(p.1,s.val p.2)) with
  | some cs=>s.putK o.dst (.agg cs) K
  | none=>False
 | .load T x =>
  match s.val x with
  | .ptr id idx off =>
   match s.objs id with
   | some ob =>
    match ob.kind with
    | .box =>
     match ob.elems[idx]? with
     | some e =>
      match takeA P T (e.drop off) with
      | some v=>s.putN o.dst v K
      | none=>False
     | none=>False
    | .slc=>∃ e,ob.elems[idx]? = some e /\ LoadK P T (e.drop off) fun v=>s.putN o.dst v K
    | .deep _=>∃ e,ob.elems[idx]? = some e /\ LoadD P T e id idx off fun v=>s.putN o.dst v K
   | none=>False
  | .rp cs =>
   match takeA P T cs with
   | some v=>s.putN o.dst v K
   | none=>False
  | _=>False
 | .fieldAddr T x f =>
  match fieldOff P T f with
  | some (off,_) =>
   match moveP (s.val x) off with
   | some p=>s.putK o.dst p K
   | none=>False
  | none=>False
 | .field T x f =>
  match fieldOff P T f with
  | some (off,t) =>
   match s.val x with
   | .agg cs =>
    match takeA P t (cs.drop off) with
    | some v=>s.putN o.dst v K
    | none=>False
   | _=>False
  | none=>False
 | .indexAddr T x i =>
  match elemOf? P T with
  | some e =>
   match sizeOf? P e with
   | some esz =>
    match intA (s.val i) with
    | some (_,n) =>
     match s.val x with
     | .own id =>
      match s.objs id with
      | some ob =>
       match ob.box with
       | true=>False
       | false=>ob.esz = esz /\ (0 <= n /\ n < ob.elems.length) /\ s.putK o.dst (.ptr id n.toNat 0) K
      | none=>False
     | .sl xs=>0 <= n /\ ∃ y,xs[n.toNat]? = some y /\ y.length = esz /\ s.putK o.dst (.rp y) K
     | .prt _ _ _ _=>HookA P o nid s K
     | _=>False
    | none=>False
   | none=>False
  | none=>False
 | .extract x i =>
  match s.val x with
  | .tup vs =>
   match vs[i]? with
   | some v=>s.putK o.dst v K
   | none=>False
  | _=>False
 | .binOp op T x y _ =>
  match nilC op y with
  | true =>
   match elemOf? P T with
   | some _ =>
    match (s.val x).isStr with
    | true=>False
    | false =>
    match lenA s (s.val x) with
    | some n=>nilB n fun b=>s.putK o.dst (.bool b) K
    | none=>False
   | none=>False
  | false =>
  match binA P op T (s.val x) (s.val y) with
  | some (none,v)=>s.putN o.dst v K
  | some (some c,v)=>c /\ s.putN o.dst v K
  | none=>False
 | .unOp op _ x =>
  match op with
  | .not =>
   match s.val x with
   | .bool b=>s.putN o.dst (.bool (!b)) K
   | _=>False
  | .neg =>
   match s.val x with
   | .int k n=>s.putK o.dst (.int k (k.wrap (0 - n))) K
   | _=>False
  | _=>False
 | .nilCheck x =>
  match s.val x with
  | .ptr id a b=>s.putK o.dst (.ptr id a b) K
  | .rp cs=>s.putK o.dst (.rp cs) K
  | .fn f cs=>s.putK o.dst (.fn f cs) K
  | _=>False
 | .makeFunc fn first captured =>
  match fn with
  | .func f =>
   match first.toList with
   | []=>s.putK o.dst (.fn f (captured.toList.map s.val)) K
   | _=>False
  | _=>False
 | .call c =>
  match c.callee with
  | .value x =>
   match s.val x with
   | .fn f caps=>CallA P f (c.args.toList.map s.val ++ caps) s nid o.dst K
   | _=>False
  | .builtin .len =>
   match c.args.toList with
   | [x] =>
    match c.argTypes.toList with
    | [T] =>
     match lenT P T (s.val x) with
     | true =>
      match lenA s (s.val x) with
      | some n=>s.putK o.dst (.int .i64 (n : Int)) K
      | none=>HookA P o nid s K
     | false=>False
    | _=>False
   | _=>False
  | .builtin .max =>
   match c.args.toList with
   | [x,y] =>
    match s.val x with
    | .int k a =>
     match s.val y with
     | .int _ b=>s.putK o.dst (.int k (if b > a then b else a)) K
     | _=>False
    | _=>False
   | [x,y,z] =>
    match s.val x with
    | .int k a =>
     match s.val y with
     | .int _ b =>
      match s.val z with
      | .int _ c=>s.putK o.dst (.int k (if c > (if b > a then b else a) then c else (if b > a then b else a))) K
      | _=>False
     | _=>False
    | _=>False
   | _=>False
  | .builtin .min =>
   match c.args.toList with
   | [x,y] =>
    match s.val x with
    | .int k a =>
     match s.val y with
     | .int _ b=>s.putK o.dst (.int k (if b < a then b else a)) K
     | _=>False
    | _=>False
   | _=>False
  | .builtin .append =>
   match c.args.toList with
   | [x,y] =>
    match c.argTypes.toList with
    | [T,T'] =>
     match s.val x with
     | .prt _ _ _ _=>HookA P o nid s K
     | .cel _ _ _ _=>HookA P o nid s K
     | x'=>T' = T /\ appA P T x' (s.val y) s nid o.dst K
    | _=>False
   | _=>False
  | .builtin .clear=>HookA P o nid s K
  | .builtin .copy=>HookA P o nid s K
  | .builtin .cap=>HookA P o nid s K
  | _=>False
 | .store T x y =>
  match s.val x with
  | .ptr id idx off =>
   match s.objs id with
   | some ob =>
    match o.dst with
    | none =>
     match (s.val y).cells? with
     | some cs0 =>
      match sizeOf? P T with
      | some n =>
       match ob.kind with
       | .box =>
        match ob.elems[idx]? with
        | some e=>(cs0.length = n /\ off + n <= ob.esz) /\ storeK s id ob idx (splice e off cs0) K
        | none=>False
       | .deep sh=>(cs0.length = n /\ off + n <= ob.esz) /\ ∃ e,ob.elems[idx]? = some e /\ StoreD s id idx off ob sh cs0 e K
       | .slc =>
        match (frzL s cs0).1.objs id with
        | some ob'=>∃ e,ob'.elems[idx]? = some e /\ (ob'.kind = .slc /\ cs0.length = n /\ off + n <= ob'.esz /\ (frzL s cs0).2.all AV.plain = true) /\ forceS (setObj (frzL s cs0).1 id { ob' with elems:=ob'.elems.set idx (splice e off (frzL s cs0).2) }) K
        | none=>False
      | none=>False
     | none=>False
    | some _=>False
   | none=>False
  | _=>False
 | .buildSlice T n parts =>
  match elemOf? P T with
  | some e =>
   match P.info? e with
   | some i =>
    match zeroA P e with
    | some z =>
     match n with
     | 0=>(0 < i.size /\ parts.toList = []) /\ s.putK o.dst .nil K
     | n' + 1 =>
     match fillA (fun j=>some (j * i.size,i.size)) (List.replicate (n' + 1) z).flatten (parts.toList.map fun p=>(p.1,s.val p.2)) with
     | some r =>
      match s.objs nid with
      | none =>
       match anyDeep s (ownsOf r) with
       | true=>(0 < i.size /\ z.length = i.size /\ i.size <= 16777216) /\ BuildD s nid e i.size (n' + 1) r o.dst K
       | false =>
       match ownsOf r with
       | [] =>
       ((0 < i.size /\ z.length = i.size /\ n' + 1 <= 100000 /\ (n' + 1) * i.size <= 16777216 /\ (frzL s r).2.all AV.plain = true /\ (frzL s r).1.objs nid = none) /\
       forceS (addSlc (frzL s r).1 nid e i.size (chunk i.size (n' + 1) (frzL s r).2)) fun s'=>s'.putK o.dst (.own nid) K)
       | _ :: _ =>
        eitherB ((0 < i.size /\ z.length = i.size /\ n' + 1 <= 100000 /\ (n' + 1) * i.size <= 16777216 /\ (frzL s r).2.all AV.plain = true /\ (frzL s r).1.objs nid = none) /\  forceS (addSlc (frzL s r).1 nid e i.size (chunk i.size (n' + 1) (frzL s r).2)) fun s'=>s'.putK o.dst (.own nid) K)
         ((0 < i.size /\ z.length = i.size /\ i.size <= 16777216) /\ BuildD s nid e i.size (n' + 1) r o.dst K)
      | some _=>False
     | none=>False
    | none=>False
   | none=>False
  | none=>False
 | .makeSlice T l c =>
  match elemOf? P T with
  | some e =>
   match P.info? e with
   | some i =>
    match zeroA P e with
    | some z =>
     match intA (s.val l) with
     | some (_,n) =>
      match intA (s.val c) with
      | some (_,m) =>
       match s.objs nid with
       | none =>
        (0 < i.size /\ z.length = i.size /\ z.all AV.plain = true) /\ (0 <= n /\ m = n /\ n <= 70368744177664 /\ (i.bytes : Int) * n <= 281474976710656) /\
        forceS (addSlc s nid e i.size (List.replicate n.toNat z)) fun s'=>s'.putK o.dst (.own nid) K
       | some _=>False
      | none=>False
     | none=>False
    | none=>False
   | none=>False
  | none=>False
 | .slice T x lo hi mx =>
  match s.val x with
  | .prt _ _ _ _=>HookA P o nid s K
  | .own _=>HookA P o nid s K
  | x' =>
  match mx with
  | none =>
   match lo with
   | none =>
    match hi with
    | none=>False
    | some h =>
     match intA (s.val h) with
     | some (_,n)=>sliceA P T x' 0 n s o.dst K
     | none=>False
   | some l =>
    match intA (s.val l) with
    | some (_,m) =>
     match hi with
     | none =>
      match lenA s x' with
      | some n=>sliceA P T x' m n s o.dst K
      | none=>False
     | some h =>
      match intA (s.val h) with
      | some (_,n)=>sliceA P T x' m n s o.dst K
      | none=>False
    | none=>False
  | some m3 =>
   match lo with
   | some l =>
    match hi with
    | some h =>
     match intA (s.val l) with
     | some (_,l0) =>
      match intA (s.val h) with
      | some (_,h0) =>
       match intA (s.val m3) with
       | some (_,m0) =>
        match elemOf? P T with
        | some e =>
         match sizeOf? P e with
         | some _ =>
          match lenA s x' with
          | some _=>(l0 = 0 /\ h0 = 0 /\ m0 = 0 /\ x'.isStr = false) /\ s.putK o.dst .nil K
          | none=>False
         | none=>False
        | none=>False
       | none=>False
      | none=>False
     | none=>False
    | none=>False
   | none=>False
 | .index T x i =>
  match P.underlying T with
  | some .string =>
   match s.val x with
   | .str l =>
    match intA (s.val i) with
    | some (_,n)=>(0 <= n /\ n < l.length) /\ s.putK o.dst (.int .u8 ((l.getD n.toNat 0).toNat : Int)) K
    | none=>False
   | _=>False
  | _=>False
 | .convert S T x =>
  match P.underlying S with
  | some dS =>
   match P.underlying T with
   | some (.int k) =>
    match s.val x with
    | .int _ n=>s.putK o.dst (.int k (k.wrap n)) K
    | _=>False
   | some .string =>
    match s.val x with
    | .str l=>s.putK o.dst (.str l) K
    | y =>
     match dS with
     | .slice e =>
      match P.underlying e with
      | some (.int .u8) =>
       match elemsOf s y with
       | some xs=>∃ l : List UInt8,xs = l.map (fun b=>[.int .u8 (b.toNat : Int)]) /\ s.putK o.dst (.str l) K
       | none=>False
      | _=>False
     | _=>False
   | _=>False
  | none=>False
 | _=>False
end Go.Ab
namespace Go.Ab
open Go.RowKit
theorem ok_value {P : Program} {o : Oper} {s s1 : St} {av : AV} {K : St -> Prop} (hk : s1.putK o.dst av K)
  (h : ∀ F w0 gv a w hdr,Sim F w0 gv s a w hdr -> ∃ v w' hdr',(execOp a.eval o).run P w = .ok (.value v) w' /\ Sim F w0 gv s1 a w' hdr' /\ VR (s1.ctx F w' hdr') av v) : OpOk P o s K:=by
 intro F w0 gv a w ⟨hdr,hs⟩ next Q hn
 obtain ⟨v,w',hdr',h1,h2,h3⟩:=h F w0 gv a w hdr hs
 obtain ⟨k1,k2⟩:=putK_elim hk
 unfold Oper.wp
 rw [h1]
 exact hn _ _ _ k2 ⟨hdr',h2.put k1 h3⟩
theorem ok_skip {P : Program} {o : Oper} {s s1 : St} {K : St -> Prop} (hd : o.dst = none) (hk : K s1)
  (h : ∀ F w0 gv a w hdr,Sim F w0 gv s a w hdr -> ∃ w' hdr',(execOp a.eval o).run P w = .ok .skip w' /\ Sim F w0 gv s1 a w' hdr') : OpOk P o s K:=by
 intro F w0 gv a w ⟨hdr,hs⟩ next Q hn
 obtain ⟨w',hdr',h1,h2⟩:=h F w0 gv a w hdr hs
 unfold Oper.wp
 rw [h1]
 have : a.put o.dst undef = a:=by rw [hd]; rfl
 show next (a.put o.dst undef) w'
 rw [this]
 exact hn _ _ _ hk ⟨hdr',h2⟩
section
variable {P : Program} {s : St} {K : St -> Prop} {dst : Option Tmp} {type : TypeId} {pos : String} {after : Array Edge} {guard : Option (Nat × Bool)}
theorem ok_pure {op : Op} {av : AV} (hk : s.putK dst av K)
  (h : ∀ F w0 gv a w hdr,Sim F w0 gv s a w hdr -> ∃ v,(execOp a.eval ⟨dst,op,type,pos,after,guard⟩).run P w = .ok (.value v) w /\ VR (s.ctx F w hdr) av v) : OpOk P ⟨dst,op,type,pos,after,guard⟩ s K :=
 ok_value (s1:=s) hk fun F w0 gv a w hdr hs=>by
  obtain ⟨v,h1,h2⟩:=h F w0 gv a w hdr hs
  exact ⟨v,w,hdr,h1,hs,h2⟩
theorem ok_move {x : Operand} (h : s.putK dst (s.val x) K) : OpOk P ⟨dst,.move x,type,pos,after,guard⟩ s K :=
 ok_pure h fun F w0 gv a w hdr hs=>⟨a.eval x,by simp [execOp],hs.val x⟩
theorem ok_assign {x : Operand} (h : s.putK dst (s.val x) K) : OpOk P ⟨dst,.assign x,type,pos,after,guard⟩ s K :=
 ok_pure h fun F w0 gv a w hdr hs=>⟨a.eval x,by simp [execOp],hs.val x⟩
theorem ok_pick {c x y : Operand} {t : Bool} (hc : s.val c = .bool t) (h : splitB t (s.putK dst (s.val x) K) (s.putK dst (s.val y) K)) : OpOk P ⟨dst,.pick c x y,type,pos,after,guard⟩ s K:=by
 have h:=splitB_elim h
 have hv : ∀ F w0 gv a w hdr,Sim F w0 gv s a w hdr -> a.eval c = .bool t:=fun F w0 gv a w hdr hs=>by
  have:=hs.val c
  rw [hc] at this
  unfold VR at this
  exact this
 cases t with
 | true=>exact ok_pure (h.1 rfl) fun F w0 gv a w hdr hs=>⟨a.eval x,by simp [execOp,hv F w0 gv a w hdr hs,asBool],hs.val x⟩
 | false=>exact ok_pure (h.2 rfl) fun F w0 gv a w hdr hs=>⟨a.eval y,by simp [execOp,hv F w0 gv a w hdr hs,asBool],hs.val y⟩
theorem ok_load {T : TypeId} {x : Operand} {cs : List AV} {v : AV} (hc : s.cellsAt (s.val x) = some cs) (ht : takeA P T cs = some v) (h : s.putK dst v K) : OpOk P ⟨dst,.load T x,type,pos,after,guard⟩ s K :=
 ok_pure h fun F w0 gv a w hdr hs=>by
  obtain ⟨u,h1,h2⟩:=hs.load (hs.val x) hc ht
  exact ⟨u,by simp [execOp,h1],h2⟩
theorem ok_fieldAddr {T : TypeId} {x : Operand} {f off : Nat} {t : TypeId} {p : AV} (hf : fieldOff P T f = some (off,t)) (hm : moveP (s.val x) off = some p) (h : s.putK dst p K) : OpOk P ⟨dst,.fieldAddr T x f,type,pos,after,guard⟩ s K :=
 ok_pure h fun F w0 gv a w hdr hs=>by
  obtain ⟨b,o,h1,h2⟩:=moveP_ok (hs.val x) hm
  exact ⟨_,by simp [execOp,h1,run_fieldAt hf],h2⟩
theorem run_part {c : Ctx} {P : Program} {t : TypeId} {cs : List AV} {vs : Array Value} {off : Nat} {v : AV} (hL : VL c cs vs.toList) (ht : takeA P t (cs.drop off) = some v) (w : World) : ∃ u,(part t vs off).run P w = .ok u w /\ VR c v u:=by
 have hd:=hL.drop off
 unfold takeA at ht
 cases hi : P.info? t with
 | none=>simp [hi] at ht
 | some i =>
  cases hu : P.underlying t with
  | none=>simp [hi,hu] at ht
  | some d =>
   simp only [hi,hu] at ht
   by_cases hg : isAggD d = true
   ·simp only [hg,if_true] at ht
    split at ht
    ·simp only [Option.some.injEq] at ht
     subst ht
     refine ⟨.agg (vs.extract off (off + i.size)),?_,?_⟩
     ·simp [part,run_isAgg hu,hg,sizeOf,typeInfo,hi]
     ·unfold VR
      refine ⟨_,rfl,?_⟩
      have:=hd.take i.size
      have e : (vs.extract off (off + i.size)).toList = (vs.toList.drop off).take i.size:=by
       simp [List.extract_eq_take_drop]
      rw [e]
      exact this
    ·cases ht
   ·simp only [hg] at ht
    have hg' : isAggD d = false:=by simpa using hg
    have ht' : (cs.drop off)[0]? = some v:=by
     cases hcd : cs.drop off with
     | nil=>rw [hcd] at ht; simp at ht
     | cons a as=>rw [hcd] at ht; simpa using ht
    obtain ⟨u,h1,h2⟩:=hd.get 0 v ht'
    refine ⟨u,?_,h2⟩
    have h1' : vs[off]? = some u:=by
     rw [List.getElem?_drop] at h1
     simpa using h1
    simp [part,run_isAgg hu,hg',h1']
theorem ok_field {T : TypeId} {x : Operand} {f off : Nat} {t : TypeId} {cs : List AV} {v : AV} (hf : fieldOff P T f = some (off,t)) (hx : s.val x = .agg cs) (ht : takeA P t (cs.drop off) = some v) (h : s.putK dst v K) : OpOk P ⟨dst,.field T x f,type,pos,after,guard⟩ s K :=
 ok_pure h fun F w0 gv a w hdr hs=>by
  have hv:=hs.val x
  rw [hx] at hv
  unfold VR at hv
  obtain ⟨vs,e1,e2⟩:=hv
  obtain ⟨u,h1,h2⟩:=run_part (P:=P) e2 ht w
  refine ⟨u,?_,h2⟩
  unfold fieldOff at hf
  split at hf
  ·rename_i fs hu
   split at hf
   ·rename_i fd hfd
    split at hf
    ·split at hf
     ·cases hf
     ·cases hf
      simp [execOp,e1,Instr.field,run_underlying hu,hfd,asAgg,h1]
    ·cases hf
   ·cases hf
  ·cases hf
theorem intA_ok {c : Ctx} {x : AV} {v : Value} {k : IntKind} {n : Int} (h : VR c x v) (hx : intA x = some (k,n)) : v = .int k n:=by
 cases x <;> simp [intA] at hx
 obtain ⟨rfl,rfl⟩:=hx
 unfold VR at h
 exact h
theorem ok_indexAddr {T e : TypeId} {x i : Operand} {esz len : Nat} {k : IntKind} {n : Int} {p : AV} (he : elemOf? P T = some e) (hs0 : sizeOf? P e = some esz) (hi : intA (s.val i) = some (k,n))
  (hp : indexP s (s.val x) n esz = some (len,p)) (hb : 0 <= n /\ n < len) (hx : ∀ xs y,s.val x = .sl xs -> xs[n.toNat]? = some y -> y.length = esz) (h : s.putK dst p K) : OpOk P ⟨dst,.indexAddr T x i,type,pos,after,guard⟩ s K :=
 ok_pure h fun F w0 gv a w hdr hs=>by
  obtain ⟨u,h1,h2⟩:=hs.indexAt he hs0 (hs.val x) (k:=k) hp hb.1 hb.2 hx
  exact ⟨u,by simp [execOp,intA_ok (hs.val i) hi,h1],h2⟩
theorem ok_extract {x : Operand} {i : Nat} {vs : List AV} {v : AV} (hx : s.val x = .tup vs) (hi : vs[i]? = some v) (h : s.putK dst v K) : OpOk P ⟨dst,.extract x i,type,pos,after,guard⟩ s K :=
 ok_pure h fun F w0 gv a w hdr hs=>by
  have h1:=hs.val x
  rw [hx] at h1
  unfold VR at h1
  obtain ⟨us,e1,e2⟩:=h1
  obtain ⟨u,e3,e4⟩:=e2.get i v hi
  have e5 : us[i]? = some u:=by simpa using e3
  exact ⟨u,by simp [execOp,e1,Instr.extract,e5],e4⟩
theorem run_part1 {c : Ctx} {t : TypeId} {d : TypeDesc} {off : Nat} {xs : List AV} {us : Array Value} {x : AV} (hd : P.underlying t = some d) (hg : isAggD d = false) (hv : VL c xs us.toList) (hx : xs[off]? = some x) (w : World) :
  ∃ u,(part t us off).run P w = .ok u w /\ VR c x u:=by
 obtain ⟨u,h1,h2⟩:=hv.get off x hx
 have h3 : us[off]? = some u:=by simpa using h1
 exact ⟨u,by simp [part,run_isAgg hd,hg,h3],h2⟩
theorem leafB_ok {c : Ctx} {t : TypeId} {off : Nat} {xs ys : List AV} {us vs : Array Value} {x y : AV} {b : Bool} (h : leafB P t x y = some b) (hu : VL c xs us.toList) (hv : VL c ys vs.toList) (hx : xs[off]? = some x) (hy : ys[off]? = some y) (d : Nat) (w : World) (K : Bool -> Sem Bool) :
  (do let a <- part t us off
      let b <- part t vs off
      let r <- Op.equalIn (d + 1) t a b
      K r).run P w = (K b).run P w:=by
 cases x <;> simp only [leafB] at h <;> try (cases h; done)
 all_goals
  cases y <;> simp only at h <;> try (cases h; done)
  split at h
  ·rename_i hd
   (try split at h) <;> cases h
   (try (rename_i hk; subst hk))
   obtain ⟨u,h1,h2⟩:=run_part1 hd rfl hu hx w
   obtain ⟨v,h3,h4⟩:=run_part1 hd rfl hv hy w
   unfold VR at h2 h4
   subst h2
   subst h4
   simp only [Sem.run_bind,h1,h3,Result.andThen_ok]
   first
   | rw [run_equalIn_int w d t _ _ _ _ hd]; rfl
   | rw [run_equalIn_bool' w d t _ _ hd]; rfl
   | (rw [run_equalIn_string w d t _ _ hd]; simp [ByteArray.toList_eq])
  ·cases h
theorem eqF_ok {c : Ctx} {xs ys : List AV} {us vs : Array Value} (hu : VL c xs us.toList) (hv : VL c ys vs.toList) (d : Nat) (w : World) : ∀ (fs : List Field) (b : Bool), fs.all (fun f => f.name != "_") = true -> eqF P xs ys fs = some b -> (Op.eqFields (d + 1) us vs fs).run P w = .ok b w
 | [],b,_,h=>by
  simp only [eqF] at h
  cases h
  simp [Op.eqFields]
 | f :: fs,b,hn,h=>by
  simp only [List.all_cons,baT,bne_iff_ne,ne_eq] at hn
  have ih:=eqF_ok hu hv d w fs
  simp only [eqF] at h
  split at h
  ·rename_i x hx
   split at h
   ·rename_i y hy
    split at h
    ·rename_i b1 hb
     rw [Op.eqFields,if_pos hn.1,leafB_ok hb hu hv hx hy]
     split at h
     ·cases h
      cases b <;> simp [Op.eqFields]
     ·split at h
      ·rename_i r hr
       cases h
       cases b1
       ·simp
       ·simp [ih r hn.2 hr]
      ·cases h
    ·cases h
   ·cases h
  ·cases h
theorem binA_ok {op : BinOp} {T : TypeId} {x y : AV} {c : Option Prop} {v : AV} (h : binA P op T x y = some (c,v)) (hc0 : ∀ p,c = some p -> p) {cx : Ctx} {u u' : Value} (h1 : VR cx x u) (h2 : VR cx y u') (w : World) (X Y : Operand) :
  ∃ r,(do eqGuard op T X Y u u'; binOp op T u u').run P w = .ok r w /\ VR cx v r:=by
 cases x <;> simp only [binA] at h <;> try (cases h; done)
 case int k a =>
  cases y <;> simp only at h <;> try (cases h; done)
  case int k' b =>
   unfold VR at h1 h2
   subst h1
   subst h2
   cases op
   case shl =>
    simp only at h
    cases h
    have hc:=hc0 _ rfl
    refine ⟨.int k (k.wrap (a * 2 ^ min b.toNat k.bits)),?_,by unfold VR; rfl⟩
    simp [eqGuard,binOp,Op.shift,show ¬ b < 0 by omega]
   case shr =>
    simp only at h
    cases h
    have hc:=hc0 _ rfl
    refine ⟨.int k (a.fdiv (2 ^ min b.toNat k.bits)),?_,by unfold VR; rfl⟩
    simp [eqGuard,binOp,Op.shift,show ¬ b < 0 by omega]
   all_goals
    simp only at h
    split at h
    ·rename_i hk
     subst hk
     simp only [intBin] at h
     cases h
     try
      refine ⟨_,?_,by unfold VR; rfl⟩
      first
       | (simp [eqGuard,binOp,Op.intArith,Op.intDiv,Op.intBits,Op.intCmp]; done)
       | (simp [eqGuard,binOp,Op.intDiv,hc0 _ rfl]; done)
    ·cases h
 case str l =>
  cases y <;> simp only at h <;> try (cases h; done)
  case str l' =>
   unfold VR at h1 h2
   subst h1
   subst h2
   cases op <;> simp only [strBin] at h <;> cases h
   case add =>
    have hc:=hc0 _ rfl
    refine ⟨.string ⟨(l ++ l').toArray⟩,?_,by unfold VR; rfl⟩
    have hr:=run_string_add_sum (P:=P) (w:=w) ⟨l.toArray⟩ ⟨l'.toArray⟩ (by simp [ByteArray.size]; omega)
    have he : (⟨l.toArray⟩ : ByteArray) ++ ⟨l'.toArray⟩ = ⟨(l ++ l').toArray⟩:=by
     apply ByteArray.ext
     simp
    rw [he] at hr
    simp [eqGuard,binOp,hr]
   all_goals
    refine ⟨_,?_,by unfold VR; rfl⟩
    simp [eqGuard,binOp,Op.stringOp]
 case bool b =>
  cases y <;> simp only at h <;> try (cases h; done)
  case bool b' =>
   unfold VR at h1 h2
   subst h1
   subst h2
   split at h
   ·rename_i hb
    have hu : P.underlying T = some .bool:=by
     unfold isBoolT at hb
     split at hb
     ·assumption
     ·cases hb
    cases op <;> simp only at h <;> cases h
    ·exact ⟨.bool (b == b'),by simp [eqGuard,binOp,run_equal_bool w T b b' hu],by unfold VR; rfl⟩
    ·exact ⟨.bool (!(b == b')),by simp [eqGuard,binOp,run_equal_bool w T b b' hu],by unfold VR; rfl⟩
   ·cases h
 case agg xs =>
  cases y <;> simp only at h <;> try (cases h; done)
  case agg ys =>
   unfold VR at h1 h2
   obtain ⟨us,rfl,h1⟩:=h1
   obtain ⟨vs,rfl,h2⟩:=h2
   split at h
   ·rename_i fs hT
    split at h
    ·rename_i b hb
     have hok : structOk P T = true -> (binOp .eql T (.agg us) (.agg vs)).run P w = .ok (.bool b) w /\ (binOp .neq T (.agg us) (.agg vs)).run P w = .ok (.bool (!b)) w /\ ∀ op X Y,(eqGuard op T X Y (.agg us) (.agg vs)).run P w = .ok () w:=by
      intro ho
      simp only [structOk,hT,baT,Bool.not_eq_true'] at ho
      have hf : P.fieldsOf T = fs:=by simp [Program.fieldsOf,hT]
      have hr:=run_equalIn_agg (P:=P) w 9999 T us vs (by rw [hf]; exact hT) ho.2.1
      rw [hf,eqF_ok h1 h2 9998 w fs.toList b ho.1 hb] at hr
      refine ⟨?_,?_,fun op X Y=>run_eqGuard_agg w op T X Y us vs ho.2.2⟩
      ·rw [run_eql_struct,hr]; rfl
      ·rw [run_neq_struct,hr]; rfl
     cases op <;> simp only at h <;> try (cases h; done)
     ·cases h
      obtain ⟨k1,k2,k3⟩:=hok (hc0 _ rfl)
      exact ⟨.bool b,by rw [Sem.run_bind,k3]; exact k1,by unfold VR; rfl⟩
     ·cases h
      obtain ⟨k1,k2,k3⟩:=hok (hc0 _ rfl)
      exact ⟨.bool (!b),by rw [Sem.run_bind,k3]; exact k2,by unfold VR; rfl⟩
    ·cases h
   ·cases h
theorem ok_binOp {op : BinOp} {T t : TypeId} {x y : Operand} {c : Option Prop} {v : AV} (hb : binA P op T (s.val x) (s.val y) = some (c,v)) (hc : ∀ p,c = some p -> p) (h : s.putK dst v K) : OpOk P ⟨dst,.binOp op T x y t,type,pos,after,guard⟩ s K :=
 ok_pure h fun F w0 gv a w hdr hs=>by
  obtain ⟨r,h1,h2⟩:=binA_ok hb hc (hs.val x) (hs.val y) w x y
  exact ⟨r,by simp only [execOp,Sem.run_bind] at h1 ⊢; rw [h1]; rfl,h2⟩
theorem ok_not {T : TypeId} {x : Operand} {b : Bool} (hx : s.val x = .bool b) (h : s.putK dst (.bool (!b)) K) : OpOk P ⟨dst,.unOp .not T x,type,pos,after,guard⟩ s K :=
 ok_pure h fun F w0 gv a w hdr hs=>by
  have h1:=hs.val x
  rw [hx] at h1
  unfold VR at h1
  exact ⟨.bool (!b),by simp [execOp,h1,Op.unary],by unfold VR; rfl⟩
theorem ok_neg {T : TypeId} {x : Operand} {k : IntKind} {n : Int} (hx : s.val x = .int k n) (h : s.putK dst (.int k (k.wrap (0 - n))) K) : OpOk P ⟨dst,.unOp .neg T x,type,pos,after,guard⟩ s K :=
 ok_pure h fun F w0 gv a w hdr hs=>by
  have h1:=hs.val x
  rw [hx] at h1
  unfold VR at h1
  exact ⟨_,by simp [execOp,h1,Op.unary,Op.intArith]; rfl,by unfold VR; simp⟩
theorem ok_nilCheck {x : Operand} {p : AV} (hx : s.val x = p) (hp : (∃ a b c,p = .ptr a b c) \/ (∃ cs,p = .rp cs) \/ ∃ f cs,p = .fn f cs) (h : s.putK dst p K) : OpOk P ⟨dst,.nilCheck x,type,pos,after,guard⟩ s K :=
 ok_pure h fun F w0 gv a w hdr hs=>by
  have h1:=hs.val x
  rw [hx] at h1
  refine ⟨a.eval x,?_,h1⟩
  rcases hp with ⟨i,b,c,rfl⟩ | ⟨cs,rfl⟩ | ⟨f,cs,rfl⟩
  ·unfold VR at h1
   obtain ⟨_,_,_,_,e⟩:=h1
   simp [execOp,e]
  ·unfold VR RR at h1
   obtain ⟨_,_,e,_⟩:=h1
   simp [execOp,e]
  ·unfold VR at h1
   obtain ⟨_,e,_⟩:=h1
   simp [execOp,e]
theorem vals_ok {F : Nat -> Prop} {w0 : Base} {gv : List Value} {a : Act} {w : World} {hdr : Nat -> Hdr} (hs : Sim F w0 gv s a w hdr) : ∀ l : List Operand,VL (s.ctx F w hdr) (l.map s.val) (l.map a.eval)
 | []=>VL.nil
 | x :: l=>VL.cons (hs.val x) (vals_ok hs l)
theorem ok_makeFunc {f : FuncId} {first captured : Array Operand} (hf : first.toList = []) (h : s.putK dst (.fn f (captured.toList.map s.val)) K) : OpOk P ⟨dst,.makeFunc (.func f) first captured,type,pos,after,guard⟩ s K :=
 ok_pure h fun F w0 gv a w hdr hs=>by
  have hf' : first = #[]:=by simpa using hf
  subst hf'
  refine ⟨_,by simp [execOp,Instr.makeFunc]; rfl,?_⟩
  unfold VR
  exact ⟨_,rfl,by simpa using vals_ok hs captured.toList⟩
theorem ok_build {T : TypeId} {parts : Array (Nat × Operand)} {cs : List AV} (hb : buildA P T (parts.toList.map fun p=>(p.1,s.val p.2)) = some cs) (h : s.putK dst (.agg cs) K) : OpOk P ⟨dst,.build T parts,type,pos,after,guard⟩ s K :=
 ok_pure h fun F w0 gv a w hdr hs=>by
  obtain ⟨r,h1,h2⟩:=buildA_ok (c:=s.ctx F w hdr) (hs.hdrOne) (parts':=parts.toList.map fun p=>(p.1,a.eval p.2)) (by simp) (fun j p q hp hq=>by
   simp only [List.getElem?_map,Option.map_eq_some_iff] at hp hq
   obtain ⟨x,e1,rfl⟩:=hp
   obtain ⟨y,e2,rfl⟩:=hq
   rw [e1] at e2
   cases e2
   exact ⟨rfl,hs.val x.2⟩) hb
  have hr:=run_build (P:=P) w T (parts.map fun (i,x)=>(i,a.eval x)) r (by simpa using h1)
  exact ⟨.agg r,by simp [execOp,hr],by unfold VR; exact ⟨r,rfl,h2⟩⟩
theorem Sim.laid {F : Nat -> Prop} {w0 : Base} {gv : List Value} {a : Act} {w : World} {hdr : Nat -> Hdr} (hs : Sim F w0 gv s a w hdr) {id : Nat} (hid : s.objs id = none) {o : AObj} {w' : World} {v : Hdr}
  (hb : Below w.heap.size w w') (ho : ObjR (fun b=>w.heap.size <= b) ⟨w',roOf F w' (fun i=>if i = id then v else hdr i) (fun i=>if i = id then some o else s.objs i),fun i=>if i = id then v else hdr i,fun i=>if i = id then some o else s.objs i⟩ o v) :
  Sim F w0 gv { s with objs:=fun i=>if i = id then some o else s.objs i } a w' (fun i=>if i = id then v else hdr i):=by
 refine hs.grow hb ?_ ?_ ?_
 ·intro i oi hi
  have : i ≠ id:=fun e=>by rw [e,hid] at hi; cases hi
  exact ⟨by simp [this,hi],by simp [this]⟩
 ·intro i oi hi hn
  by_cases hx : i = id
  ·subst hx
   simp at hi
   subst hi
   simpa using ho
  ·simp [hx,hn] at hi
 ·intro i j oi oj b hi hj ni nj _ _
  have e1 : i = id:=by
   by_cases hx : i = id
   ·exact hx
   ·simp [hx,ni] at hi
  have e2 : j = id:=by
   by_cases hx : j = id
   ·exact hx
   ·simp [hx,nj] at hj
  rw [e1,e2]
theorem Below.alloc' (w : World) (o : Obj) : Below w.heap.size w (w.alloc o):=(Below.refl _ _).alloc (Nat.le_refl _) o
theorem Sim.newBlock {F : Nat -> Prop} {w0 : Base} {gv : List Value} {a : Act} {w : World} {hdr : Nat -> Hdr} (hs : Sim F w0 gv s a w hdr) {id : Nat} (hid : s.objs id = none) {k : BK} {ty esz : Nat} {es : List (List AV)} {vs : List Value}
  (hpos : 0 < esz) (hlens : ∀ e ∈ es,e.length = esz) (hv : VL (s.ctx F w hdr) es.flatten vs) (h1 : ∀ u ∈ vs,u.oneCell' = true) (hp : k = .box \/ k = .slc /\ es.flatten.all AV.plain = true) (hmax : es.length <= maxLen) :
  Sim F w0 gv { s with objs:=fun i=>if i = id then some ⟨k,ty,esz,es⟩ else s.objs i } a (w.alloc (.cells vs.toArray ty)) (fun i=>if i = id then ⟨.slice (some ⟨w.heap.size,0,none⟩) es.length es.length,[]⟩ else hdr i):=by
 have hne : ∀ i oi,s.objs i = some oi -> i ≠ id:=fun i oi hi e=>by rw [e,hid] at hi; cases hi
 have hro : ∀ b,roOf F w hdr s.objs b -> roOf F (w.alloc (.cells vs.toArray ty)) (fun i=>if i = id then (⟨.slice (some ⟨w.heap.size,0,none⟩) es.length es.length,[]⟩ : Hdr) else hdr i) (fun i=>if i = id then some ⟨k,ty,esz,es⟩ else s.objs i) b:=by
  intro b ⟨f1,f2,f3⟩
  refine ⟨f1,by simp; omega,fun i oi hi e=>?_⟩
  by_cases hx : i = id
  ·simp only [hx,if_true] at e
   rcases e with e | e
   ·simp only [Hdr.blk,Value.blk] at e
    split at e
    ·cases e
    ·cases e; omega
   ·cases e
  ·simp only [hx,if_false] at hi e
   exact f3 i oi hi e
 have hcell : ∀ k j,roOf F w hdr s.objs k -> (w.alloc (.cells vs.toArray ty)).cell? ⟨k,j,none⟩ = w.cell? ⟨k,j,none⟩:=fun k j hk=>(Below.alloc' w _).cell (p:=⟨k,j,none⟩) hk.2.1
 have hlen : vs.length = es.length * esz:=by rw [<- hv.length,flatten_length esz es hlens]
 have hO : ∀ i oi,s.objs i = some oi -> ∃ o',(fun i=>if i = id then some (⟨k,ty,esz,es⟩ : AObj) else s.objs i) i = some o' /\ o'.esz = oi.esz /\ ((fun i=>if i = id then (⟨.slice (some ⟨w.heap.size,0,none⟩) es.length es.length,[]⟩ : Hdr) else hdr i) i).v = (hdr i).v :=
  fun i oi hi=>⟨oi,by simp [hne i oi hi]; exact hi,rfl,by simp [hne i oi hi]⟩
 refine hs.laid hid (Below.alloc' w _) ⟨hpos,hlens,nd_nil,vs,?_,h1,?_⟩
 ·exact OwnR.of_row (World.ownsRow_lit w vs.toArray es.length (Nat.le_refl _) hmax (by simpa using hlen)) (fun b hb=>hb) |> fun h=>by simpa using h
 ·rcases hp with hk | ⟨hk,hp⟩
  ·refine CellsR_box hk ?_
   refine VL.mono (c:=s.ctx F w hdr) (c':=⟨w.alloc (.cells vs.toArray ty),roOf F (w.alloc (.cells vs.toArray ty)) (fun i=>if i = id then (⟨.slice (some ⟨w.heap.size,0,none⟩) es.length es.length,[]⟩ : Hdr) else hdr i) (fun i=>if i = id then some (⟨k,ty,esz,es⟩ : AObj) else s.objs i),(fun i=>if i = id then (⟨.slice (some ⟨w.heap.size,0,none⟩) es.length es.length,[]⟩ : Hdr) else hdr i),(fun i=>if i = id then some (⟨k,ty,esz,es⟩ : AObj) else s.objs i)⟩) ?_ ?_ (prt_keep (c:=s.ctx F w hdr) (c':=⟨w.alloc (.cells vs.toArray ty),roOf F (w.alloc (.cells vs.toArray ty)) (fun i=>if i = id then (⟨.slice (some ⟨w.heap.size,0,none⟩) es.length es.length,[]⟩ : Hdr) else hdr i) (fun i=>if i = id then some (⟨k,ty,esz,es⟩ : AObj) else s.objs i),(fun i=>if i = id then (⟨.slice (some ⟨w.heap.size,0,none⟩) es.length es.length,[]⟩ : Hdr) else hdr i),(fun i=>if i = id then some (⟨k,ty,esz,es⟩ : AObj) else s.objs i)⟩) fun i oi hi=>⟨oi,(if_neg (hne i oi hi)).trans hi,rfl,by show (ite (i = id) _ _ : Hdr).v = _; rw [if_neg (hne i oi hi)]; rfl,rfl⟩) hO _ _ hv
   ·exact fun x v=>RR.mono hcell hro x v
   ·refine cel_keep (c:=s.ctx F w hdr) (c':=⟨w.alloc (.cells vs.toArray ty),roOf F (w.alloc (.cells vs.toArray ty)) (fun i=>if i = id then (⟨.slice (some ⟨w.heap.size,0,none⟩) es.length es.length,[]⟩ : Hdr) else hdr i) (fun i=>if i = id then some (⟨k,ty,esz,es⟩ : AObj) else s.objs i),(fun i=>if i = id then (⟨.slice (some ⟨w.heap.size,0,none⟩) es.length es.length,[]⟩ : Hdr) else hdr i),(fun i=>if i = id then some (⟨k,ty,esz,es⟩ : AObj) else s.objs i)⟩) hO ?_ ?_
    ·intro i o o' sh q1 q2 _
     have q2' : (fun i=>if i = id then some (⟨k,ty,esz,es⟩ : AObj) else s.objs i) i = some o':=q2
     simp only [hne i o q1,if_false] at q2'
     replace q1 : s.objs i = some o:=q1
     rw [q1] at q2'
     cases q2'; rfl
    ·intro i o b j q1 q2
     exact (Below.alloc' w _).cell (p:=⟨b,j,none⟩) (hs.ge q1 (.inl q2)).2
  ·exact CellsR_slc hk (LR.mono hcell hro _ _ (hv.readOnly hp))
theorem ok_alloc {T : TypeId} {nid : Nat} {cs : List AV} (hz : zeroA P T = some cs) (hid : s.objs nid = none) (hpos : 0 < cs.length) (hone : cs.all AV.one = true)
  (h : (addBox s nid T cs).putK dst (.ptr nid 0 0) K) : OpOk P ⟨dst,.alloc T,type,pos,after,guard⟩ s K :=
 ok_value (s1:=addBox s nid T cs) h fun F w0 gv a w hdr hs=>by
  obtain ⟨i,v,e1,e2,e3⟩:=zeroA_ok hz
  have hb:=hs.newBlock (k:=.box) (ty:=T) (esz:=cs.length) (es:=[cs]) (vs:=v.cells.toList) hid hpos (by simp) (by simpa using e3 (s.ctx F w hdr)) (VL.ones (c:=s.ctx F w hdr) hs.hdrOne (e3 _) hone) (.inl rfl) (by simp [maxLen])
  refine ⟨.pointer (some ⟨w.heap.size,0,none⟩),_,_,?_,hb,?_⟩
  ·simp [execOp,Instr.alloc,zeroValue,typeInfo,e1,e2,newVar,newRow]
  ·unfold VR
   exact ⟨⟨.box,T,cs.length,[cs]⟩,w.heap.size,by simp [addBox,St.ctx],by simp [St.ctx,Hdr.blk,Value.blk],by simp⟩
theorem ok_box {T : TypeId} {x : Operand} {nid : Nat} {cs : List AV} (hc : (s.val x).cells? = some cs) (hid : s.objs nid = none) (hpos : 0 < cs.length)
  (h : (addBox s nid T cs).putK dst (.ptr nid 0 0) K) : OpOk P ⟨dst,.box T x,type,pos,after,guard⟩ s K :=
 ok_value (s1:=addBox s nid T cs) h fun F w0 gv a w hdr hs=>by
  obtain ⟨e1,e2⟩:=cells?_ok hs.hdrOne (hs.val x) hc
  have hb:=hs.newBlock (k:=.box) (ty:=T) (esz:=cs.length) (es:=[cs]) (vs:=(a.eval x).cells.toList) hid hpos (by simp) (by simpa using e1) e2 (.inl rfl) (by simp [maxLen])
  refine ⟨.pointer (some ⟨w.heap.size,0,none⟩),_,_,?_,hb,?_⟩
  ·simp [execOp,Instr.box,newVar,newRow]
  ·unfold VR
   exact ⟨⟨.box,T,cs.length,[cs]⟩,w.heap.size,by simp [addBox,St.ctx],by simp [St.ctx,Hdr.blk,Value.blk],by simp⟩
end
end Go.Ab
namespace Go.Ab
open Go.RowKit
theorem EsR.take {w : World} {ro : Nat -> Prop} (esz : Nat) : ∀ (n : Nat) (xs : List (List AV)) (rd : Nat -> Option Value),EsR w ro esz xs rd -> EsR w ro esz (xs.take n) rd
 | 0,_,_,_=>by simp only [List.take_zero]; unfold EsR; trivial
 | n + 1,[],_,_=>by simp only [List.take_nil]; unfold EsR; trivial
 | n + 1,x :: xs,rd,h=>by
  unfold EsR at h
  simp only [List.take_succ_cons]
  unfold EsR
  exact ⟨h.1,h.2.1,EsR.take esz n xs _ h.2.2⟩
theorem EsR.drop {w : World} {ro : Nat -> Prop} (esz : Nat) : ∀ (n : Nat) (xs : List (List AV)) (rd : Nat -> Option Value),EsR w ro esz xs rd -> EsR w ro esz (xs.drop n) (fun j=>rd (n * esz + j))
 | 0,xs,rd,h=>by
  simp only [List.drop_zero]
  exact EsR.mono (w:=w) (ro:=ro) (fun _ _ _=>rfl) (fun _ h=>h) esz xs rd _ (fun j=>by simp) h
 | n + 1,[],_,_=>by simp only [List.drop_nil]; unfold EsR; trivial
 | n + 1,x :: xs,rd,h=>by
  unfold EsR at h
  simp only [List.drop_succ_cons]
  exact EsR.mono (w:=w) (ro:=ro) (fun _ _ _=>rfl) (fun _ h=>h) esz _ _ _ (fun j=>by congr 1; simp [Nat.add_mul]; omega) (EsR.drop esz n xs _ h.2.2)
section
variable {F : Nat -> Prop} {w0 : Base} {gv : List Value} {s : St} {a : Act} {w : World} {hdr : Nat -> Hdr}
theorem roAll (F : Nat -> Prop) (w : World) (hdr : Nat -> Hdr) (objs : Nat -> Option AObj) : ∀ x v,RR w (roOf F w hdr objs) x v -> RR w (fun b=>b < w.heap.size) x v :=
 fun x v=>RR.mono (fun _ _ _=>rfl) (fun _ h=>h.2.1) x v
theorem Sim.celAt (h : Sim F w0 gv s a w hdr) {id idx off : Nat} {xs : List (List AV)} {v : Value} (hv : VR (s.ctx F w hdr) (.cel id idx off xs) v) :
  ∃ o sh shc S,s.objs id = some o /\ o.kind = .deep sh /\ sh[off]? = some shc /\ TR w (.sl xs) shc v S /\ ∀ b ∈ S,b ∈ (hdr id).fp:=by
 unfold VR at hv
 obtain ⟨o,b,sh,e,h1,hk,q1,q2,h2,h3⟩:=hv
 replace h1 : s.objs id = some o:=h1
 obtain ⟨hpos,hlens,hnd,cs,hrow,hone,hcl⟩:=h.objs id o h1
 have ht:=hcl.deep hk
 obtain ⟨S1,Se,S2,e1,hTL,_,_⟩:=ht.at q1
 obtain ⟨T1,Ta,T2,shc,v',f1,f2,f3,f4,_,_⟩:=hTL.at q2
 refine ⟨o,sh,shc,Ta,h1,hk,f2,?_,fun b hb=>by rw [e1,f1]; simp [hb]⟩
 have hlt : off < o.esz:=by
  have:=hlens e (mgE q1)
  have:=(List.getElem?_eq_some_iff.1 q2).1
  omega
 have f5 : cs[idx * o.esz + off]? = some v':=by
  rw [List.getElem?_take] at f3
  rw [if_pos hlt,List.getElem?_drop] at f3
  exact f3
 have hc:=hrow.cells h2 _ _ f5
 rw [Addr.add_lit,Nat.zero_add] at hc
 have hvv : v' = v:=Option.some.inj (hc.symm.trans h3)
 subst hvv
 exact f4
theorem Sim.celRead (h : Sim F w0 gv s a w hdr) {id idx off : Nat} {xs : List (List AV)} {v : Value} (hv : VR (s.ctx F w hdr) (.cel id idx off xs) v) : RR w (fun b=>b < w.heap.size) (.sl xs) v:=by
 obtain ⟨o,sh,shc,S,h1,h2,h3,h4,h5⟩:=h.celAt hv
 exact TR.reads _ _ _ _ (fun b hb=>(h.ge h1 (.inr (h5 b hb))).2) h4
theorem rf0_ok (h : Sim F w0 gv s a w hdr) {x : AV} {v : Value} (hv : VR (s.ctx F w hdr) x v) : RR w (fun b=>b < w.heap.size) (rf0 s x) v:=by
 cases x <;> simp only [rf0]
 case any=>unfold RR; trivial
 case ptr=>unfold RR; trivial
 case agg=>unfold RR; trivial
 case tup=>unfold RR; trivial
 case fn=>unfold RR; trivial
 case own id =>
  cases ho : s.objs id with
  | none=>unfold RR; trivial
  | some o =>
   simp only
   by_cases hb : o.box = true
   ·simp only [hb,if_true]; unfold RR; trivial
   ·have hbf : o.box = false:=by simpa using hb
    simp only [hbf]
    unfold VR at hv
    obtain ⟨_,hv⟩:=hv
    replace hv : v = (hdr id).v:=hv
    subst hv
    exact own_reads (h.objs id o ho) hbf _ (fun b hb=>hb.2.1) (fun b hb=>(h.ge ho hb).2)
 case rp=>unfold VR at hv; exact roAll F w hdr s.objs _ _ hv
 case cel id idx off xs=>exact h.celRead hv
 case prt=>unfold RR; trivial
 all_goals exact roAll F w hdr s.objs _ _ (hv.readOnly rfl)
theorem rf0s_ok (h : Sim F w0 gv s a w hdr) : ∀ {xs : List AV} {vs : List Value},VL (s.ctx F w hdr) xs vs -> LR w (fun b=>b < w.heap.size) (xs.map (rf0 s)) vs
 | [],[],_=>by simp only [List.map_nil]; unfold LR; trivial
 | x :: xs,v :: vs,hv=>by
  unfold VL at hv
  simp only [List.map_cons]
  unfold LR
  exact ⟨rf0_ok h hv.1,rf0s_ok h hv.2⟩
 | [],_ :: _,hv=>by unfold VL at hv; exact hv.elim
 | _ :: _,[],hv=>by unfold VL at hv; exact hv.elim
theorem LR.cells {w : World} {ro : Nat -> Prop} : ∀ {xs : List AV} {vs : List Value} (rd : Nat -> Option Value),LR w ro xs vs -> (∀ j u,vs[j]? = some u -> rd j = some u) -> CsR w ro xs rd
 | [],_,_,_,_=>by unfold CsR; trivial
 | x :: xs,v :: vs,rd,h,hr=>by
  unfold LR at h
  unfold CsR
  exact ⟨⟨v,hr 0 v rfl,h.1⟩,LR.cells _ h.2 (fun j u hj=>hr (j + 1) u (by simpa using hj))⟩
 | _ :: _,[],_,h,_=>by unfold LR at h; exact h.elim
theorem rf1_ok (h : Sim F w0 gv s a w hdr) {x : AV} {v : Value} (hv : VR (s.ctx F w hdr) x v) : RR w (fun b=>b < w.heap.size) (rf1 s x) v:=by
 cases x
 case agg cs =>
  simp only [rf1]
  unfold VR at hv
  unfold RR
  obtain ⟨vs,e1,e2⟩:=hv
  exact ⟨vs,e1,rf0s_ok h e2⟩
 case ptr id idx off =>
  simp only [rf1]
  split
  ·split
   ·cases hc : s.cellsAt (.ptr id idx off) with
    | none=>simp only; unfold RR; trivial
    | some cs =>
     simp only
     obtain ⟨b,o,vs,e1,e2,e3⟩:=h.cellsAt hv hc
     have hlt : b < w.heap.size:=by
      unfold VR at hv
      obtain ⟨ob,b',k1,k2,k3⟩:=hv
      rw [e1] at k3
      cases k3
      exact (h.ge k1 (.inl k2)).2
     unfold RR
     exact ⟨b,o,e1,hlt,LR.cells _ (rf0s_ok h e2) (fun j u hj=>by have:=e3 j u hj; rwa [Addr.add_lit] at this)⟩
   ·unfold RR; trivial
  ·unfold RR; trivial
 all_goals exact rf0_ok h hv
theorem rf1s_ok (h : Sim F w0 gv s a w hdr) : ∀ {xs : List AV} {vs : List Value},VL (s.ctx F w hdr) xs vs -> LR w (fun b=>b < w.heap.size) (xs.map (rf1 s)) vs
 | [],[],_=>by simp only [List.map_nil]; unfold LR; trivial
 | x :: xs,v :: vs,hv=>by
  unfold VL at hv
  simp only [List.map_cons]
  unfold LR
  exact ⟨rf1_ok h hv.1,rf1s_ok h hv.2⟩
 | [],_ :: _,hv=>by unfold VL at hv; exact hv.elim
 | _ :: _,[],hv=>by unfold VL at hv; exact hv.elim
theorem rf_ok (h : Sim F w0 gv s a w hdr) {x : AV} {v : Value} (hv : VR (s.ctx F w hdr) x v) : RR w (fun b=>b < w.heap.size) (rf s x) v:=by
 cases x
 case fn f caps =>
  simp only [rf]
  unfold VR at hv
  unfold RR
  obtain ⟨vs,e1,e2⟩:=hv
  exact ⟨vs,e1,rf1s_ok h e2⟩
 all_goals exact rf1_ok h hv
theorem rfs_ok (h : Sim F w0 gv s a w hdr) : ∀ {xs : List AV} {vs : List Value},VL (s.ctx F w hdr) xs vs -> LR w (fun b=>b < w.heap.size) (xs.map (rf s)) vs
 | [],[],_=>by simp only [List.map_nil]; unfold LR; trivial
 | x :: xs,v :: vs,hv=>by
  unfold VL at hv
  simp only [List.map_cons]
  unfold LR
  exact ⟨rf_ok h hv.1,rfs_ok h hv.2⟩
 | [],_ :: _,hv=>by unfold VL at hv; exact hv.elim
 | _ :: _,[],hv=>by unfold VL at hv; exact hv.elim
theorem ro1_ok {c : Ctx} {x : AV} {v : Value} (hv : VR c x v) (hx : x.ro1 = true) : RR c.w c.ro (rf0 s x) v:=by
 cases x <;> simp [AV.ro1] at hx <;> simp only [rf0] <;> unfold VR at hv <;> first | exact hv | (unfold RR; exact hv)
theorem ro1s_ok {c : Ctx} : ∀ {xs : List AV} {vs : List Value},VL c xs vs -> xs.all AV.ro1 = true -> LR c.w c.ro (xs.map (rf0 s)) vs
 | [],[],_,_=>by simp only [List.map_nil]; unfold LR; trivial
 | x :: xs,v :: vs,hv,hx=>by
  unfold VL at hv
  simp only [List.all_cons,baT] at hx
  simp only [List.map_cons]
  unfold LR
  exact ⟨ro1_ok hv.1 hx.1,ro1s_ok hv.2 hx.2⟩
 | [],_ :: _,hv,_=>by unfold VL at hv; exact hv.elim
 | _ :: _,[],hv,_=>by unfold VL at hv; exact hv.elim
theorem ro2_ok {c : Ctx} {x : AV} {v : Value} (hv : VR c x v) (hx : x.ro2 = true) : RR c.w c.ro (rf s x) v:=by
 cases x
 case agg cs =>
  simp only [AV.ro2] at hx
  simp only [rf,rf1]
  unfold VR at hv
  unfold RR
  obtain ⟨vs,e1,e2⟩:=hv
  exact ⟨vs,e1,ro1s_ok e2 hx⟩
 case ptr=>simp [AV.ro2,AV.ro1] at hx
 case fn=>simp [AV.ro2,AV.ro1] at hx
 all_goals exact ro1_ok (s:=s) hv hx
theorem ro2s_ok {c : Ctx} : ∀ {xs : List AV} {vs : List Value},VL c xs vs -> xs.all AV.ro2 = true -> LR c.w c.ro (xs.map (rf s)) vs
 | [],[],_,_=>by simp only [List.map_nil]; unfold LR; trivial
 | x :: xs,v :: vs,hv,hx=>by
  unfold VL at hv
  simp only [List.all_cons,baT] at hx
  simp only [List.map_cons]
  unfold LR
  exact ⟨ro2_ok hv.1 hx.1,ro2s_ok hv.2 hx.2⟩
 | [],_ :: _,hv,_=>by unfold VL at hv; exact hv.elim
 | _ :: _,[],hv,_=>by unfold VL at hv; exact hv.elim
theorem addObjs_at : ∀ (os : List AObj) (d : Nat) (objs : Nat -> Option AObj) (i : Nat),addObjs d os objs i = if d <= i /\ i < d + os.length then os[i - d]? else objs i
 | [],d,objs,i=>by simp only [addObjs,List.length_nil]; rw [if_neg (by omega)]
 | o :: os,d,objs,i=>by
  simp only [addObjs,addObjs_at os,List.length_cons]
  by_cases h1 : d + 1 <= i /\ i < d + 1 + os.length
  ·rw [if_pos h1,if_pos (by omega)]
   have : i - d = (i - (d + 1)) + 1:=by omega
   rw [this,List.getElem?_cons_succ]
  ·rw [if_neg h1]
   by_cases h2 : i = d
   ·subst h2
    rw [if_pos (by omega)]
    simp
   ·rw [if_neg h2,if_neg (by omega)]
theorem freeFrom_at : ∀ (os : List AObj) (d : Nat) (objs : Nat -> Option AObj),freeFrom d os objs = true -> ∀ i,d <= i -> i < d + os.length -> objs i = none
 | [],d,objs,_,i,h1,h2=>by simp at h2; omega
 | o :: os,d,objs,h,i,h1,h2=>by
  simp only [freeFrom] at h
  cases hd : objs d with
  | some _=>simp [hd] at h
  | none =>
   simp only [hd] at h
   by_cases e : i = d
   ·rw [e]; exact hd
   ·exact freeFrom_at os (d + 1) objs h i (by omega) (by simp at h2; omega)
theorem Sim.called (h : Sim F w0 gv s a w hdr) {R : Nat -> Prop} {sh : Bool} {w' : World} {hdr1 : Nat -> Hdr} {r : AV} {os : List AObj} {v : Value} {nid : Nat}
  (hR : sh = true -> ∀ b,R b -> roOf F w hdr s.objs b) (hb : Below w.heap.size w w') (hr : ResR R sh w w' hdr1 r os v) (hfree : freeFrom nid os s.objs = true) :
  ∃ hdr',Sim F w0 gv { s with objs:=addObjs nid os s.objs } a w' hdr' /\ VR (St.ctx { s with objs:=addObjs nid os s.objs } F w' hdr') (r.shift nid) v:=by
 have hfr:=freeFrom_at os nid s.objs hfree
 have hold : ∀ id o,s.objs id = some o -> ¬ (nid <= id /\ id < nid + os.length):=fun id o ho e=>by rw [hfr id e.1 e.2] at ho; cases ho
 refine ⟨fun i=>if nid <= i /\ i < nid + os.length then hdr1 (i - nid) else hdr i,?_⟩
 generalize hH : (fun i=>if nid <= i /\ i < nid + os.length then hdr1 (i - nid) else hdr i) = hdr'
 have hH1 : ∀ i,hdr' i = if nid <= i /\ i < nid + os.length then hdr1 (i - nid) else hdr i:=fun i=>by rw [<- hH]
 have hnewH : ∀ id,id < os.length -> hdr' (nid + id) = hdr1 id:=fun id hi=>by rw [hH1,if_pos (by omega)]; congr 1; omega
 have hro : ∀ b,(resCtx R sh w w' hdr1 os).ro b -> roOf F w' hdr' (addObjs nid os s.objs) b:=by
  intro b ⟨f1,f2,f3⟩
  refine ⟨?_,f2,fun i oi hi e=>?_⟩
  ·rcases f1 with ⟨g1,g2⟩ | g
   ·exact (hR g1 b g2).1
   ·exact h.free b (w0.up b (Nat.le_trans h.below.size g))
  ·rw [addObjs_at] at hi
   rw [hH1] at e
   by_cases hx : nid <= i /\ i < nid + os.length
   ·rw [if_pos hx] at hi e
    exact f3 _ oi hi e
   ·rw [if_neg hx] at hi e
    rcases f1 with ⟨g1,g2⟩ | g
    ·exact (hR g1 b g2).2.2 i oi hi e
    ·have:=(h.ge hi e).2; omega
 have hRR : ∀ x u,RR w' (resCtx R sh w w' hdr1 os).ro x u -> RR w' (roOf F w' hdr' (addObjs nid os s.objs)) x u:=fun x u=>RR.mono (fun _ _ _=>rfl) hro x u
 have hnew : ∀ id o,addObjs nid os s.objs id = some o -> s.objs id = none -> nid <= id /\ id < nid + os.length /\ os[id - nid]? = some o:=by
  intro id o h1 h2
  rw [addObjs_at] at h1
  split at h1
  ·rename_i hc; exact ⟨hc.1,hc.2,h1⟩
  ·rw [h2] at h1; cases h1
 refine ⟨h.grow hb ?_ ?_ ?_,?_⟩
 ·intro id o ho
  have:=hold id o ho
  exact ⟨by rw [addObjs_at,if_neg this]; exact ho,by rw [hH1,if_neg this]⟩
 ·intro id o h1 h2
  obtain ⟨c1,c2,c3⟩:=hnew id o h1 h2
  obtain ⟨k2,k3,kn,cs,k4,k5,k6⟩:=hr.objs _ o c3
  have hbx:=hr.slc o (mgE c3)
  have e : hdr' id = hdr1 (id - nid):=by rw [hH1,if_pos ⟨c1,c2⟩]
  rw [e]
  refine ⟨k2,k3,kn,cs,k4,k5,?_⟩
  cases hk : o.kind with
  | box=>unfold AObj.box at hbx; rw [hk] at hbx; cases hbx
  | slc =>
   obtain ⟨q1,q2⟩:=k6.slc hk
   rw [q2]
   exact CellsR_slc hk (LR.mono (fun _ _ _=>rfl) hro _ _ q1)
  | deep sh=>exact CellsR_deep hk (k6.deep hk)
 ·intro i j o o' b hi hj ni nj bi bj
  obtain ⟨i1,i2,i3⟩:=hnew i o hi ni
  obtain ⟨j1,j2,j3⟩:=hnew j o' hj nj
  rw [hH1,if_pos ⟨i1,i2⟩] at bi
  rw [hH1,if_pos ⟨j1,j2⟩] at bj
  have:=hr.dis _ _ o o' b i3 j3 bi bj
  omega
 ·refine VR.sub (c:=resCtx R sh w w' hdr1 os) (c':=St.ctx { s with objs:=addObjs nid os s.objs } F w' hdr') hRR ?_ ?_ ?_ (fun id j x y z lo m cp u e hu=>by
   cases e
   obtain ⟨o,u1,u2,u3,u4⟩:=hu
   replace u1 : os[id]? = some o:=u1
   have hlt : id < os.length:=(List.getElem?_eq_some_iff.1 u1).1
   refine ⟨o,?_,u2,u3,?_⟩
   ·show addObjs nid os s.objs (nid + id) = some o
    rw [addObjs_at,if_pos (by omega),show nid + id - nid = id by omega]
    exact u1
   ·show _ \/ (_ /\ ∃ b m,(hdr' (nid + id)).v = _ /\ _)
    rw [hnewH id hlt]
    exact u4) r v hr.val
  ·intro id u hu
   unfold VR at hu ⊢
   obtain ⟨u1,u2⟩:=hu
   have hlt : id < os.length:=by
    simp only [resCtx] at u1
    exact (List.getElem?_eq_some_iff.1 (Option.isSome_iff_exists.1 u1).choose_spec).1
   refine ⟨?_,?_⟩
   ·show (addObjs nid os s.objs (nid + id)).isSome = true
    rw [addObjs_at,if_pos (by omega),show nid + id - nid = id by omega]
    exact u1
   ·show u = (hdr' (nid + id)).v
    rw [hnewH id hlt]; exact u2
  ·intro id x y u hu
   unfold VR at hu ⊢
   obtain ⟨o,b,u1,u2,u3⟩:=hu
   replace u1 : os[id]? = some o:=u1
   have hlt : id < os.length:=(List.getElem?_eq_some_iff.1 u1).1
   refine ⟨o,b,?_,?_,u3⟩
   ·show addObjs nid os s.objs (nid + id) = some o
    rw [addObjs_at,if_pos (by omega),show nid + id - nid = id by omega]
    exact u1
   ·show (hdr' (nid + id)).blk = some b
    rw [hnewH id hlt]; exact u2
  ·intro id x y z u hu
   unfold VR at hu ⊢
   obtain ⟨o,b,sh,e,u1,q1,q2,q3,u2,u3⟩:=hu
   replace u1 : os[id]? = some o:=u1
   have hlt : id < os.length:=(List.getElem?_eq_some_iff.1 u1).1
   refine ⟨o,b,sh,e,?_,q1,q2,q3,?_,u3⟩
   ·show addObjs nid os s.objs (nid + id) = some o
    rw [addObjs_at,if_pos (by omega),show nid + id - nid = id by omega]
    exact u1
   ·show (hdr' (nid + id)).blk = some b
    rw [hnewH id hlt]; exact u2
end
section
variable {P : Program} {s : St} {K : St -> Prop} {dst : Option Tmp} {type : TypeId} {pos : String} {after : Array Edge} {guard : Option (Nat × Bool)}
theorem ok_call {x : Operand} {args : Array Operand} {tys : Array TypeId} {f nid : Nat} {caps : List AV} (hx : s.val x = .fn f caps) (h : CallA P f (args.toList.map s.val ++ caps) s nid dst K) :
  OpOk P ⟨dst,.call ⟨.value x,args,tys⟩,type,pos,after,guard⟩ s K:=by
 intro F w0 gv a w ⟨hdr,hs⟩ next Q hn
 unfold CallA at h
 have hvx:=hs.val x
 rw [hx] at hvx
 unfold VR at hvx
 obtain ⟨vc,e1,e2⟩:=hvx
 have hargs : VL (s.ctx F w hdr) (args.toList.map s.val ++ caps) (args.toList.map a.eval ++ vc.toList):=(vals_ok hs args.toList).append e2
 have hrun : (execOp a.eval ⟨dst,.call ⟨.value x,args,tys⟩,type,pos,after,guard⟩).run P w = (callFunc f (args.toList.map a.eval ++ vc.toList).toArray).run P w:=by
  have harr : (args.toList.map a.eval ++ vc.toList).toArray = args.map a.eval ++ vc:=by simp
  rw [harr]
  simp [execOp,resolve,e1,Deferred.ofValue,invoke]
 unfold Oper.wp
 rw [hrun]
 rcases h with h | ⟨sh,r,os,hpc,hsh,⟨hfree,_⟩,_,hput⟩
 ·refine (h F w0 gv a w hdr hs _ hargs).upon fun v w' hq=>?_
  obtain ⟨s',k,hs'⟩:=hq
  exact hn _ _ _ k hs'
 obtain ⟨k1,k2⟩:=putK_elim (putN_elim hput)
 cases sh with
 | false =>
  have hc:=hpc.run w (fun b=>b < w.heap.size) _ ⟨fun b hb=>hb,hs.news⟩ (rfs_ok hs hargs)
  refine hc.upon fun v w' hq=>?_
  obtain ⟨hdr1,hb,hres⟩:=hq
  obtain ⟨hdr',q1,q2⟩:=hs.called (by intro e; cases e) hb hres hfree
  exact hn _ _ _ k2 ⟨hdr',q1.put k1 q2⟩
 | true =>
  have hc:=hpc.run w (roOf F w hdr s.objs) _ ⟨fun b hb=>hb.2.1,hs.news⟩ (ro2s_ok (c:=s.ctx F w hdr) hargs (hsh rfl))
  refine hc.upon fun v w' hq=>?_
  obtain ⟨hdr1,hb,hres⟩:=hq
  obtain ⟨hdr',q1,q2⟩:=hs.called (fun _ b hb=>hb) hb hres hfree
  exact hn _ _ _ k2 ⟨hdr',q1.put k1 q2⟩
end
end Go.Ab
namespace Go.Ab
open Go.RowKit
set_option linter.unusedVariables false
theorem flatA_TR {w : World} {ro : Nat -> Prop} {sh : Shp} {a : AV} {v : Value} (h : flatA sh a = true) (hr : RR w ro a v) : TR w a sh v []:=by
 unfold flatA at h
 split at h
 ·split at h
  ·unfold RR at hr; unfold TR; exact ⟨rfl,hr,rfl⟩
  ·unfold RR at hr; unfold TR; exact ⟨rfl,hr,rfl⟩
  ·unfold RR at hr; unfold TR; exact ⟨rfl,hr,rfl⟩
  ·cases h
 ·split at h
  ·unfold RR at hr; unfold TR; exact ⟨⟨_,_,_,rfl⟩,hr,rfl⟩
  ·cases h
theorem flatFit_TL {w : World} {ro : Nat -> Prop} : ∀ {shs : List Shp} {al : List AV} {vs : List Value},flatFit shs al = true -> LR w ro al vs -> TL w al shs vs []
 | [],[],vs,_,hr=>by
  cases vs with
  | nil=>unfold TL; exact ⟨rfl,rfl,rfl⟩
  | cons=>unfold LR at hr; exact hr.elim
 | sh :: shs,a :: al,[],_,hr=>by unfold LR at hr; exact hr.elim
 | sh :: shs,a :: al,v :: vs,h,hr=>by
  simp only [flatFit,baT] at h
  unfold LR at hr
  unfold TL
  exact ⟨sh,shs,v,vs,[],[],rfl,rfl,rfl,flatA_TR h.1 hr.1,flatFit_TL h.2 hr.2⟩
 | [],_ :: _,_,h,_=>by simp [flatFit] at h
 | _ :: _,[],_,h,_=>by simp [flatFit] at h
theorem flat_TEs {w : World} {ro : Nat -> Prop} {esz : Nat} {sh : List Shp} : ∀ {es : List (List AV)} {cs : List Value},(∀ e ∈ es,e.length = esz) -> (∀ e ∈ es,flatFit sh e = true) -> LR w ro es.flatten cs -> TEs w esz sh es cs []
 | [],cs,_,_,h=>by
  simp only [List.flatten_nil] at h
  cases cs with
  | nil=>unfold TEs; exact ⟨rfl,rfl⟩
  | cons=>unfold LR at h; exact h.elim
 | e :: es,cs,hl,hf,h=>by
  have hx:=hl e (by simp)
  have h1:=LR.take esz h
  have h2:=LR.drop esz h
  rw [List.flatten_cons,List.take_append_of_le_length (by omega),List.take_of_length_le (by omega)] at h1
  rw [List.flatten_cons,List.drop_append_of_le_length (by omega),List.drop_eq_nil_of_le (by omega),List.nil_append] at h2
  unfold TEs
  exact ⟨cs.take esz,cs.drop esz,[],[],(List.take_append_drop esz cs).symm,by rw [<- h1.length,hx],rfl,flatFit_TL (hf e (by simp)) h1,flat_TEs (fun x hx=>hl x (by simp [hx])) (fun x hx=>hf x (by simp [hx])) h2⟩
section
variable {F : Nat -> Prop} {w0 : Base} {gv : List Value} {s : St} {a : Act} {w : World} {hdr : Nat -> Hdr}
theorem promK_same (l : List (Nat × List Shp)) (i : Nat) (o : AObj) : (promK l i o).ty = o.ty /\ (promK l i o).esz = o.esz /\ (promK l i o).elems = o.elems:=by
 induction l with
 | nil=>exact ⟨rfl,rfl,rfl⟩
 | cons p l ih =>
  obtain ⟨id,sh⟩:=p
  simp only [promK]
  cases Nat.beq i id with
  | true=>exact ⟨rfl,rfl,rfl⟩
  | false=>exact ih
theorem promK_kind {l : List (Nat × List Shp)} {i : Nat} {o : AObj} (hp : PromAll s l) (ho : s.objs i = some o) : promK l i o = o \/ ∃ sh,o.kind = .slc /\ promK l i o = { o with kind:=.deep sh } /\ ∀ e ∈ o.elems,flatFit sh e = true:=by
 induction l with
 | nil=>exact .inl rfl
 | cons p l ih =>
  obtain ⟨id,sh⟩:=p
  simp only [PromAll] at hp
  simp only [promK]
  cases h : Nat.beq i id with
  | true =>
   have e:=Nat.eq_of_beq_eq_true h
   subst e
   obtain ⟨ty,esz,es,h1,h2⟩:=hp.1
   rw [ho] at h1
   cases h1
   exact .inr ⟨sh,rfl,rfl,h2⟩
  | false=>exact ih hp.2
theorem Sim.prom (h : Sim F w0 gv s a w hdr) {l : List (Nat × List Shp)} (hp : PromAll s l) : Sim F w0 gv (promS s l) a w hdr /\ (∀ x v,VR (s.ctx F w hdr) x v -> VR ((promS s l).ctx F w hdr) x v):=by
 have hobj : ∀ i,(promS s l).objs i = (s.objs i).map (promK l i):=fun i=>rfl
 have hO : ∀ i o,s.objs i = some o -> ∃ o',(promS s l).objs i = some o' /\ o'.esz = o.esz /\ (hdr i).v = (hdr i).v:=fun i o hi=>⟨promK l i o,by rw [hobj,hi]; rfl,(promK_same l i o).2.1,rfl⟩
 have hback : ∀ i o,(promS s l).objs i = some o -> ∃ o1,s.objs i = some o1 /\ o = promK l i o1:=by
  intro i o hi
  rw [hobj] at hi
  cases hs : s.objs i with
  | none=>rw [hs] at hi; cases hi
  | some o1=>rw [hs] at hi; exact ⟨o1,rfl,by simpa using hi.symm⟩
 have hC:=cel_keep (c:=s.ctx F w hdr) (c':=(promS s l).ctx F w hdr) hO (fun i o o' sh q1 q2 q3=>by
  replace q1 : s.objs i = some o:=q1
  replace q2 : (promS s l).objs i = some o':=q2
  rw [hobj,q1] at q2
  have e : promK l i o = o':=by simpa using q2
  rcases promK_kind hp q1 with e2 | ⟨sh',e2,_⟩
  ·rw [<- e,e2]
  ·rw [e2] at q3; cases q3) (fun i o b j _ _=>rfl)
 have hro : ∀ b,roOf F w hdr s.objs b -> roOf F w hdr (promS s l).objs b:=by
  intro b ⟨f1,f2,f3⟩
  refine ⟨f1,f2,fun i o hi=>?_⟩
  obtain ⟨o1,h1,_⟩:=hback i o hi
  exact f3 i o1 h1
 have hR : ∀ x v,RR w (roOf F w hdr s.objs) x v -> RR w (roOf F w hdr (promS s l).objs) x v:=fun x v=>RR.mono (fun _ _ _=>rfl) hro x v
 have hQ : ∀ i o,s.objs i = some o -> ∃ o',(promS s l).objs i = some o' /\ o'.esz = o.esz /\ (hdr i).v = (hdr i).v /\ o'.box = o.box:=fun i o hi=>by
  refine ⟨promK l i o,by rw [hobj,hi]; rfl,(promK_same l i o).2.1,rfl,?_⟩
  rcases promK_kind hp hi with e | ⟨sh,e1,e2,_⟩
  ·rw [e]
  ·rw [e2]; unfold AObj.box; rw [e1]
 refine ⟨h.recast (s':=promS s l) (hdr':=hdr) (so:=fun i=>.own i) (sp:=fun i x y=>.ptr i x y) (sc:=fun i x y z=>.cel i x y z) (fun _=>False) (fun _=>True) rfl rfl rfl (Nat.le_refl _) (fun _ _ _=>rfl) (fun _ h=>h.elim)
  (fun t=>(AV.sub_id _).symm) rfl (AV.subL_id _).symm ?_ (own_keep (c:=s.ctx F w hdr) (c':=(promS s l).ctx F w hdr) hO) (ptr_keep (c:=s.ctx F w hdr) (c':=(promS s l).ctx F w hdr) hO) hC (prt_own (c:=s.ctx F w hdr) (c':=(promS s l).ctx F w hdr) hQ) (fun i o' _ hc=>absurd trivial hc) ?_ ?_,
  VR.mono (c:=s.ctx F w hdr) (c':=(promS s l).ctx F w hdr) hR hC (prt_keep (c:=s.ctx F w hdr) (c':=(promS s l).ctx F w hdr) hQ) hO⟩
 ·intro i o b hi hb
  obtain ⟨o1,h1,_⟩:=hback i o hi
  exact .inl ⟨i,o1,h1,hb⟩
 ·intro hR i o hi _
  obtain ⟨o1,h1,rfl⟩:=hback i o hi
  obtain ⟨k2,k3,kn,cs,k4,k5,k6⟩:=h.objs i o1 h1
  obtain ⟨s1,s2,s3⟩:=promK_same l i o1
  refine ⟨by rw [s2]; exact k2,by rw [s2,s3]; exact k3,kn,cs,by rw [s1,s2,s3]; exact k4,k5,?_⟩
  rcases promK_kind h1 (l:=l) (hp:=hp) with e | ⟨sh,e1,e2,e3⟩
  ·rw [e]
   cases hk : o1.kind with
   | box =>
    obtain ⟨q1,q2⟩:=k6.box hk
    rw [q2]
    exact CellsR_box hk (VL.mono (c:=s.ctx F w hdr) (c':=(promS s l).ctx F w hdr) hR hC (prt_keep (c:=s.ctx F w hdr) (c':=(promS s l).ctx F w hdr) hQ) hO _ _ q1)
   | slc =>
    obtain ⟨q1,q2⟩:=k6.slc hk
    rw [q2]
    exact CellsR_slc hk (LR.ofR hR _ _ q1)
   | deep sh=>exact CellsR_deep hk (k6.deep hk)
  ·obtain ⟨q1,q2⟩:=k6.slc e1
   rw [q2,e2]
   exact CellsR_deep (sh:=sh) rfl (flat_TEs k3 e3 q1)
 ·intro i j o o' b hi hj
  obtain ⟨o1,h1,_⟩:=hback i o hi
  obtain ⟨o2,h2,_⟩:=hback j o' hj
  exact h.dis i j o1 o2 b h1 h2
end
theorem promS_nil (s : St) : promS s [] = s:=by
 cases s
 simp only [promS]
 congr 1
 funext i
 rename_i o _ _
 cases o i <;> rfl
end Go.Ab
