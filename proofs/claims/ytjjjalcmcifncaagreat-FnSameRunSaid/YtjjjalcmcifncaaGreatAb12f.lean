/-
  Regions that draw their order: an operation that stands apart gives the same in whatever order.
  No condition: definitions and lemmas over any program.
-/
import Derived.Test.YtjjjalcmcifncaaGreatAb12e
namespace Go.Ab
open Go.RowKit
section
variable {s s2 : St}
theorem cellsAt_same (ho : ∀ id,has s id = true -> s2.objs id = s.objs id) {v : AV} (hc : v.clo (has s) = true) : s2.cellsAt v = s.cellsAt v:=by
 cases v <;> simp only [St.cellsAt]
 case ptr id idx off =>
  unfold AV.clo at hc
  rw [ho id hc]
theorem rf0_same (ho : ∀ id,has s id = true -> s2.objs id = s.objs id) {v : AV} (hc : v.clo (has s) = true) : rf0 s2 v = rf0 s v /\ known0 s2 v = known0 s v:=by
 cases v <;> simp only [rf0,known0,and_self]
 case own id =>
  unfold AV.clo at hc
  rw [ho id hc]
  exact ⟨rfl,rfl⟩
 case ptr id idx off =>
  unfold AV.clo at hc
  rw [ho id hc]
  exact ⟨trivial,rfl⟩
 case cel id idx off xs =>
  unfold AV.clo at hc
  rw [ho id hc]
  exact ⟨trivial,rfl⟩
 case prt id lo n cp =>
  unfold AV.clo at hc
  rw [ho id hc]
  exact ⟨trivial,rfl⟩
theorem rf0L_same (ho : ∀ id,has s id = true -> s2.objs id = s.objs id) {vs : List AV} (hc : cloL (has s) vs = true) : vs.map (rf0 s2) = vs.map (rf0 s) /\ vs.all (known0 s2) = vs.all (known0 s):=by
 rw [cloL_all] at hc
 refine ⟨List.map_congr_left fun a ha=>(rf0_same ho (hc a ha)).1,?_⟩
 induction vs with
 | nil=>rfl
 | cons a as ih =>
  simp only [List.all_cons]
  rw [(rf0_same ho (hc a (by simp))).2,ih (fun b hb=>hc b (by simp [hb]))]
theorem rf1_same (hw : WF s) (ho : ∀ id,has s id = true -> s2.objs id = s.objs id) {v : AV} (hc : v.clo (has s) = true) : rf1 s2 v = rf1 s v /\ known1 s2 v = known1 s v:=by
 cases v
 case agg cs =>
  unfold AV.clo at hc
  simp only [rf1,known1]
  obtain ⟨h1,h2⟩:=rf0L_same ho hc
  rw [h1,h2]
  exact ⟨rfl,rfl⟩
 case ptr id idx off =>
  have hc0:=hc
  unfold AV.clo at hc
  simp only [rf1,known1]
  rw [ho id hc]
  cases hob : s.objs id with
  | none=>exact ⟨rfl,rfl⟩
  | some o =>
   cases hb : o.box with
   | false=>simp [hb]
   | true =>
    simp only [hb]
    rw [cellsAt_same ho hc0]
    cases hcs : s.cellsAt (.ptr id idx off) with
    | none=>exact ⟨rfl,rfl⟩
    | some cs =>
     simp only
     have hcl : cloL (has s) cs = true:=by
      simp only [St.cellsAt,hob] at hcs
      split at hcs
      ·rename_i e he
       rw [box_kind hb] at hcs
       cases hcs
       have h1:=hw.box id o hob hb
       rw [cloL_all] at h1 ⊢
       exact fun a ha=>h1 a (List.mem_flatten.2 ⟨e,mgE he,List.mem_of_mem_drop ha⟩)
      ·cases hcs
     obtain ⟨h1,h2⟩:=rf0L_same ho hcl
     rw [h1,h2]
     exact ⟨rfl,rfl⟩
 all_goals exact rf0_same ho hc
theorem rf_same (hw : WF s) (ho : ∀ id,has s id = true -> s2.objs id = s.objs id) {v : AV} (hc : v.clo (has s) = true) : rf s2 v = rf s v /\ known s2 v = known s v:=by
 cases v
 case fn f caps =>
  unfold AV.clo at hc
  rw [cloL_all] at hc
  simp only [rf,known]
  refine ⟨by rw [List.map_congr_left fun a ha=>(rf1_same hw ho (hc a ha)).1],?_⟩
  induction caps with
  | nil=>rfl
  | cons a as ih =>
   simp only [List.all_cons]
   rw [(rf1_same hw ho (hc a (by simp))).2,ih (fun b hb=>hc b (by simp [hb]))]
 all_goals exact rf1_same hw ho hc
theorem rfL_same (hw : WF s) (ho : ∀ id,has s id = true -> s2.objs id = s.objs id) {vs : List AV} (hc : ∀ a ∈ vs,a.clo (has s) = true) : vs.map (rf s2) = vs.map (rf s) /\ vs.all (known s2) = vs.all (known s):=by
 refine ⟨List.map_congr_left fun a ha=>(rf_same hw ho (hc a ha)).1,?_⟩
 induction vs with
 | nil=>rfl
 | cons a as ih =>
  simp only [List.all_cons]
  rw [(rf_same hw ho (hc a (by simp))).2,ih (fun b hb=>hc b (by simp [hb]))]
theorem opR_congr {P : Program} {op : Op} {nid : Nat} {K : AV -> List AObj -> Prop} (hv : ∀ x ∈ op.operands.toList,s2.val x = s.val x) (hm : memC op <= 1)
  (ho : memC op = 1 -> WF s /\ ∀ id,has s id = true -> s2.objs id = s.objs id) : opR P op nid s2 K = opR P op nid s K:=by
 have parts : ∀ ps : List (Nat × Operand),(∀ x ∈ ps.map (·.2),s2.val x = s.val x) -> (ps.map fun p=>(p.1,s2.val p.2)) = ps.map fun p=>(p.1,s.val p.2):=fun ps hp =>
  List.map_congr_left fun p hm=>by rw [hp p.2 (List.mem_map.2 ⟨p,hm,rfl⟩)]
 cases op <;> try (simp [memC] at hm; done)
 case move x=>simp only [opR,hv x (by simp [Op.operands])]
 case assign x=>simp only [opR,hv x (by simp [Op.operands])]
 case pick c a b=>simp only [opR,hv c (by simp [Op.operands]),hv a (by simp [Op.operands]),hv b (by simp [Op.operands])]
 case alloc T=>simp only [opR]
 case box T x=>simp only [opR,hv x (by simp [Op.operands])]
 case build T ps=>simp only [opR]; rw [parts ps.toList (by simpa [Op.operands] using hv)]
 case buildSlice T n ps=>simp only [opR]; rw [parts ps.toList (by simpa [Op.operands] using hv)]
 case makeSlice T l c=>simp only [opR,hv l (by simp [Op.operands]),hv c (by simp [Op.operands])]
 case load T x =>
  obtain ⟨hw,ho⟩:=ho rfl
  have hx:=hv x (by simp [Op.operands])
  simp only [opR,hx]
  have hc:=hw.val x
  cases hvx : s.val x <;> simp only
  case ptr id idx off =>
   rw [hvx] at hc
   unfold AV.clo at hc
   rw [ho id hc]
 case fieldAddr T x f=>simp only [opR,hv x (by simp [Op.operands])]
 case indexAddr T x i =>
  obtain ⟨hw,ho⟩:=ho rfl
  have hx:=hv x (by simp [Op.operands])
  have hi:=hv i (by simp [Op.operands])
  simp only [opR,hx,hi]
  have hc:=hw.val x
  cases hvx : s.val x <;> simp only
  case own id =>
   rw [hvx] at hc
   unfold AV.clo at hc
   rw [ho id hc]
 case field T x f=>simp only [opR,hv x (by simp [Op.operands])]
 case extract x i=>simp only [opR,hv x (by simp [Op.operands])]
 case binOp o T x y t=>simp only [opR,hv x (by simp [Op.operands]),hv y (by simp [Op.operands])]
 case unOp o T x=>simp only [opR,hv x (by simp [Op.operands])]
 case nilCheck x=>simp only [opR,hv x (by simp [Op.operands])]
 case makeFunc fn first captured =>
  have hcap : captured.toList.map s2.val = captured.toList.map s.val:=List.map_congr_left fun x hx=>hv x (by
   have hx' : x ∈ captured:=by simpa using hx
   simp [Op.operands,hx'])
  simp only [opR,hcap]
 case call c =>
  obtain ⟨callee,args,tys⟩:=c
  have hargs : ∀ x ∈ args.toList,s2.val x = s.val x:=fun x hx=>hv x (by
   have hx' : x ∈ args:=by simpa using hx
   simp [Op.operands,Call.operands,hx'])
  cases callee
  case value x =>
   obtain ⟨hw,ho⟩:=ho rfl
   have hx:=hv x (by simp [Op.operands,Call.operands])
   have hmap : args.toList.map s2.val = args.toList.map s.val:=List.map_congr_left hargs
   simp only [opR,hx,hmap]
   cases hvx : s.val x <;> simp only
   case fn f caps =>
    have hcx:=hw.val x
    rw [hvx] at hcx
    unfold AV.clo at hcx
    rw [cloL_all] at hcx
    obtain ⟨h1,h2⟩:=rfL_same hw ho (vs:=args.toList.map s.val ++ caps) (fun a ha=>by
     simp only [List.mem_append,List.mem_map] at ha
     rcases ha with ⟨y,_,rfl⟩ | ha
     ·exact hw.val y
     ·exact hcx a ha)
    rw [h1,h2]
  case invoke r m=>simp only [opR]
  case builtin b =>
   have one : ∀ x,args.toList = [x] -> s2.val x = s.val x:=fun x e=>hargs x (by rw [e]; simp)
   have two : ∀ x y,args.toList = [x,y] -> s2.val x = s.val x /\ s2.val y = s.val y:=fun x y e=>⟨hargs x (by rw [e]; simp),hargs y (by rw [e]; simp)⟩
   have three : ∀ x y z,args.toList = [x,y,z] -> s2.val x = s.val x /\ s2.val y = s.val y /\ s2.val z = s.val z:=fun x y z e=>⟨hargs x (by rw [e]; simp),hargs y (by rw [e]; simp),hargs z (by rw [e]; simp)⟩
   cases b <;> simp only [opR]
   case len =>
    obtain ⟨hw,ho⟩:=ho rfl
    split
    ·rename_i x ha
     rw [one x ha]
     have hlen : lenA s2 (s.val x) = lenA s (s.val x):=by
      have hc:=hw.val x
      cases hvx : s.val x <;> simp only [lenA]
      case own id =>
       rw [hvx] at hc
       unfold AV.clo at hc
       rw [ho id hc]
     rw [hlen]
    ·rfl
   case max =>
    split
    ·rename_i x y ha
     rw [(two x y ha).1,(two x y ha).2]
    ·rename_i x y z ha
     rw [(three x y z ha).1,(three x y z ha).2.1,(three x y z ha).2.2]
    ·rfl
   case min =>
    split
    ·rename_i x y ha
     rw [(two x y ha).1,(two x y ha).2]
    ·rfl
   case append =>
    obtain ⟨hw,ho⟩:=ho rfl
    split
    ·rename_i x y ha
     rw [(two x y ha).1,(two x y ha).2]
     have hel : elemsOf s2 (s.val y) = elemsOf s (s.val y):=by
      have hc:=hw.val y
      cases hvx : s.val y <;> simp only [elemsOf]
      case own id =>
       rw [hvx] at hc
       unfold AV.clo at hc
       rw [ho id hc]
     rw [hel]
    ·rfl
 case index T x i=>simp only [opR,hv x (by simp [Op.operands]),hv i (by simp [Op.operands])]
 case convert S T x =>
  simp only [opR,hv x (by simp [Op.operands])]
  by_cases h20 : S <= 20
  ·have hn : ∀ {p : Prop},(20 < S /\ p) = False:=fun {p}=>propext ⟨fun h=>absurd h.1 (Nat.not_lt.2 h20),fun h=>h.elim⟩
   simp only [hn]
   cases s.val x <;> simp only
   all_goals
    split
    ·split
     ·rfl
     ·split
      ·split
       ·split <;> split <;> rfl
       ·rfl
      ·rfl
     ·rfl
    ·rfl
  ·obtain ⟨hw,ho⟩:=ho (by simp [memC,h20])
   have hc:=hw.val x
   cases hvx : s.val x <;> simp only [elemsOf]
   case own id =>
    rw [hvx] at hc
    unfold AV.clo at hc
    rw [ho id hc]
 case slice T x lo hi mx =>
  have hx:=hv x (by simp [Op.operands])
  have hlo : ∀ y,lo = some y -> s2.val y = s.val y:=fun y e=>hv y (by subst e; simp [Op.operands])
  have hhi : ∀ y,hi = some y -> s2.val y = s.val y:=fun y e=>hv y (by subst e; simp [Op.operands])
  cases lo <;> cases hi <;> simp only [opR,hx]
  ·rename_i y; rw [hhi y rfl]
  ·rename_i y; rw [hlo y rfl]
  ·rename_i y z; rw [hlo y rfl,hhi z rfl]
end
end Go.Ab
