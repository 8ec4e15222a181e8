/-
  Regions that draw their order: one evaluation in the order of the text serves every order.
  No condition: definitions and lemmas over any program.
-/
import Derived.Test.YtjjjalcmcifncaaGreatAb12
import Derived.Still
namespace Go.Ab
open Go.RowKit
mutual
def AV.fine (sh : Bool) (n : Nat) : AV -> Bool
 | .own k=>decide (k < n)
 | .sl _=>sh
 | .rp _=>sh
 | .ptr _ _ _=>false
 | .cel _ _ _ _=>false
 | .prt _ _ _ _=>false
 | .any=>false
 | .agg cs=>fineL sh n cs
 | .tup cs=>fineL sh n cs
 | .fn _ cs=>fineL sh n cs
 | .int _ _ | .bool _ | .str _ | .nil=>true
def fineL (sh : Bool) (n : Nat) : List AV -> Bool
 | []=>true
 | a :: as=>a.fine sh n && fineL sh n as
end
@[irreducible] def CallD (P : Program) (f : Nat) (args : List AV) (ro kn : Bool) (nid : Nat) (K : AV -> List AObj -> Prop) : Prop :=
 ∃ sh r os,PC P sh f args r os /\ (sh = true -> ro = true) /\ kn = true /\ (r.fine true os.length = true /\ os.all (fun o=>!o.box) = true) /\ nameV (r.shift nid) fun v=>K v os
def AV.bare : AV -> Bool
 | .any=>true
 | a=>a.plain
@[irreducible] def LoadR (P : Program) (T : TypeId) (e : List AV) (id idx off : Nat) (K : AV -> Prop) : Prop :=
 (∃ v,takeA P T ((e.drop off).map hideA) = some v /\ ((e.drop off).map hideA).all AV.bare = true /\ K v) \/ ∃ xs d,e[off]? = some (.sl xs) /\ P.underlying T = some d /\ isAggD d = false /\ (P.info? T).isSome = true /\ K (.cel id idx off xs)
theorem LoadR_cel {P : Program} {T : TypeId} {e : List AV} {id idx off : Nat} {K : AV -> Prop} {xs : List (List AV)} {d : TypeDesc} (h : e[off]? = some (.sl xs)) (h1 : P.underlying T = some d) (h2 : isAggD d = false) (h3 : (P.info? T).isSome = true) (hk : K (.cel id idx off xs)) : LoadR P T e id idx off K:=by
 unfold LoadR
 exact .inr ⟨xs,d,h,h1,h2,h3,hk⟩
def opR (P : Program) (op : Op) (nid : Nat) (s : St) (K : AV -> List AObj -> Prop) : Prop :=
 match op with
 | .move x=>K (s.val x) []
 | .assign x=>K (s.val x) []
 | .pick c a b =>
  match s.val c with
  | .bool t=>splitB t (K (s.val a) []) (K (s.val b) [])
  | _=>False
 | .alloc T =>
  match zeroA P T with
  | some cs=>(0 < cs.length /\ cs.all AV.one = true) /\ K (.ptr nid 0 0) [⟨.box,T,cs.length,[cs]⟩]
  | none=>False
 | .box T x =>
  match (s.val x).cells? with
  | some cs=>0 < cs.length /\ K (.ptr nid 0 0) [⟨.box,T,cs.length,[cs]⟩]
  | none=>False
 | .build T parts =>
  match buildA P T (parts.toList.map fun p=>(p.1,s.val p.2)) with
  | some cs=>K (.agg cs) []
  | none=>False
 | .load T x =>
  match s.val x with
  | .ptr id idx off =>
   match s.objs id with
   | some ob =>
    match ob.kind with
    | .box =>
     match ob.elems[idx]? with
     | some e =>
      match takeA P T (e.drop off) with
      | some v=>nameV v fun v=>K v []
      | none=>False
     | none=>False
    | .slc=>∃ e,ob.elems[idx]? = some e /\ LoadK P T (e.drop off) fun v=>nameV v fun v=>K v []
    | .deep _=>∃ e,ob.elems[idx]? = some e /\ LoadR P T e id idx off fun v=>nameV v fun v=>K v []
   | none=>False
  | .rp cs=>LoadK P T cs fun v=>nameV v fun v=>K v []
  | _=>False
 | .fieldAddr T x f =>
  match fieldOff P T f with
  | some (off,_) =>
   match moveP (s.val x) off with
   | some p=>K p []
   | none=>False
  | none=>False
 | .indexAddr T x i =>
  match elemOf? P T with
  | some e =>
   match sizeOf? P e with
   | some esz =>
    match intA (s.val i) with
    | some (_,n) =>
     match s.val x with
     | .own id =>
      match s.objs id with
      | some ob =>
       match ob.box with
       | true=>False
       | false=>ob.esz = esz /\ (0 <= n /\ n < ob.elems.length) /\ K (.ptr id n.toNat 0) []
      | none=>False
     | .sl xs=>0 <= n /\ ∃ y,xs[n.toNat]? = some y /\ y.length = esz /\ K (.rp y) []
     | _=>False
    | none=>False
   | none=>False
  | none=>False
 | .field T x f =>
  match fieldOff P T f with
  | some (off,t) =>
   match s.val x with
   | .agg cs =>
    match takeA P t (cs.drop off) with
    | some v=>nameV v fun v=>K v []
    | none=>False
   | _=>False
  | none=>False
 | .extract x i =>
  match s.val x with
  | .tup vs =>
   match vs[i]? with
   | some v=>K v []
   | none=>False
  | _=>False
 | .binOp op T x y _ =>
  match binA P op T (s.val x) (s.val y) with
  | some (none,v)=>nameV v fun v=>K v []
  | some (some c,v)=>c /\ nameV v fun v=>K v []
  | none=>False
 | .unOp op _ x =>
  match op with
  | .not =>
   match s.val x with
   | .bool b=>nameV (.bool (!b)) fun v=>K v []
   | _=>False
  | .neg =>
   match s.val x with
   | .int k n=>K (.int k (k.wrap (0 - n))) []
   | _=>False
  | _=>False
 | .nilCheck x =>
  match s.val x with
  | .ptr id a b=>K (.ptr id a b) []
  | .rp cs=>K (.rp cs) []
  | .fn f cs=>K (.fn f cs) []
  | _=>False
 | .makeFunc fn first captured =>
  match fn with
  | .func f =>
   match first.toList with
   | []=>K (.fn f (captured.toList.map s.val)) []
   | _=>False
  | _=>False
 | .call c =>
  match c.callee with
  | .value x =>
   match s.val x with
   | .fn f caps=>CallD P f ((c.args.toList.map s.val ++ caps).map (rf s)) ((c.args.toList.map s.val ++ caps).all AV.ro2) ((c.args.toList.map s.val ++ caps).all (known s)) nid K
   | _=>False
  | .builtin .len =>
   match c.args.toList with
   | [x] =>
    match c.argTypes.toList with
    | [T] =>
     match lenT P T (s.val x) with
     | true =>
      match lenA s (s.val x) with
      | some n=>K (.int .i64 (n : Int)) []
      | none=>False
     | false=>False
    | _=>False
   | _=>False
  | .builtin .max =>
   match c.args.toList with
   | [x,y] =>
    match s.val x with
    | .int k a =>
     match s.val y with
     | .int _ b=>K (.int k (if b > a then b else a)) []
     | _=>False
    | _=>False
   | [x,y,z] =>
    match s.val x with
    | .int k a =>
     match s.val y with
     | .int _ b =>
      match s.val z with
      | .int _ c=>K (.int k (if c > (if b > a then b else a) then c else (if b > a then b else a))) []
      | _=>False
     | _=>False
    | _=>False
   | _=>False
  | .builtin .min =>
   match c.args.toList with
   | [x,y] =>
    match s.val x with
    | .int k a =>
     match s.val y with
     | .int _ b=>K (.int k (if b < a then b else a)) []
     | _=>False
    | _=>False
   | _=>False
  | .builtin .append =>
   match c.args.toList with
   | [x,y] =>
    match c.argTypes.toList with
    | [T,T'] =>
     match elemOf? P T with
     | some e =>
      match P.info? e with
      | some i =>
       match elemsOf s (s.val y) with
       | some ys =>
        match s.val x with
        | .nil=>T' = T /\ ((0 < i.size /\ i.zero.isSome = true /\ (i.zero.map (·.cells.size)) = some i.size) /\ (∀ z ∈ ys,z.length = i.size) /\ ys.flatten.all AV.one = true /\
          (ys.length <= 70368744177664 /\ ys.length * i.bytes <= 140737488355328) /\ K (.own nid) [⟨.slc,e,i.size,ys⟩])
        | _=>False
       | none=>False
      | none=>False
     | none=>False
    | _=>False
   | _=>False
  | _=>False
 | .buildSlice T n parts =>
  match elemOf? P T with
  | some e =>
   match P.info? e with
   | some i =>
    match zeroA P e with
    | some z =>
     match n with
     | 0=>(0 < i.size /\ parts.toList = []) /\ K .nil []
     | n' + 1 =>
     match fillA (fun j=>some (j * i.size,i.size)) (List.replicate (n' + 1) z).flatten (parts.toList.map fun p=>(p.1,s.val p.2)) with
     | some r =>
      match ownsOf r with
      | []=>(0 < i.size /\ z.length = i.size /\ n' + 1 <= 100000 /\ (n' + 1) * i.size <= 16777216 /\ r.all AV.plain = true) /\ K (.own nid) [⟨.slc,e,i.size,chunk i.size (n' + 1) r⟩]
      | _=>False
     | none=>False
    | none=>False
   | none=>False
  | none=>False
 | .makeSlice T l c =>
  match elemOf? P T with
  | some e =>
   match P.info? e with
   | some i =>
    match zeroA P e with
    | some z =>
     match intA (s.val l) with
     | some (_,n) =>
      match intA (s.val c) with
      | some (_,m)=>(0 < i.size /\ z.length = i.size /\ z.all AV.plain = true) /\ (0 <= n /\ m = n /\ n <= 70368744177664 /\ (i.bytes : Int) * n <= 281474976710656) /\ K (.own nid) [⟨.slc,e,i.size,List.replicate n.toNat z⟩]
      | none=>False
     | none=>False
    | none=>False
   | none=>False
  | none=>False
 | .index T x i =>
  match P.underlying T with
  | some .string =>
   match s.val x with
   | .str l =>
    match intA (s.val i) with
    | some (_,n)=>(0 <= n /\ n < l.length) /\ K (.int .u8 ((l.getD n.toNat 0).toNat : Int)) []
    | none=>False
   | _=>False
  | _=>False
 | .convert S T x =>
  match P.underlying S with
  | some _ =>
   match P.underlying T with
   | some (.int k) =>
    match s.val x with
    | .int _ n=>K (.int k (k.wrap n)) []
    | _=>False
   | some .string =>
    match s.val x with
    | .str l=>K (.str l) []
    | y =>
     match P.underlying S with
     | some (.slice e) =>
      match P.underlying e with
      | some (.int .u8) =>
       match elemsOf s y with
       | some xs=>20 < S /\ ∃ l : List UInt8,xs = l.map (fun b=>[.int .u8 (b.toNat : Int)]) /\ K (.str l) []
       | none=>False
      | _=>False
     | _=>False
   | _=>False
  | none=>False
 | .slice T x lo hi mx =>
  match mx with
  | none =>
   match s.val x with
   | .str l =>
    match P.underlying T with
    | some .string =>
     match lo with
     | none =>
      match hi with
      | none=>False
      | some h =>
       match intA (s.val h) with
       | some (_,n)=>((0 : Int) <= 0 /\ 0 <= n /\ n <= l.length) /\ K (.str ((l.take n.toNat).drop 0)) []
       | none=>False
     | some y =>
      match intA (s.val y) with
      | some (_,m) =>
       match hi with
       | none=>(0 <= m /\ m <= (l.length : Int) /\ (l.length : Int) <= l.length) /\ K (.str ((l.take (l.length : Int).toNat).drop m.toNat)) []
       | some h =>
        match intA (s.val h) with
        | some (_,n)=>(0 <= m /\ m <= n /\ n <= l.length) /\ K (.str ((l.take n.toNat).drop m.toNat)) []
        | none=>False
      | none=>False
    | _=>False
   | .sl xs =>
    match elemOf? P T with
    | some e =>
     match sizeOf? P e with
     | some esz =>
      match lo with
      | none =>
       match hi with
       | none=>False
       | some h =>
        match intA (s.val h) with
        | some (_,n)=>((0 : Int) <= 0 /\ 0 <= n /\ n <= xs.length) /\ (∀ z ∈ xs,z.length = esz) /\ K (.sl ((xs.take n.toNat).drop 0)) []
        | none=>False
      | some y =>
       match intA (s.val y) with
       | some (_,m) =>
        match hi with
        | none=>(0 <= m /\ m <= (xs.length : Int) /\ (xs.length : Int) <= xs.length) /\ (∀ z ∈ xs,z.length = esz) /\ K (.sl ((xs.take (xs.length : Int).toNat).drop m.toNat)) []
        | some h =>
         match intA (s.val h) with
         | some (_,n)=>(0 <= m /\ m <= n /\ n <= xs.length) /\ (∀ z ∈ xs,z.length = esz) /\ K (.sl ((xs.take n.toNat).drop m.toNat)) []
         | none=>False
       | none=>False
     | none=>False
    | none=>False
   | _=>False
  | some _=>False
 | _=>False
theorem nameV_of {v : AV} {K : AV -> Prop} (h : K v) : nameV v K:=by
 have nb : ∀ {b : Bool} {K : Bool -> Prop},K b -> nameB b K:=fun {b K} h=>nameB_intro fun x hx=>by cases hx; exact h
 unfold nameV
 split
 ·exact nb h
 ·split
  ·split
   ·split
    ·exact nb (nb h)
    ·exact nb h
   ·split
    ·exact nb h
    ·exact h
  ·exact h
 ·exact h
theorem splitB_mono {b : Bool} {A B A' B' : Prop} (h : splitB b A B) (ha : A -> A') (hb : B -> B') : splitB b A' B':=splitB_intro (fun e=>ha ((splitB_elim h).1 e)) (fun e=>hb ((splitB_elim h).2 e))
theorem putN_of {s : St} {d : Option Nat} {v : AV} {K : St -> Prop} (h : s.putK d v K) : s.putN d v K:=nameV_of (K:=fun v=>s.putK d v K) h
theorem plain_rf0 {s : St} {a : AV} (h : a.plain = true) : rf0 s a = a:=by cases a <;> simp_all [AV.plain,rf0]
def laidS (nid : Nat) (d : Option Nat) (v : AV) (os : List AObj) (s : St) : St:=St.put { s with objs:=addObjs nid os s.objs } d v
def GiveOk (nid : Nat) (d : Option Nat) (os : List AObj) (s : St) : Prop:=s.fits d = true /\ freeFrom nid os s.objs = true /\ os.length <= 16
theorem putK_of {s : St} {d : Option Nat} {v : AV} {K : St -> Prop} (h1 : s.fits d = true) (h2 : K (s.put d v)) : s.putK d v K:=by
 unfold St.putK
 rw [fitsZ_eq,h1]
 simp only [force_eq,putS_eq]
 exact h2
theorem fits_objs (s : St) (objs : Nat -> Option AObj) (d : Option Nat) : St.fits { s with objs:=objs } d = s.fits d:=by cases d <;> rfl
theorem elems_notDeep {s : St} {y : AV} {ys : List (List AV)} (h : elemsOf s y = some ys) : deepId s y = none:=by
 unfold deepId isDeep
 cases y <;> simp only [elemsOf] at h ⊢
 rename_i j
 cases ho : s.objs j with
 | none=>rfl
 | some o =>
  simp only [ho] at h ⊢
  cases hk : o.kind <;> simp [hk] at h ⊢
theorem opR_opA {P : Program} {o : Oper} {nid : Nat} {s : St} {K : St -> Prop} (h : opR P o.op nid s fun v os=>GiveOk nid o.dst os s /\ K (laidS nid o.dst v os s)) : opA P o nid s K:=by
 obtain ⟨dst,op,type,pos,after,guard⟩:=o
 have give : ∀ {v : AV},(GiveOk nid dst [] s /\ K (laidS nid dst v [] s)) -> s.putK dst v K:=fun {v} h=>putK_of h.1.1 (by simpa [laidS,addObjs] using h.2)
 have giveN : ∀ {v : AV},(nameV v fun v=>GiveOk nid dst [] s /\ K (laidS nid dst v [] s)) -> s.putN dst v K:=fun {v} h=>putN_of (give (nameV_elim (K:=fun v=>GiveOk nid dst [] s /\ K (laidS nid dst v [] s)) h))
 have give1 : ∀ {v : AV} {ob : AObj},(GiveOk nid dst [ob] s /\ K (laidS nid dst v [ob] s)) -> s.objs nid = none /\ St.putK { s with objs:=fun i=>if i = nid then some ob else s.objs i } dst v K:=by
  intro v ob h
  refine ⟨?_,putK_of (by rw [fits_objs]; exact h.1.1) (by simpa [laidS,addObjs] using h.2)⟩
  have:=h.1.2.1
  simp only [freeFrom] at this
  cases hx : s.objs nid with
  | none=>rfl
  | some _=>simp [hx] at this
 cases op <;> simp only [opR] at h <;> simp only [opA] <;> try (exact h.elim)
 case move x=>exact give h
 case assign x=>exact give h
 case pick c a b =>
  split at h
  ·rename_i hq; try simp only [hq]; exact splitB_mono h give give
  ·exact h.elim
 case alloc T =>
  split at h
  ·rename_i hq; try simp only [hq]; obtain ⟨h1,h2⟩:=h
   obtain ⟨h3,h4⟩:=give1 h2
   rw [h3]
   simp only [boxK_eq]
   exact ⟨h1,h4⟩
  ·exact h.elim
 case box T x =>
  split at h
  ·rename_i hq; try simp only [hq]; obtain ⟨h1,h2⟩:=h
   obtain ⟨h3,h4⟩:=give1 h2
   rw [h3]
   simp only [boxK_eq]
   exact ⟨h1,h4⟩
  ·exact h.elim
 case build T parts =>
  split at h
  ·rename_i hq; try simp only [hq]; exact give h
  ·exact h.elim
 case buildSlice T n parts =>
  split at h
  ·rename_i e he
   simp only [he]
   split at h
   ·rename_i i hi
    simp only [hi]
    split at h
    ·rename_i z hz
     simp only [hz]
     cases n with
     | zero=>exact ⟨h.1,give h.2⟩
     | succ n =>
     simp only at h ⊢
     split at h
     ·rename_i r hfill
      simp only [hfill]
      split at h
      ·rename_i hown
       obtain ⟨⟨h1,h1b,h1c,h1d,h1e⟩,h2⟩:=h
       obtain ⟨h3,h4⟩:=give1 h2
       have hr : (frzL s r) = (s,r):=by
        unfold frzL
        rw [hown]
        simp only [frzIds,Prod.mk.injEq,true_and]
        rw [List.all_eq_true] at h1e
        exact (List.map_congr_left fun a ha=>plain_rf0 (h1e a ha)).trans (List.map_id' r)
       rw [h3]
       rw [hown]
       simp only [forceS_eq,hr,anyDeep]
       exact ⟨⟨h1,h1b,h1c,h1d,h1e,h3⟩,h4⟩
      ·exact h.elim
     ·exact h.elim
    ·exact h.elim
   ·exact h.elim
  ·exact h.elim
 case makeSlice T l c =>
  split at h
  ·rename_i hq; try simp only [hq]; split at h
   ·rename_i hq; try simp only [hq]; split at h
    ·rename_i hq; try simp only [hq]; split at h
     ·rename_i hq; try simp only [hq]; split at h
      ·rename_i hq; try simp only [hq]; obtain ⟨h1,h1b,h2⟩:=h
       obtain ⟨h3,h4⟩:=give1 h2
       rw [h3]
       simp only [forceS_eq]
       exact ⟨h1,h1b,h4⟩
      ·exact h.elim
     ·exact h.elim
    ·exact h.elim
   ·exact h.elim
  ·exact h.elim
 case load T x =>
  split at h
  ·rename_i id idx off hx
   simp only [hx]
   split at h
   ·rename_i ob ho
    simp only [ho]
    split at h
    ·rename_i hb
     simp only [hb]
     split at h
     ·rename_i e he
      simp only [he]
      split at h
      ·rename_i v hv; simp only [hv]; exact giveN h
      ·exact h.elim
     ·exact h.elim
    ·rename_i hb
     simp only [hb]
     obtain ⟨e,he,h⟩:=h
     unfold LoadK at h ⊢
     obtain ⟨v,hv,hp,h⟩:=h
     exact ⟨e,he,v,hv,hp,giveN h⟩
    ·rename_i sh hb
     simp only [hb]
     obtain ⟨e,he,h⟩:=h
     unfold LoadR at h
     unfold LoadD
     rcases h with ⟨v,hv,_,h⟩ | ⟨xs,d,q1,q2,q3,q4,h⟩
     ·exact ⟨e,he,.inl ⟨v,hv,giveN h⟩⟩
     ·exact ⟨e,he,.inr ⟨xs,d,q1,q2,q3,q4,giveN h⟩⟩
   ·exact h.elim
  ·rename_i cs hx
   simp only [hx]
   unfold LoadK at h
   obtain ⟨v,hv,hp,h⟩:=h
   simp only [hv]
   exact giveN h
  ·exact h.elim
 case fieldAddr T x f =>
  split at h
  ·rename_i hq; try simp only [hq]; split at h
   ·rename_i hq; try simp only [hq]; exact give h
   ·exact h.elim
  ·exact h.elim
 case indexAddr T x i =>
  split at h
  ·rename_i e he
   simp only [he]
   split at h
   ·rename_i esz hz
    simp only [hz]
    split at h
    ·rename_i k n hi
     simp only [hi]
     split at h
     ·rename_i id hx
      simp only [hx]
      split at h
      ·rename_i ob ho
       simp only [ho]
       split at h
       ·exact h.elim
       ·rename_i hb; simp only [hb]; exact ⟨h.1,h.2.1,give h.2.2⟩
      ·exact h.elim
     ·rename_i xs hx
      simp only [hx]
      obtain ⟨h0,y,h1,h2,h3⟩:=h
      exact ⟨h0,y,h1,h2,give h3⟩
     ·exact h.elim
    ·exact h.elim
   ·exact h.elim
  ·exact h.elim
 case field T x f =>
  split at h
  ·rename_i hq; try simp only [hq]
   split at h
   ·rename_i hq; try simp only [hq]
    split at h
    ·rename_i hq; try simp only [hq]
     exact giveN h
    ·exact h.elim
   ·exact h.elim
  ·exact h.elim
 case extract x i =>
  split at h
  ·rename_i hq; try simp only [hq]; split at h
   ·rename_i hq; try simp only [hq]; exact give h
   ·exact h.elim
  ·exact h.elim
 case binOp op T x y t =>
  cases hn : nilC op y with
  | true =>
   exfalso
   obtain ⟨rfl,rfl⟩:=nilC_eq hn
   have hv : s.val (.const (.slice none 0 0)) = .nil:=rfl
   rw [hv] at h
   have hb : binA P .eql T (s.val x) .nil = none:=by cases s.val x <;> rfl
   rw [hb] at h
   exact h
  | false =>
  simp only
  split at h
  ·rename_i hq; try simp only [hq]; exact giveN h
  ·rename_i hq; try simp only [hq]; exact ⟨h.1,giveN h.2⟩
  ·exact h.elim
 case unOp op T x =>
  cases op <;> simp only at h ⊢ <;> try (exact h.elim)
  case not =>
   split at h
   ·rename_i hq; try simp only [hq]; exact giveN h
   ·exact h.elim
  case neg =>
   split at h
   ·rename_i hq; try simp only [hq]; exact give h
   ·exact h.elim
 case nilCheck x =>
  split at h
  ·rename_i hq; try simp only [hq]; exact give h
  ·rename_i hq; try simp only [hq]; exact give h
  ·rename_i hq; try simp only [hq]; exact give h
  ·exact h.elim
 case makeFunc fn first captured =>
  cases fn <;> simp only at h ⊢ <;> try (exact h.elim)
  case func f =>
   split at h
   ·rename_i hq; try simp only [hq]; exact give h
   ·exact h.elim
 case call c =>
  obtain ⟨callee,args,tys⟩:=c
  cases callee <;> simp only at h ⊢ <;> try (exact h.elim)
  case value x =>
   split at h
   ·rename_i hq; try simp only [hq]; unfold CallD at h
    unfold CallA
    obtain ⟨sh,r,os,h1,h2,h3,_,h4⟩:=h
    have h5:=nameV_elim (K:=fun v=>GiveOk nid dst os s /\ K (laidS nid dst v os s)) h4
    exact .inr ⟨sh,r,os,h1,h2,⟨h5.1.2.1,h5.1.2.2⟩,h3,putN_of (putK_of (by rw [fits_objs]; exact h5.1.1) h5.2)⟩
   ·exact h.elim
  case builtin b =>
   cases b <;> simp only at h ⊢ <;> try (exact h.elim)
   case len =>
    split at h
    ·rename_i hq; try simp only [hq]; split at h
     ·rename_i hq; try simp only [hq]; split at h
      ·rename_i hq; try simp only [hq]; split at h
       ·rename_i hq; try simp only [hq]; exact give h
       ·exact h.elim
      ·exact h.elim
     ·exact h.elim
    ·exact h.elim
   case max =>
    split at h
    ·rename_i x y ha
     simp only [ha]
     split at h
     ·rename_i k a hx
      simp only [hx]
      split at h
      ·rename_i k' b hy; simp only [hy]; exact give h
      ·exact h.elim
     ·exact h.elim
    ·rename_i x y z ha
     simp only [ha]
     split at h
     ·rename_i k a hx
      simp only [hx]
      split at h
      ·rename_i k' b hy
       simp only [hy]
       split at h
       ·rename_i k'' c hz; simp only [hz]; exact give h
       ·exact h.elim
      ·exact h.elim
     ·exact h.elim
    ·exact h.elim
   case min =>
    split at h
    ·rename_i hq; try simp only [hq]; split at h
     ·rename_i hq; try simp only [hq]; split at h
      ·rename_i hq; try simp only [hq]; exact give h
      ·exact h.elim
     ·exact h.elim
    ·exact h.elim
   case append =>
    split at h
    ·rename_i x y ha
     simp only [ha]
     split at h
     ·rename_i T T' hT
      simp only [hT]
      split at h
      ·rename_i e he
       split at h
       ·rename_i i hi
        split at h
        ·rename_i ys hy
         split at h
         ·rename_i hx
          obtain ⟨h0,h1,h2,h3,h4,h5⟩:=h
          obtain ⟨h6,h7⟩:=give1 h5
          simp only [hx]
          refine ⟨h0,?_⟩
          unfold appA
          simp only [he,hi,elems_notDeep hy,hy,h6,forceS_eq]
          exact ⟨h1,h2,h3,h4,h7⟩
         ·exact h.elim
        ·exact h.elim
       ·exact h.elim
      ·exact h.elim
     ·exact h.elim
    ·exact h.elim
 case index T x i =>
  split at h
  ·rename_i hq; try simp only [hq]; split at h
   ·rename_i hq; try simp only [hq]; split at h
    ·rename_i hq; try simp only [hq]; exact ⟨h.1,give h.2⟩
    ·exact h.elim
   ·exact h.elim
  ·exact h.elim
 case convert S T x =>
  split at h
  ·rename_i hq0; try simp only [hq0]; split at h
   ·rename_i hq; try simp only [hq]; split at h
    ·rename_i hq; try simp only [hq]; exact give h
    ·exact h.elim
   ·rename_i hq; try simp only [hq]; split at h
    ·rename_i hq; try simp only [hq]; exact give h
    ·rename_i hnx
     split at h
     ·rename_i e hS
      rw [hS] at hq0
      cases hq0
      split at h
      ·rename_i he
       split at h
       ·rename_i xs hx
        simp only [he,hx]
        obtain ⟨_,l,hl,h5⟩:=h
        exact ⟨l,hl,give h5⟩
       ·exact h.elim
      ·exact h.elim
     ·exact h.elim
   ·exact h.elim
  ·exact h.elim
 case slice T x lo hi mx =>
  cases mx with
  | some _=>exact h.elim
  | none =>
   simp only at h ⊢
   split at h
   ·rename_i l hx
    simp only [hx]
    split at h
    ·rename_i hT
     cases lo with
     | none =>
      simp only at h ⊢
      cases hi with
      | none=>exact h.elim
      | some hh =>
       simp only at h ⊢
       split at h
       ·rename_i k n hn
        simp only [hn]
        unfold sliceA
        simp only [hT]
        exact ⟨h.1,give h.2⟩
       ·exact h.elim
     | some y =>
      simp only at h ⊢
      split at h
      ·rename_i k m hm
       simp only [hm]
       cases hi with
       | none =>
        simp only at h ⊢
        simp only [lenA]
        unfold sliceA
        simp only [hT]
        exact ⟨h.1,give h.2⟩
       | some hh =>
        simp only at h ⊢
        split at h
        ·rename_i k' n hn
         simp only [hn]
         unfold sliceA
         simp only [hT]
         exact ⟨h.1,give h.2⟩
        ·exact h.elim
      ·exact h.elim
    ·exact h.elim
   ·rename_i xs hx
    simp only [hx]
    split at h
    ·rename_i e he
     split at h
     ·rename_i esz hz
      cases lo with
      | none =>
       simp only at h ⊢
       cases hi with
       | none=>exact h.elim
       | some hh =>
        simp only at h ⊢
        split at h
        ·rename_i k n hn
         simp only [hn]
         unfold sliceA
         simp only [he,hz]
         exact ⟨h.1,h.2.1,give h.2.2⟩
        ·exact h.elim
      | some y =>
       simp only at h ⊢
       split at h
       ·rename_i k m hm
        simp only [hm]
        cases hi with
        | none =>
         simp only at h ⊢
         simp only [lenA]
         unfold sliceA
         simp only [he,hz]
         exact ⟨h.1,h.2.1,give h.2.2⟩
        | some hh =>
         simp only at h ⊢
         split at h
         ·rename_i k' n hn
          simp only [hn]
          unfold sliceA
          simp only [he,hz]
          exact ⟨h.1,h.2.1,give h.2.2⟩
         ·exact h.elim
       ·exact h.elim
     ·exact h.elim
    ·exact h.elim
   ·exact h.elim
end Go.Ab
