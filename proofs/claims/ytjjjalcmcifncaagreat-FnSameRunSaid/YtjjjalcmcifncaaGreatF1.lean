/- Part 1 of one proof: lemmas and contracts, laid one behind the other. No condition. -/
import Derived.Test.YtjjjalcmcifncaaGreatM4
import Derived.Test.YtjjjalcmcifncaaGreatProg
import Derived.KernelRfl
import Derived.Test.YtjjjalcmcifncaaGreatAb31
namespace Go.Proofs.YtjjjalcmcifncaaGreat
open Go.Ab
set_option linter.unusedSimpArgs false
set_option maxRecDepth 20000
set_option maxHeartbeats 4000000
set_option linter.unusedVariables false
def inB (a n b : Int) : Bool:=decide (a <= n) && decide (n <= b)
theorem c_spec_l1In (n a b : Int) : PC Tryz.prog false 38 [.int .i64 n,.int .i64 a,.int .i64 b] (.bool (inB a n b)) []:=by
 refine pc_at Tryz.func38 rfl (by kernel_rfl) 15 [.tmp 6] rfl rfl ?_
 repeat' (conv=>whnf); first
 | (refine nameB_dec (fun h=>?_) (fun h=>?_) <;> try simp only [lensB] at h)
 | refine splitB_true ?_
 | refine splitB_false ?_
 | fail
 all_goals
  conv=>whnf
  refine OutA_plain rfl rfl ?_
  first
  | rfl
  | (simp_all [inB,named,AV.sub,AV.sub.subL]; done)
  | (simp_all [inB,named,AV.sub,AV.sub.subL] <;> omega)
def u8C (x : Int) : List AV:=[.int .u8 x]
def okU (x : Int) : Prop:=0 <= x /\ x <= 255
theorem open_u8 {t : TypeId} (u : Tryz.prog.underlying t = some (.int .u8)) : ∀ n cs,Sh Tryz.prog n t cs -> ∃ x : Int,cs = u8C x /\ okU x:=by
 intro n cs h
 cases n with
 | zero=>unfold Sh at h; exact h.elim
 | succ n =>
  unfold Sh at h
  rw [u] at h
  obtain ⟨x,rfl,hx⟩:=h
  refine ⟨x,rfl,?_⟩
  simp only [Lit.wf,baT,decide_eq_true_eq] at hx
  exact hx
def vA (code : List Int) (n : Nat) : Int:=match code[n]? with | some x=>x | none=>((n : Int) * 7 + code.length).tmod 256
theorem vA_in {code : List Int} {n : Nat} (h : okL okU code) : 0 <= vA code n /\ vA code n <= 255:=by
 unfold vA
 split
 ·rename_i x hx; exact h.2 x (mgE hx)
 ·rw [Int.tmod_eq_emod_of_nonneg (by omega)]; omega
theorem c_laws_vBig (code : List Int) : PC Tryz.prog false 5 [.sl (code.map u8C)] (.bool (decide ((code.length : Int) > 65536))) []:=by
 refine pc_at Tryz.func5 rfl (by kernel_rfl) 6 [.tmp 2] rfl rfl ?_
 repeat' (conv=>whnf); first
 | (refine nameB_dec (fun h=>?_) (fun h=>?_) <;> try simp only [lensB] at h)
 | fail
 all_goals
  conv=>whnf
  refine OutA_plain rfl rfl ?_
  first
  | rfl
  | (simp_all [named,AV.sub,AV.sub.subL]; done)
  | (simp_all [named,AV.sub,AV.sub.subL] <;> omega)
theorem c_laws_vAt (code : List Int) (n : Nat) (hu : okL okU code) (hn : n <= 1000) (hc : code.length <= 65536) : PC Tryz.prog false 6 [.sl (code.map u8C),.int .i64 (n : Nat)] (.int .i64 (vA code n)) []:=by
 refine pc_at Tryz.func6 rfl (by kernel_rfl) 20 [.tmp 4] rfl rfl ?_
 repeat' (conv=>whnf); first
 | (refine ix_as (f:=u8C) (m:=n) rfl (by omega) (fun y hy=>?_))
 | (refine nameB_dec (fun h=>?_) (fun h=>?_) <;> try simp only [lensB] at h)
 | refine splitB_true ?_
 | refine splitB_false ?_
 | refine sdA (by first | exact nbT rfl | exact rfl | omega | fail) ?_
 | fail
 all_goals
  conv=>whnf
  refine OutA_plain rfl rfl ?_
  first
  | (have hr:=hu.2 y (mgE hy); refine congrArg (AV.int .i64) ?_; show IntKind.i64.wrap y = vA code n; rw [i64_wrap (by have:=hr.1; omega) (by have:=hr.2; omega)]; unfold vA; rw [hy])
  | (refine congrArg (AV.int .i64) ?_; show (IntKind.i64.wrap (IntKind.i64.wrap ((n : Int) * 7) + ((code.map u8C).length : Nat))).tmod 256 = vA code n; unfold vA; rw [List.getElem?_eq_none (by omega),List.length_map,i64_wrap (e:=(n : Int) * 7) (by omega) (by omega),i64_wrap (by omega) (by omega)])
structure WriteT where
 Key : List UInt8
 Val : List UInt8
 Gone : Bool
deriving DecidableEq
def WriteT.cells (x : WriteT) : List AV:=[.str x.Key,.str x.Val,.bool x.Gone]
def WriteT.ok (x : WriteT) : Prop:=okS x.Key /\ okS x.Val /\ okT x.Gone
def WriteT.w (x : WriteT) : Nat:=x.Key.length + x.Val.length
theorem WriteT.same {x y : WriteT} (hKey : x.Key = y.Key) (hVal : x.Val = y.Val) (hGone : x.Gone = y.Gone) : x = y:=by cases x; cases y; simp_all
def WriteT.shp : List Shp:=[.leaf,.leaf,.leaf]
def WriteT.cnt (x : WriteT) : Nat:=1 + 1 + 1
theorem WriteT.cnt_w (x : WriteT) : WriteT.cnt x <= 100 * (1 + WriteT.w x):=by
 simp only [WriteT.cnt,WriteT.w] at *
 omega
structure RecT where
 Kind : Int
 Txn : Int
 Time : Int
 Lead : Int
 Reads : List (List UInt8)
 Writes : List WriteT
 Yes : Bool
deriving DecidableEq
def RecT.cells (x : RecT) : List AV:=[.int .i64 x.Kind,.int .i64 x.Txn,.int .i64 x.Time,.int .i64 x.Lead,.sl (x.Reads.map strC),.sl (x.Writes.map WriteT.cells),.bool x.Yes]
def RecT.ok (x : RecT) : Prop:=okT x.Kind /\ okT x.Txn /\ okT x.Time /\ okT x.Lead /\ (okL okS) x.Reads /\ (okL WriteT.ok) x.Writes /\ okT x.Yes
def RecT.w (x : RecT) : Nat:=wL List.length x.Reads + wL WriteT.w x.Writes
theorem RecT.same {x y : RecT} (hKind : x.Kind = y.Kind) (hTxn : x.Txn = y.Txn) (hTime : x.Time = y.Time) (hLead : x.Lead = y.Lead) (hReads : x.Reads = y.Reads) (hWrites : x.Writes = y.Writes) (hYes : x.Yes = y.Yes) : x = y:=by cases x; cases y; simp_all
def RecT.shp : List Shp:=[.leaf,.leaf,.leaf,.leaf,.sl 9 1 [.leaf],.sl 131 3 WriteT.shp,.leaf]
def RecT.cnt (x : RecT) : Nat:=1 + 1 + 1 + 1 + cntL cnt1 x.Reads + cntL WriteT.cnt x.Writes + 1
theorem RecT.cnt_w (x : RecT) : RecT.cnt x <= 100 * (1 + RecT.w x):=by
 have h0:=cntL_w100 (cnt:=cnt1) (w:=List.length) (fun _=>one_w100) x.Reads
 have h1:=cntL_w100 (cnt:=WriteT.cnt) (w:=WriteT.w) (fun y=>WriteT.cnt_w y) x.Writes
 simp only [RecT.cnt,RecT.w] at *
 omega
structure EntryT where
 Term : Int
 Rec : RecT
deriving DecidableEq
def EntryT.cells (x : EntryT) : List AV:=[.int .i64 x.Term,.int .i64 x.Rec.Kind,.int .i64 x.Rec.Txn,.int .i64 x.Rec.Time,.int .i64 x.Rec.Lead,.sl (x.Rec.Reads.map strC),.sl (x.Rec.Writes.map WriteT.cells),.bool x.Rec.Yes]
def EntryT.ok (x : EntryT) : Prop:=okT x.Term /\ RecT.ok x.Rec
def EntryT.w (x : EntryT) : Nat:=RecT.w x.Rec
theorem EntryT.same {x y : EntryT} (hTerm : x.Term = y.Term) (hRec : x.Rec = y.Rec) : x = y:=by cases x; cases y; simp_all
def EntryT.shp : List Shp:=[.leaf,.leaf,.leaf,.leaf,.leaf,.sl 9 1 [.leaf],.sl 131 3 WriteT.shp,.leaf]
def EntryT.cnt (x : EntryT) : Nat:=1 + 1 + 1 + 1 + 1 + cntL cnt1 x.Rec.Reads + cntL WriteT.cnt x.Rec.Writes + 1
theorem EntryT.cnt_w (x : EntryT) : EntryT.cnt x <= 100 * (1 + EntryT.w x):=by
 have h0:=cntL_w100 (cnt:=cnt1) (w:=List.length) (fun _=>one_w100) x.Rec.Reads
 have h1:=cntL_w100 (cnt:=WriteT.cnt) (w:=WriteT.w) (fun y=>WriteT.cnt_w y) x.Rec.Writes
 simp only [EntryT.cnt,RecT.cnt,EntryT.w,RecT.w] at *
 omega
structure ReplicaT where
 Up : Bool
 Log : List EntryT
 Sure : Int
deriving DecidableEq
def ReplicaT.cells (x : ReplicaT) : List AV:=[.bool x.Up,.sl (x.Log.map EntryT.cells),.int .i64 x.Sure]
def ReplicaT.ok (x : ReplicaT) : Prop:=okT x.Up /\ (okL EntryT.ok) x.Log /\ okT x.Sure
def ReplicaT.w (x : ReplicaT) : Nat:=wL EntryT.w x.Log
theorem ReplicaT.same {x y : ReplicaT} (hUp : x.Up = y.Up) (hLog : x.Log = y.Log) (hSure : x.Sure = y.Sure) : x = y:=by cases x; cases y; simp_all
def ReplicaT.shp : List Shp:=[.leaf,.sl 50 8 EntryT.shp,.leaf]
def ReplicaT.cnt (x : ReplicaT) : Nat:=1 + cntL EntryT.cnt x.Log + 1
theorem ReplicaT.cnt_w (x : ReplicaT) : ReplicaT.cnt x <= 100 * (1 + ReplicaT.w x):=by
 have h0:=cntL_w100 (cnt:=EntryT.cnt) (w:=EntryT.w) (fun y=>EntryT.cnt_w y) x.Log
 simp only [ReplicaT.cnt,ReplicaT.w] at *
 omega
structure GroupT where
 Reps : List ReplicaT
 Term : Int
 Lead : Int
deriving DecidableEq
def GroupT.cells (x : GroupT) : List AV:=[.sl (x.Reps.map ReplicaT.cells),.int .i64 x.Term,.int .i64 x.Lead]
def GroupT.ok (x : GroupT) : Prop:=(okL ReplicaT.ok) x.Reps /\ okT x.Term /\ okT x.Lead
def GroupT.w (x : GroupT) : Nat:=wL ReplicaT.w x.Reps
theorem GroupT.same {x y : GroupT} (hReps : x.Reps = y.Reps) (hTerm : x.Term = y.Term) (hLead : x.Lead = y.Lead) : x = y:=by cases x; cases y; simp_all
def GroupT.shp : List Shp:=[.sl 60 3 ReplicaT.shp,.leaf,.leaf]
def GroupT.cnt (x : GroupT) : Nat:=cntL ReplicaT.cnt x.Reps + 1 + 1
theorem GroupT.cnt_w (x : GroupT) : GroupT.cnt x <= 100 * (1 + GroupT.w x):=by
 have h0:=cntL_w100 (cnt:=ReplicaT.cnt) (w:=ReplicaT.w) (fun y=>ReplicaT.cnt_w y) x.Reps
 simp only [GroupT.cnt,GroupT.w] at *
 omega
structure GroupActT where
 Kind : Int
 Rep : Int
 Rec : RecT
deriving DecidableEq
def GroupActT.cells (x : GroupActT) : List AV:=[.int .i64 x.Kind,.int .i64 x.Rep,.int .i64 x.Rec.Kind,.int .i64 x.Rec.Txn,.int .i64 x.Rec.Time,.int .i64 x.Rec.Lead,.sl (x.Rec.Reads.map strC),.sl (x.Rec.Writes.map WriteT.cells),.bool x.Rec.Yes]
def GroupActT.ok (x : GroupActT) : Prop:=okT x.Kind /\ okT x.Rep /\ RecT.ok x.Rec
def GroupActT.w (x : GroupActT) : Nat:=RecT.w x.Rec
theorem GroupActT.same {x y : GroupActT} (hKind : x.Kind = y.Kind) (hRep : x.Rep = y.Rep) (hRec : x.Rec = y.Rec) : x = y:=by cases x; cases y; simp_all
def GroupActT.shp : List Shp:=[.leaf,.leaf,.leaf,.leaf,.leaf,.leaf,.sl 9 1 [.leaf],.sl 131 3 WriteT.shp,.leaf]
def GroupActT.cnt (x : GroupActT) : Nat:=1 + 1 + 1 + 1 + 1 + 1 + cntL cnt1 x.Rec.Reads + cntL WriteT.cnt x.Rec.Writes + 1
theorem GroupActT.cnt_w (x : GroupActT) : GroupActT.cnt x <= 100 * (1 + GroupActT.w x):=by
 have h0:=cntL_w100 (cnt:=cnt1) (w:=List.length) (fun _=>one_w100) x.Rec.Reads
 have h1:=cntL_w100 (cnt:=WriteT.cnt) (w:=WriteT.w) (fun y=>WriteT.cnt_w y) x.Rec.Writes
 simp only [GroupActT.cnt,RecT.cnt,GroupActT.w,RecT.w] at *
 omega
structure DiskT where
 Kept : List UInt8
 Loose : List UInt8
deriving DecidableEq
def DiskT.cells (x : DiskT) : List AV:=[.str x.Kept,.str x.Loose]
def DiskT.ok (x : DiskT) : Prop:=okS x.Kept /\ okS x.Loose
def DiskT.w (x : DiskT) : Nat:=x.Kept.length + x.Loose.length
theorem DiskT.same {x y : DiskT} (hKept : x.Kept = y.Kept) (hLoose : x.Loose = y.Loose) : x = y:=by cases x; cases y; simp_all
def DiskT.shp : List Shp:=[.leaf,.leaf]
def DiskT.cnt (x : DiskT) : Nat:=1 + 1
theorem DiskT.cnt_w (x : DiskT) : DiskT.cnt x <= 100 * (1 + DiskT.w x):=by
 simp only [DiskT.cnt,DiskT.w] at *
 omega
structure HouseT where
 Group : GroupT
 Disks : List DiskT
deriving DecidableEq
def HouseT.cells (x : HouseT) : List AV:=[.sl (x.Group.Reps.map ReplicaT.cells),.int .i64 x.Group.Term,.int .i64 x.Group.Lead,.sl (x.Disks.map DiskT.cells)]
def HouseT.ok (x : HouseT) : Prop:=GroupT.ok x.Group /\ (okL DiskT.ok) x.Disks
def HouseT.w (x : HouseT) : Nat:=GroupT.w x.Group + wL DiskT.w x.Disks
theorem HouseT.same {x y : HouseT} (hGroup : x.Group = y.Group) (hDisks : x.Disks = y.Disks) : x = y:=by cases x; cases y; simp_all
def HouseT.shp : List Shp:=[.sl 60 3 ReplicaT.shp,.leaf,.leaf,.sl 67 2 DiskT.shp]
def HouseT.cnt (x : HouseT) : Nat:=cntL ReplicaT.cnt x.Group.Reps + 1 + 1 + cntL DiskT.cnt x.Disks
theorem HouseT.cnt_w (x : HouseT) : HouseT.cnt x <= 100 * (1 + HouseT.w x):=by
 have h0:=cntL_w100 (cnt:=ReplicaT.cnt) (w:=ReplicaT.w) (fun y=>ReplicaT.cnt_w y) x.Group.Reps
 have h1:=cntL_w100 (cnt:=DiskT.cnt) (w:=DiskT.w) (fun y=>DiskT.cnt_w y) x.Disks
 simp only [GroupT.cnt,HouseT.cnt,GroupT.w,HouseT.w] at *
 omega
structure HouseActT where
 Kind : Int
 Rep : Int
 Rec : RecT
 Keep : Int
 Torn : Bool
deriving DecidableEq
def HouseActT.cells (x : HouseActT) : List AV:=[.int .i64 x.Kind,.int .i64 x.Rep,.int .i64 x.Rec.Kind,.int .i64 x.Rec.Txn,.int .i64 x.Rec.Time,.int .i64 x.Rec.Lead,.sl (x.Rec.Reads.map strC),.sl (x.Rec.Writes.map WriteT.cells),.bool x.Rec.Yes,.int .i64 x.Keep,.bool x.Torn]
def HouseActT.ok (x : HouseActT) : Prop:=okT x.Kind /\ okT x.Rep /\ RecT.ok x.Rec /\ okT x.Keep /\ okT x.Torn
def HouseActT.w (x : HouseActT) : Nat:=RecT.w x.Rec
theorem HouseActT.same {x y : HouseActT} (hKind : x.Kind = y.Kind) (hRep : x.Rep = y.Rep) (hRec : x.Rec = y.Rec) (hKeep : x.Keep = y.Keep) (hTorn : x.Torn = y.Torn) : x = y:=by cases x; cases y; simp_all
def HouseActT.shp : List Shp:=[.leaf,.leaf,.leaf,.leaf,.leaf,.leaf,.sl 9 1 [.leaf],.sl 131 3 WriteT.shp,.leaf,.leaf,.leaf]
def HouseActT.cnt (x : HouseActT) : Nat:=1 + 1 + 1 + 1 + 1 + 1 + cntL cnt1 x.Rec.Reads + cntL WriteT.cnt x.Rec.Writes + 1 + 1 + 1
theorem HouseActT.cnt_w (x : HouseActT) : HouseActT.cnt x <= 100 * (1 + HouseActT.w x):=by
 have h0:=cntL_w100 (cnt:=cnt1) (w:=List.length) (fun _=>one_w100) x.Rec.Reads
 have h1:=cntL_w100 (cnt:=WriteT.cnt) (w:=WriteT.w) (fun y=>WriteT.cnt_w y) x.Rec.Writes
 simp only [HouseActT.cnt,RecT.cnt,HouseActT.w,RecT.w] at *
 omega
end Go.Proofs.YtjjjalcmcifncaaGreat
set_option maxHeartbeats 4000000
set_option linter.unusedVariables false
namespace Go.Ab
theorem textW_build {P : Program} {L : List Oper} {base i : Nat} {Q : St -> Prop} {o : Oper} {l rest : List Oper} {s : St} {T e : TypeId} {n : Nat} {parts : Array (Nat × Operand)} {info : TypeInfo} {z r : List AV} (hl : l = o :: rest) (hg : o.guard = none) (ho : o.op = .buildSlice T (n + 1) parts)
    (he : elemOf? P T = some e) (hi : P.info? e = some info) (hz : zeroA P e = some z) (hr : fillA (fun j=>some (j * info.size,info.size)) (List.replicate (n + 1) z).flatten (parts.toList.map fun p=>(p.1,s.val p.2)) = some r)
    (hown : ownsOf r = []) (hs : 0 < info.size /\ z.length = info.size /\ n + 1 <= 100000 /\ (n + 1) * info.size <= 16777216 /\ r.all AV.plain = true) (xs : List (List AV)) (hx : chunk info.size (n + 1) r = xs)
    (h : (match fitsB o (base + 16 * i) s ⟨.own (base + 16 * i),[⟨.slc,e,info.size,xs⟩],none⟩ with
     | true=>Out.toK ⟨.own (base + 16 * i),[⟨.slc,e,info.size,xs⟩],none⟩ (base + 16 * i) o.dst s fun s'=>textW P L base Q rest (i + 1) s'
     | false=>False)) : textW P L base Q l i s:=by
 rw [hl,textW_cons]
 unfold oneW
 rw [hg]
 show opW P o.op _ s _
 rw [opW_of (by rw [ho]; rfl),ho]
 unfold opR
 simp only [he,hi,hz,hr,hown]
 exact ⟨hs,by rw [hx]; exact h⟩
end Go.Ab
namespace Go.Proofs.YtjjjalcmcifncaaGreat
open Go.Ab
set_option linter.unusedSimpArgs false
set_option maxRecDepth 20000
set_option maxHeartbeats 4000000
set_option linter.unusedVariables false
theorem wrap_nat {n m : Nat} (h : n + m <= 2000) : IntKind.i64.wrap ((n : Int) + (m : Int)) = ((n + m : Nat) : Int):=by rw [i64_wrap (by omega) (by omega)]; omega
theorem tmod_in {a m : Int} (h : 0 <= a) (hm : 0 < m) : 0 <= a.tmod m /\ a.tmod m <= m - 1:=by
 rw [Int.tmod_eq_emod_of_nonneg h]
 have:=Int.emod_nonneg a (show m ≠ 0 by omega)
 have:=Int.emod_lt_of_pos a hm
 omega
def recV (code : List Int) (n : Nat) : RecT:=if (vA code n).tmod 2 = 0 then ⟨4,0,1 + vA code (n + 1),0,[],[],false⟩ else ⟨2,1 + (vA code (n + 1)).tmod 60,1 + vA code (n + 2),0,[],[],true⟩
def recC (r : RecT) : List AV:=[.int .i64 r.Kind,.int .i64 r.Txn,.int .i64 r.Time,.int .i64 r.Lead,.nil,.nil,.bool r.Yes]
theorem c_laws_vRec (code : List Int) (n : Nat) (hu : okL okU code) (hn : n <= 900) (hc : code.length <= 65536) : PC Tryz.prog false 23 [.sl (code.map u8C),.int .i64 (n : Nat)] (.agg (recC (recV code n))) []:=by
 have v0:=vA_in (n:=n) hu
 have v1:=vA_in (n:=n + 1) hu
 have v2:=vA_in (n:=n + 2) hu
 refine pc_at Tryz.func23 rfl (by kernel_rfl) 28 [.cell 4 36] rfl rfl ?_
 repeat' (conv=>whnf); first
 | (refine nameB_dec (fun h=>?_) (fun h=>?_) <;> try simp only [lensB] at h)
 | refine splitB_true ?_
 | refine splitB_false ?_
 | refine Call0 (c_laws_vAt code n hu (by omega) (by omega)) rfl rfl ?_
 | refine Call0 (c_laws_vAt code (n + 1) hu (by omega) (by omega)) (congrArg (fun x=>[AV.sl (code.map u8C),AV.int .i64 x]) (wrap_nat (m:=1) (by omega))) rfl ?_
 | refine Call0 (c_laws_vAt code (n + 2) hu (by omega) (by omega)) (congrArg (fun x=>[AV.sl (code.map u8C),AV.int .i64 x]) (wrap_nat (m:=2) (by omega))) rfl ?_
 | refine sdA ⟨nbT rfl,rfl⟩ ?_
 | refine sdA (by first | exact nbT rfl | exact rfl | omega | fail) ?_
 | refine sdA (by first | (and_intros <;> first | rfl | omega | exact nbT rfl) | fail) ?_
 | fail
 all_goals
  conv=>whnf
  have hm : 0 <= (vA code (n + 1)).tmod 60 /\ (vA code (n + 1)).tmod 60 <= 59:=tmod_in v1.1 (by decide)
  have w1 : IntKind.i64.wrap (1 + vA code (n + 1)) = 1 + vA code (n + 1):=i64_wrap (by omega) (by omega)
  have w2 : IntKind.i64.wrap (1 + vA code (n + 2)) = 1 + vA code (n + 2):=i64_wrap (by omega) (by omega)
  have w3 : IntKind.i64.wrap (1 + (vA code (n + 1)).tmod 60) = 1 + (vA code (n + 1)).tmod 60:=i64_wrap (by omega) (by omega)
  refine OutA_plain rfl rfl ?_
  first
  | (unfold recV; rw [if_pos ‹_›,w1]; rfl)
  | (unfold recV; rw [if_neg ‹_›,w2,w3]; rfl)
def kindsV : List Int:=[1,2,2,3,3,4,4,5,5,6,7,7]
def kindV (code : List Int) (n : Nat) : Int:=kindsV.getD ((vA code n).tmod 12).toNat 0
theorem kind_side {x : Int} (h : 0 <= x /\ x <= 11) : 0 <= x /\ x < ((kindsV.map intC).length : Int):=⟨h.1,by show x < 12; omega⟩
theorem kind_at {code : List Int} {n : Nat} (h : 0 <= (vA code n).tmod 12 /\ (vA code n).tmod 12 <= 11) : kindsV[((vA code n).tmod 12).toNat]? = some (kindV code n):=by
 unfold kindV
 have : ((vA code n).tmod 12).toNat < kindsV.length:=by show _ < 12; omega
 rw [List.getD_eq_getElem?_getD,List.getElem?_eq_getElem this]
 rfl
theorem kind_ix {code : List Int} {n : Nat} {Q : List AV -> Prop} (h : 0 <= (vA code n).tmod 12 /\ (vA code n).tmod 12 <= 11) (hQ : Q (intC (kindV code n))) : ∃ e,(kindsV.map intC)[((vA code n).tmod 12).toNat]? = some e /\ Q e:=⟨_,by rw [List.getElem?_map,kind_at h]; rfl,hQ⟩
def actV (code : List Int) (n : Nat) (many : Int) : HouseActT:=if kindV code n = 4 \/ kindV code n = 7 then ⟨kindV code n,(vA code (n + 1)).tmod many,recV code (n + 2),(vA code (n + 5)).tmod 14,decide ((vA code (n + 6)).tmod 3 = 0)⟩ else ⟨kindV code n,(vA code (n + 1)).tmod many,⟨0,0,0,0,[],[],false⟩,0,false⟩
theorem actV_1 {code : List Int} {n : Nat} {many : Int} {b : Bool} (k : kindV code n = 4 \/ kindV code n = 7) (t : decide ((vA code (n + 6)).tmod 3 = 0) = b) : (⟨kindV code n,(vA code (n + 1)).tmod many,recV code (n + 2),(vA code (n + 5)).tmod 14,b⟩ : HouseActT) = actV code n many:=by
 unfold actV
 rw [if_pos k,t]
theorem actV_0 {code : List Int} {n : Nat} {many : Int} (k : ¬ kindV code n = 4) (k2 : ¬ kindV code n = 7) : (⟨kindV code n,(vA code (n + 1)).tmod many,⟨0,0,0,0,[],[],false⟩,0,false⟩ : HouseActT) = actV code n many:=by
 unfold actV
 rw [if_neg (fun e=>e.elim k k2)]
def actC (a : HouseActT) : List AV:=[.int .i64 a.Kind,.int .i64 a.Rep,.int .i64 a.Rec.Kind,.int .i64 a.Rec.Txn,.int .i64 a.Rec.Time,.int .i64 a.Rec.Lead,.nil,.nil,.bool a.Rec.Yes,.int .i64 a.Keep,.bool a.Torn]
theorem c_laws_vHouseAct3 (code : List Int) (n : Nat) (hu : okL okU code) (hn : n <= 800) (hc : code.length <= 65536) : PC Tryz.prog false 8 [.sl (code.map u8C),.int .i64 (n : Nat),.int .i64 3] (.agg (actC (actV code n 3))) []:=by
 have v0:=vA_in (n:=n) hu
 have v1:=vA_in (n:=n + 1) hu
 have k0 : 0 <= (vA code n).tmod 12 /\ (vA code n).tmod 12 <= 11:=tmod_in v0.1 (by decide)
 refine pc_at Tryz.func8 rfl (by kernel_rfl) 49 [.cell 6 38] rfl rfl ?_
 repeat' (conv=>whnf); first
 | (show Go.Ab.drawA _ _ _ _ _; refine draw_text (by kernel_rfl) (by kernel_rfl) (by kernel_rfl) ?_; refine @textW_build _ _ _ _ _ ?o _ ?rest _ ?T ?e ?n ?parts ?info ?z ?r ?hl ?hg ?ho ?he ?hi ?hz ?hr ?hown ?hs ?xs ?hx ?h; (case hl=>rfl); (case hg=>rfl); (case ho=>rfl); (case he=>rfl); (case hi=>rfl); (case z=>exact [AV.int .i64 0]); (case r=>exact [AV.int .i64 1,AV.int .i64 2,AV.int .i64 2,AV.int .i64 3,AV.int .i64 3,AV.int .i64 4,AV.int .i64 4,AV.int .i64 5,AV.int .i64 5,AV.int .i64 6,AV.int .i64 7,AV.int .i64 7]); (case hz=>rfl); (case hr=>kernel_rfl); (case hown=>rfl); (case hs=>and_intros <;> first | rfl | decide); (case xs=>exact kindsV.map intC); (case hx=>rfl))
 | exact side_of (kind_side k0)
 | refine kind_ix k0 ?_
 | (refine nameB_dec (fun h=>?_) (fun h=>?_) <;> try simp only [lensB] at h)
 | refine splitB_true ?_
 | refine splitB_false ?_
 | refine Call0 (c_laws_vRec code (n + 2) hu (by omega) (by omega)) (congrArg (fun x=>[AV.sl (code.map u8C),AV.int .i64 x]) (wrap_nat (m:=2) (by omega))) rfl ?_
 | refine Call0 (c_laws_vAt code (n + 5) hu (by omega) (by omega)) (congrArg (fun x=>[AV.sl (code.map u8C),AV.int .i64 x]) (wrap_nat (m:=5) (by omega))) rfl ?_
 | refine Call0 (c_laws_vAt code (n + 6) hu (by omega) (by omega)) (congrArg (fun x=>[AV.sl (code.map u8C),AV.int .i64 x]) (wrap_nat (m:=6) (by omega))) rfl ?_
 | refine CallD0 (c_laws_vAt code (n + 1) hu (by omega) (by omega)) (congrArg (fun x=>[AV.sl (code.map u8C),AV.int .i64 x]) (wrap_nat (m:=1) (by omega))) rfl rfl ?_
 | refine CallD0 (c_laws_vAt code n hu (by omega) (by omega)) rfl rfl rfl ?_
 | refine sdA ⟨nbT rfl,rfl⟩ ?_
 | refine sdA (by first | exact nbT rfl | exact rfl | omega | fail) ?_
 | refine sdA (by first | (and_intros <;> first | rfl | omega | exact nbT rfl) | fail) ?_
 | refine side_and ?_ ?_
 | refine LoadK_of rfl rfl ?_
 | fail
 all_goals
  conv=>whnf
  refine OutA_plain rfl rfl ?_
  first
  | exact congrArg (fun a=>AV.agg (actC a)) (actV_0 ‹_› ‹_›)
  | exact congrArg (fun a=>AV.agg (actC a)) (actV_1 (by first | exact .inl ‹_› | exact .inr ‹_›) (by first | exact decide_eq_true ‹_› | exact decide_eq_false ‹_›))
theorem c_laws_vHouseAct5 (code : List Int) (n : Nat) (hu : okL okU code) (hn : n <= 800) (hc : code.length <= 65536) : PC Tryz.prog false 8 [.sl (code.map u8C),.int .i64 (n : Nat),.int .i64 5] (.agg (actC (actV code n 5))) []:=by
 have v0:=vA_in (n:=n) hu
 have v1:=vA_in (n:=n + 1) hu
 have k0 : 0 <= (vA code n).tmod 12 /\ (vA code n).tmod 12 <= 11:=tmod_in v0.1 (by decide)
 refine pc_at Tryz.func8 rfl (by kernel_rfl) 49 [.cell 6 38] rfl rfl ?_
 repeat' (conv=>whnf); first
 | (show Go.Ab.drawA _ _ _ _ _; refine draw_text (by kernel_rfl) (by kernel_rfl) (by kernel_rfl) ?_; refine @textW_build _ _ _ _ _ ?o _ ?rest _ ?T ?e ?n ?parts ?info ?z ?r ?hl ?hg ?ho ?he ?hi ?hz ?hr ?hown ?hs ?xs ?hx ?h; (case hl=>rfl); (case hg=>rfl); (case ho=>rfl); (case he=>rfl); (case hi=>rfl); (case z=>exact [AV.int .i64 0]); (case r=>exact [AV.int .i64 1,AV.int .i64 2,AV.int .i64 2,AV.int .i64 3,AV.int .i64 3,AV.int .i64 4,AV.int .i64 4,AV.int .i64 5,AV.int .i64 5,AV.int .i64 6,AV.int .i64 7,AV.int .i64 7]); (case hz=>rfl); (case hr=>kernel_rfl); (case hown=>rfl); (case hs=>and_intros <;> first | rfl | decide); (case xs=>exact kindsV.map intC); (case hx=>rfl))
 | exact side_of (kind_side k0)
 | refine kind_ix k0 ?_
 | (refine nameB_dec (fun h=>?_) (fun h=>?_) <;> try simp only [lensB] at h)
 | refine splitB_true ?_
 | refine splitB_false ?_
 | refine Call0 (c_laws_vRec code (n + 2) hu (by omega) (by omega)) (congrArg (fun x=>[AV.sl (code.map u8C),AV.int .i64 x]) (wrap_nat (m:=2) (by omega))) rfl ?_
 | refine Call0 (c_laws_vAt code (n + 5) hu (by omega) (by omega)) (congrArg (fun x=>[AV.sl (code.map u8C),AV.int .i64 x]) (wrap_nat (m:=5) (by omega))) rfl ?_
 | refine Call0 (c_laws_vAt code (n + 6) hu (by omega) (by omega)) (congrArg (fun x=>[AV.sl (code.map u8C),AV.int .i64 x]) (wrap_nat (m:=6) (by omega))) rfl ?_
 | refine CallD0 (c_laws_vAt code (n + 1) hu (by omega) (by omega)) (congrArg (fun x=>[AV.sl (code.map u8C),AV.int .i64 x]) (wrap_nat (m:=1) (by omega))) rfl rfl ?_
 | refine CallD0 (c_laws_vAt code n hu (by omega) (by omega)) rfl rfl rfl ?_
 | refine sdA ⟨nbT rfl,rfl⟩ ?_
 | refine sdA (by first | exact nbT rfl | exact rfl | omega | fail) ?_
 | refine sdA (by first | (and_intros <;> first | rfl | omega | exact nbT rfl) | fail) ?_
 | refine side_and ?_ ?_
 | refine LoadK_of rfl rfl ?_
 | fail
 all_goals
  conv=>whnf
  refine OutA_plain rfl rfl ?_
  first
  | exact congrArg (fun a=>AV.agg (actC a)) (actV_0 ‹_› ‹_›)
  | exact congrArg (fun a=>AV.agg (actC a)) (actV_1 (by first | exact .inl ‹_› | exact .inr ‹_›) (by first | exact decide_eq_true ‹_› | exact decide_eq_false ‹_›))
theorem c_laws_vHouseAct (code : List Int) (n : Nat) (many : Int) (hm : many = 3 \/ many = 5) (hu : okL okU code) (hn : n <= 800) (hc : code.length <= 65536) : PC Tryz.prog false 8 [.sl (code.map u8C),.int .i64 (n : Nat),.int .i64 many] (.agg (actC (actV code n many))) []:=by
 rcases hm with rfl | rfl
 ·exact c_laws_vHouseAct3 code n hu hn hc
 ·exact c_laws_vHouseAct5 code n hu hn hc
end Go.Proofs.YtjjjalcmcifncaaGreat
set_option maxHeartbeats 4000000
set_option linter.unusedVariables false
namespace Go.Ab
theorem EsR_map {w : World} {ro : Nat -> Prop} {esz : Nat} {α : Type} {f g : α -> List AV} (hl : ∀ a,(f a).length = (g a).length) (h : ∀ a rd,CsR w ro (f a) rd -> CsR w ro (g a) rd) : ∀ (xs : List α) (rd : Nat -> Option Value),EsR w ro esz (xs.map f) rd -> EsR w ro esz (xs.map g) rd
 | [],_,_=>by
  show EsR w ro esz [] _
  unfold EsR
  trivial
 | x :: xs,rd,hq=>by
  have hq' : EsR w ro esz (f x :: xs.map f) rd:=hq
  show EsR w ro esz (g x :: xs.map g) rd
  unfold EsR at hq' ⊢
  exact ⟨(hl x).symm.trans hq'.1,h x _ hq'.2.1,EsR_map hl h xs _ hq'.2.2⟩
theorem RR_map {w : World} {ro : Nat -> Prop} {α : Type} {f g : α -> List AV} (hl : ∀ a,(f a).length = (g a).length) (h : ∀ a rd,CsR w ro (f a) rd -> CsR w ro (g a) rd) {xs : List α} {v : Value} (hv : RR w ro (.sl (xs.map f)) v) : RR w ro (.sl (xs.map g)) v:=by
 unfold RR at hv ⊢
 obtain ⟨base,cap,e1,e2,e3⟩:=hv
 refine ⟨base,cap,by rw [List.length_map] at e1 ⊢; exact e1,by rw [List.length_map] at e2 ⊢; exact e2,?_⟩
 rcases e3 with e3 | ⟨b,o,esz,q1,q2,q3⟩
 ·exact .inl (by rw [List.map_eq_nil_iff] at e3 ⊢; exact e3)
 ·exact .inr ⟨b,o,esz,q1,q2,EsR_map hl h xs _ q3⟩
theorem CsR_cons {w : World} {ro : Nat -> Prop} {a b : AV} {as1 bs : List AV} {rd : Nat -> Option Value} (h1 : ∀ v,RR w ro a v -> RR w ro b v) (h2 : ∀ rd,CsR w ro as1 rd -> CsR w ro bs rd) (h : CsR w ro (a :: as1) rd) : CsR w ro (b :: bs) rd:=by
 unfold CsR at h ⊢
 obtain ⟨⟨v,e1,e2⟩,e3⟩:=h
 exact ⟨⟨v,e1,h1 v e2⟩,h2 _ e3⟩
theorem PC.arg2 {P : Program} {sh : Bool} {f : Nat} {x y y' r : AV} {os : List AObj} (hy : ∀ w ro v,RR w ro y' v -> RR w ro y v) (h : PC P sh f [x,y] r os) : PC P sh f [x,y'] r os:=by
 refine ⟨fun w R vals hR hv=>h.run w R vals hR ?_⟩
 match vals,hv with
 | [],hv=>unfold LR at hv; exact hv.elim
 | v :: [],hv=>unfold LR at hv; have:=hv.2; unfold LR at this; exact this.elim
 | v :: u :: l,hv =>
  unfold LR at hv ⊢
  refine ⟨hv.1,?_⟩
  have h2:=hv.2
  unfold LR at h2 ⊢
  exact ⟨hy _ _ _ h2.1,h2.2⟩
end Go.Ab
namespace Go.Proofs.YtjjjalcmcifncaaGreat
open Go.Ab
set_option linter.unusedSimpArgs false
set_option maxRecDepth 20000
set_option maxHeartbeats 4000000
set_option linter.unusedVariables false
theorem PC.actrow {P : Program} {sh : Bool} {f : Nat} {x r : AV} {os : List AObj} {a : HouseActT} (h1 : a.Rec.Reads = []) (h2 : a.Rec.Writes = []) (h : PC P sh f [x,.sl ([a].map HouseActT.cells)] r os) : PC P sh f [x,.sl [actC a]] r os:=by
 obtain ⟨ak,ar,⟨a1,a2,a3,a4,rs,ws,ay⟩,kp,t⟩:=a
 cases h1; cases h2
 refine PC.arg2 (fun w ro v hv=>?_) h
 refine RR_map (xs:=[()]) (f:=fun _=>actC ⟨ak,ar,⟨a1,a2,a3,a4,[],[],ay⟩,kp,t⟩) (g:=fun _=>HouseActT.cells ⟨ak,ar,⟨a1,a2,a3,a4,[],[],ay⟩,kp,t⟩) (fun _=>rfl) (fun _ rd hq=>?_) hv
 exact CsR_cons (fun _ h=>h) (fun _=>CsR_cons (fun _ h=>h) (fun _=>CsR_cons (fun _ h=>h) (fun _=>CsR_cons (fun _ h=>h) (fun _=>CsR_cons (fun _ h=>h) (fun _=>CsR_cons (fun _ h=>h) (fun _=>CsR_cons (fun _=>RR_nilS) (fun _=>CsR_cons (fun _=>RR_nilS) (fun _ h=>h)))))))) hq
theorem recV_nil {code : List Int} {n : Nat} : (recV code n).Reads = [] /\ (recV code n).Writes = []:=by
 unfold recV
 split <;> exact ⟨rfl,rfl⟩
theorem actV_nil {code : List Int} {n : Nat} {many : Int} : (actV code n many).Rec.Reads = [] /\ (actV code n many).Rec.Writes = []:=by
 unfold actV
 split
 ·exact recV_nil
 ·exact ⟨rfl,rfl⟩
theorem nil_ok {a : HouseActT} (h : a.Rec.Reads = [] /\ a.Rec.Writes = []) : a.ok /\ a.w = 0:=by
 obtain ⟨ak,ar,⟨a1,a2,a3,a4,rs,ws,ay⟩,kp,t⟩:=a
 obtain ⟨h1,h2⟩:=h
 cases h1; cases h2
 exact ⟨⟨trivial,trivial,⟨trivial,trivial,trivial,trivial,⟨Nat.zero_le _,fun _ h=>by cases h⟩,⟨Nat.zero_le _,fun _ h=>by cases h⟩,trivial⟩,trivial,trivial⟩,rfl⟩
theorem acts_ok {a : HouseActT} (h : a.Rec.Reads = [] /\ a.Rec.Writes = []) : okL HouseActT.ok [a] /\ wL HouseActT.w [a] <= 1048576:=by
 obtain ⟨h1,h2⟩:=nil_ok h
 refine ⟨⟨nbT rfl,fun x hx=>?_⟩,?_⟩
 ·rw [List.mem_singleton.1 hx]; exact h1
 ·show 1 + (a.w + 0) <= _
  rw [h2]; decide
def manyN (code : List Int) : Nat:=if (vA code 0).tmod 2 = 0 then 3 else 5
theorem manyN_or (code : List Int) : manyN code = 3 \/ manyN code = 5:=by
 unfold manyN
 split
 ·exact .inl rfl
 ·exact .inr rfl
theorem manyI_or (code : List Int) : (manyN code : Int) = 3 \/ (manyN code : Int) = 5:=by
 rcases manyN_or code with e | e <;> rw [e]
 ·exact .inl rfl
 ·exact .inr rfl
theorem many_eq {code : List Int} (hu : okL okU code) : IntKind.i64.wrap (3 + IntKind.i64.wrap (2 * (vA code 0).tmod 2)) = (manyN code : Int):=by
 have hv:=vA_in (n:=0) hu
 have h2:=tmod_in (m:=2) hv.1 (by decide)
 rw [i64_wrap (e:=2 * (vA code 0).tmod 2) (by omega) (by omega),i64_wrap (by omega) (by omega)]
 unfold manyN
 split <;> omega
theorem four_eq {i : Nat} (h : i <= 40) : IntKind.i64.wrap (IntKind.i64.wrap (4 * (i : Int)) + 1) = ((4 * i + 1 : Nat) : Int):=by
 rw [i64_wrap (e:=4 * (i : Int)) (by omega) (by omega),i64_wrap (by omega) (by omega)]
 omega
theorem act_args {code : List Int} {i : Nat} (hu : okL okU code) (h : i <= 40) : [AV.sl (code.map u8C),AV.int .i64 (IntKind.i64.wrap (IntKind.i64.wrap (4 * (i : Int)) + 1)),AV.int .i64 (IntKind.i64.wrap (3 + IntKind.i64.wrap (2 * (vA code 0).tmod 2)))] = [.sl (code.map u8C),.int .i64 ((4 * i + 1 : Nat) : Int),.int .i64 (manyN code)]:=by
 rw [four_eq h,many_eq hu]
def isLD (b : UInt8) : Bool:=(decide ((b.toNat : Int) ≥ 97) && decide ((b.toNat : Int) <= 122)) || (decide ((b.toNat : Int) ≥ 48) && decide ((b.toNat : Int) <= 57))
def okB (more : List UInt8) (b : UInt8) : Bool:=isLD b || more.any fun c=>c == b
def okBytes (s more : List UInt8) : Bool:=s.all (okB more)
def okKey (s : List UInt8) : Bool:=inB 1 s.length 12 && okBytes s [46,47]
theorem c_impl_within (n a b : Int) : PC Tryz.prog false 66 [.int .i64 n,.int .i64 a,.int .i64 b] (.bool (inB a n b)) []:=by
 refine pc_at Tryz.func66 rfl (by kernel_rfl) 15 [.tmp 6] rfl rfl ?_
 repeat' (conv=>whnf); first
 | (refine nameB_dec (fun h=>?_) (fun h=>?_) <;> try simp only [lensB] at h)
 | refine splitB_true ?_
 | refine splitB_false ?_
 | fail
 all_goals
  conv=>whnf
  refine OutA_plain rfl rfl ?_
  first
  | rfl
  | (simp_all [inB,named,AV.sub,AV.sub.subL]; done)
  | (simp_all [inB,named,AV.sub,AV.sub.subL] <;> omega)
theorem c_impl_isLowerOrDigit (b : UInt8) : PC Tryz.prog false 167 [.int .u8 (b.toNat : Int)] (.bool (isLD b)) []:=by
 refine pc_at Tryz.func167 rfl (by kernel_rfl) 17 [.tmp 2] rfl rfl ?_
 repeat' (conv=>whnf); first
 | (refine nameB_dec (fun h=>?_) (fun h=>?_) <;> try simp only [lensB] at h)
 | refine splitB_true ?_
 | refine splitB_false ?_
 | fail
 all_goals
  conv=>whnf
  refine OutA_plain rfl rfl ?_
  first
  | rfl
  | (simp_all [isLD,named,AV.sub,AV.sub.subL]; done)
  | (simp_all [isLD,named,AV.sub,AV.sub.subL] <;> omega)
theorem c_internal_bytealg_IndexByteString (s : List UInt8) (b : UInt8) : PC Tryz.prog false 170 [.str s,.int .u8 (b.toNat : Int)] (.int .i64 (byteIdx s b)) [] :=
 pc_indexByte Tryz.func170 (by kernel_rfl) (by kernel_rfl) (by kernel_rfl) (by kernel_rfl) s b
theorem c_internal_stringslite_IndexByte (s : List UInt8) (b : UInt8) : PC Tryz.prog false 169 [.str s,.int .u8 (b.toNat : Int)] (.int .i64 (byteIdx s b)) []:=by
 refine pc_at Tryz.func169 rfl (by kernel_rfl) 8 [.tmp 4] rfl rfl ?_
 repeat' (conv=>whnf); first
 | refine Call0 (c_internal_bytealg_IndexByteString ..) rfl rfl ?_
 | fail
 all_goals
  conv=>whnf
  refine OutA_plain rfl rfl ?_
  first
  | rfl
  | (simp_all [named,AV.sub,AV.sub.subL]; done)
  | (simp_all [named,AV.sub,AV.sub.subL] <;> omega)
theorem c_strings_IndexByte (s : List UInt8) (b : UInt8) : PC Tryz.prog false 168 [.str s,.int .u8 (b.toNat : Int)] (.int .i64 (byteIdx s b)) []:=by
 refine pc_at Tryz.func168 rfl (by kernel_rfl) 8 [.tmp 4] rfl rfl ?_
 repeat' (conv=>whnf); first
 | refine Call0 (c_internal_stringslite_IndexByte ..) rfl rfl ?_
 | fail
 all_goals
  conv=>whnf
  refine OutA_plain rfl rfl ?_
  first
  | rfl
  | (simp_all [named,AV.sub,AV.sub.subL]; done)
  | (simp_all [named,AV.sub,AV.sub.subL] <;> omega)
theorem okBytes_at {s more : List UInt8} {k : Nat} {B : Bool} (h : okBytes (s.drop k) more = B) (hk : k < s.length) : (okB more (s.getD k 0) && okBytes (s.drop (k + 1)) more) = B:=by
 rw [drop_getD (d:=0) hk] at h
 exact h
theorem okB_1 {more : List UInt8} {b : UInt8} (h : isLD b = true) : okB more b = true:=by simp only [okB,h,Bool.true_or]
theorem okB_2 {more : List UInt8} {b : UInt8} (h : isLD b = false) (h2 : byteIdx more b < 0) : okB more b = false:=by
 simp only [okB,h,Bool.false_or]
 exact byteIdx_neg.1 h2
theorem okB_3 {more : List UInt8} {b : UInt8} (h2 : ¬ byteIdx more b < 0) : okB more b = true:=by
 unfold okB
 cases h : isLD b with
 | true=>rfl
 | false =>
  rw [byteIdx_neg] at h2
  simpa using h2
theorem okBytes_end {s more : List UInt8} {k : Nat} {B : Bool} (h : okBytes (s.drop k) more = B) (hk : ¬ k < s.length) : B = true:=by
 rw [List.drop_eq_nil_of_le (by omega)] at h
 exact h.symm
theorem c_impl_hasBytes (s more : List UInt8) (hs : s.length <= 9223372036854775807) : PC Tryz.prog false 164 [.str s,.str more] (.bool (okBytes s more)) []:=by
 refine pc_at Tryz.func164 rfl (by kernel_rfl) 25 [.tmp 4] rfl rfl ?_
 repeat' (conv=>whnf); first
 | refine nameB_true ?_
 | refine nameB_false ?_
 | (refine nameB_dec (fun h=>?_) (fun h=>?_) <;> try simp only [lensB] at h)
 | (refine nameB_cases (fun h=>?_) (fun h=>?_) <;> try simp only [nmL,lensB] at h)
 | refine splitB_true ?_
 | refine splitB_false ?_
 | ((refine Loop_at [0,1,7] [] (Nat) (fun k=>okBytes (s.drop k) more = okBytes s more /\ k <= s.length) (fun k=>[(8,.int .i64 (k : Nat))]) (fun k=>[]) (fun k=>s.length - k) 0 ⟨by first | (simp_all <;> fail) | rfl | fail,trivial⟩ trivial (by (try dsimp only); first | trivial | (refine ⟨?_,by omega⟩; simp <;> fail) | (simp <;> fail) | fail) ?_; (conv=>whnf); refine side_and (side_of (by first | exact fun k=>rfl | exact fun k=>by simp [headOk,closedE,closedO,closedL,AV.closed,hcap.closed,hasId,AObj.box,BK.ofB])) ?_; rintro k hT; try dsimp only at hT))
 | (refine Again_of (k + 1) ⟨by first | rfl | exact i64_next (by omega) | (simp_all <;> fail) | fail,trivial⟩ trivial (by first | (and_intros <;> first | rfl | trivial) | fail) (by first | (and_intros <;> first | rfl | trivial) | fail) rfl rfl rfl (by (try dsimp only); first | ((have hg:=okBytes_at hT.1 (by omega); refine ⟨?_,by omega⟩; first | (rw [okB_1 ‹_›] at hg; exact hg) | (rw [okB_3 ‹_›] at hg; exact hg))) | fail) (show _ < _ by (try dsimp only); omega))
 | refine Call0 (c_impl_isLowerOrDigit ..) rfl rfl ?_
 | refine Call0 (c_strings_IndexByte ..) rfl rfl ?_
 | refine sdA (by first | exact nbT rfl | exact rfl | omega | fail) ?_
 | fail
 all_goals
  conv=>whnf
  refine OutA_plain rfl rfl ?_
  first
  | (have hg:=okBytes_at hT.1 (by omega); rw [okB_2 ‹_› ‹_›] at hg; exact congrArg AV.bool hg)
  | exact congrArg AV.bool (okBytes_end hT.1 (by omega)).symm
theorem okB_at {more : List UInt8} {b : UInt8} {ok B : Bool} {i : Nat} (h : (ok || (more.drop i).any fun c=>c == b) = B) (hk : i < more.length) : ((ok || more.getD i 0 == b) || (more.drop (i + 1)).any fun c=>c == b) = B:=by
 rw [drop_getD (d:=0) hk] at h
 rw [<- h,List.any_cons,Bool.or_assoc]
theorem okB_end {more : List UInt8} {b : UInt8} {ok B : Bool} {i : Nat} (h : (ok || (more.drop i).any fun c=>c == b) = B) (hk : ¬ i < more.length) : ok = B:=by
 rw [List.drop_eq_nil_of_le (by omega)] at h
 simpa using h
theorem isLD_of {b : UInt8} {x : Bool} (h : x = isLD b) (more : List UInt8) : (x || (more.drop 0).any fun c=>c == b) = okB more b:=by
 rw [h]
 rfl
theorem isLD_yes {b : UInt8} (h : ((b.toNat : Int) ≥ 97 /\ (b.toNat : Int) <= 122) \/ ((b.toNat : Int) ≥ 48 /\ (b.toNat : Int) <= 57)) : true = isLD b:=by
 have : isLD b = true:=by simpa only [isLD,Bool.or_eq_true,baT,decide_eq_true_eq] using h
 exact this.symm
theorem isLD_no {b : UInt8} (h : ¬ (((b.toNat : Int) ≥ 97 /\ (b.toNat : Int) <= 122) \/ ((b.toNat : Int) ≥ 48 /\ (b.toNat : Int) <= 57))) : false = isLD b:=by
 cases hb : isLD b with
 | false=>rfl
 | true=>exact absurd (by simpa only [isLD,Bool.or_eq_true,baT,decide_eq_true_eq] using hb) h
theorem okB_hit {a b : UInt8} {ok : Bool} (h : b = a) : (ok || a == b) = true:=by simp [h]
theorem okB_mis {a b : UInt8} {ok : Bool} (h : ¬ b = a) : (ok || a == b) = ok:=by
 have : (a == b) = false:=by simpa using fun e=>h e.symm
 simp [this]
theorem c_spec_l3Bytes (s more : List UInt8) (hs : s.length <= 9223372036854775807) (hm : more.length <= 9223372036854775807) : PC Tryz.prog false 143 [.str s,.str more] (.bool (okBytes s more)) []:=by
 refine pc_at Tryz.func143 rfl (by kernel_rfl) 54 [.tmp 4] rfl rfl ?_
 repeat' (conv=>whnf); first
 | (refine nameB_dec (fun h=>?_) (fun h=>?_) <;> try simp only [lensB] at h)
 | (refine nameB_cases (fun h=>?_) (fun h=>?_) <;> try simp only [nmL,lensB] at h)
 | refine splitB_true ?_
 | refine splitB_false ?_
 | (refine splitB_intro (fun h=>?_) (fun h=>?_) <;> subst h)
 | refine draw_text (by kernel_rfl) (by kernel_rfl) (by kernel_rfl) ?_
 | (refine Loop_at [0,1] [] (Nat) (fun k=>okBytes (s.drop k) more = okBytes s more /\ k <= s.length) (fun k=>[(5,.int .i64 (k : Nat))]) (fun k=>[]) (fun k=>s.length - k) 0 ⟨by first | (simp_all <;> fail) | rfl | fail,trivial⟩ trivial (by (try dsimp only); first | trivial | (refine ⟨?_,by omega⟩; simp <;> fail) | (simp <;> fail) | fail) ?_; (conv=>whnf); refine side_and (side_of (by first | exact fun k=>rfl | exact fun k=>by simp [headOk,closedE,closedO,closedL,AV.closed,hcap.closed,hasId,AObj.box,BK.ofB])) ?_; rintro k hT; try dsimp only at hT)
 | (refine Loop_at [0,1,5] [] (Nat × Bool) (fun j=>match j with | (i,ok)=>(ok || (more.drop i).any fun c=>c == s.getD k 0) = okB more (s.getD k 0) /\ i <= more.length) (fun j=>match j with | (i,ok)=>[(7,.int .i64 (i : Nat)),(6,.bool ok)]) (fun j=>match j with | (i,ok)=>[]) (fun j=>match j with | (i,ok)=>more.length - i) (0,_) ⟨by first | (simp_all <;> fail) | rfl | fail,rfl,trivial⟩ trivial (by (try dsimp only); first | (first | exact ⟨isLD_of (isLD_yes (by omega)) more,by omega⟩ | exact ⟨isLD_of (isLD_no (by omega)) more,by omega⟩) | fail) ?_; (conv=>whnf); refine side_and (side_of (by first | exact fun ⟨i,ok⟩=>rfl | exact fun ⟨i,ok⟩=>by simp [headOk,closedE,closedO,closedL,AV.closed,hcap.closed,hasId,AObj.box,BK.ofB])) ?_; rintro ⟨i,ok⟩ hI; try dsimp only at hI)
 | refine Again_of (k + 1) ⟨by first | rfl | exact i64_next (by omega) | (simp_all <;> fail) | fail,trivial⟩ trivial (by first | (and_intros <;> first | rfl | trivial) | fail) (by first | (and_intros <;> first | rfl | trivial) | fail) rfl rfl rfl (by (try dsimp only); first | ((have hg:=okBytes_at hT.1 (by omega); rw [<- okB_end hI.1 (by omega),show ok = true by assumption] at hg; exact ⟨hg,by omega⟩)) | fail) (show _ < _ by (try dsimp only); omega)
 | refine Again_of (i + 1,_) ⟨by first | rfl | exact i64_next (by omega) | (simp_all <;> fail) | fail,rfl,trivial⟩ trivial (by first | (and_intros <;> first | rfl | trivial) | fail) (by first | (and_intros <;> first | rfl | trivial) | fail) rfl rfl rfl (by (try dsimp only); first | ((have hg:=okB_at hI.1 (by omega); refine ⟨?_,by omega⟩; first | (rw [okB_hit ‹_›] at hg; exact hg) | (rw [okB_mis ‹_›] at hg; exact hg) | (simpa using hg))) | fail) (show _ < _ by (try dsimp only); omega)
 | refine sdA (by first | exact nbT rfl | exact rfl | omega | fail) ?_
 | fail
 all_goals
  conv=>whnf
  refine OutA_plain rfl rfl ?_
  first
  | (have hg:=okBytes_at hT.1 (by omega); rw [<- okB_end hI.1 (by omega),show ok = false by assumption] at hg; exact congrArg AV.bool hg)
  | exact congrArg AV.bool (okBytes_end hT.1 (by omega)).symm
theorem c_impl_GoodKey (s : List UInt8) (hs : s.length <= 9223372036854775807) : PC Tryz.prog false 145 [.str s] (.bool (okKey s)) []:=by
 refine pc_at Tryz.func145 rfl (by kernel_rfl) 10 [.tmp 2] rfl rfl ?_
 repeat' (conv=>whnf); first
 | (refine nameB_cases (fun h=>?_) (fun h=>?_) <;> try simp only [nmL,lensB] at h)
 | refine splitB_true ?_
 | refine splitB_false ?_
 | refine Call0 (c_impl_within ..) rfl rfl ?_
 | refine Call0 (c_impl_hasBytes s _ hs) rfl rfl ?_
 | fail
 all_goals
  conv=>whnf
  refine OutA_plain rfl rfl ?_
  first
  | rfl
  | (simp_all [okKey,named,AV.sub,AV.sub.subL]; done)
  | (simp_all [okKey,named,AV.sub,AV.sub.subL] <;> omega)
theorem c_spec_l3Key (s : List UInt8) (hs : s.length <= 9223372036854775807) : PC Tryz.prog false 110 [.str s] (.bool (okKey s)) []:=by
 refine pc_at Tryz.func110 rfl (by kernel_rfl) 10 [.tmp 2] rfl rfl ?_
 repeat' (conv=>whnf); first
 | (refine nameB_cases (fun h=>?_) (fun h=>?_) <;> try simp only [nmL,lensB] at h)
 | refine splitB_true ?_
 | refine splitB_false ?_
 | refine Call0 (c_spec_l1In ..) rfl rfl ?_
 | refine Call0 (c_spec_l3Bytes s _ hs (by simp)) rfl rfl ?_
 | fail
 all_goals
  conv=>whnf
  refine OutA_plain rfl rfl ?_
  first
  | rfl
  | (simp_all [okKey,named,AV.sub,AV.sub.subL]; done)
  | (simp_all [okKey,named,AV.sub,AV.sub.subL] <;> omega)
def rising (p : Option (List UInt8)) : List (List UInt8) -> Bool
 | []=>true
 | x :: xs=>okKey x && (match p with | none=>true | some q=>Op.bytesLess q x) && rising (some x) xs
def prevOf {α : Type} (xs : List α) (k : Nat) : Option α:=if k = 0 then none else xs[k - 1]?
theorem prevOf_next {α : Type} {xs : List α} {k : Nat} {x : α} (hx : xs[k]? = some x) : prevOf xs (k + 1) = some x:=by simp [prevOf,hx]
theorem prevOf_pos {α : Type} {xs : List α} {k : Nat} {y : α} (h : (k : Int) > 0) (hy : xs[k - 1]? = some y) : prevOf xs k = some y:=by
 unfold prevOf
 rw [if_neg (by omega)]
 exact hy
theorem prevOf_zero {α : Type} {xs : List α} {k : Nat} (h : ¬ (k : Int) > 0) : prevOf xs k = none:=by
 unfold prevOf
 rw [if_pos (by omega)]
theorem rising_at {xs : List (List UInt8)} {k : Nat} {x : List UInt8} {B : Bool} (h : rising (prevOf xs k) (xs.drop k) = B) (hx : xs[k]? = some x) :
    (okKey x && (match prevOf xs k with | none=>true | some q=>Op.bytesLess q x) && rising (prevOf xs (k + 1)) (xs.drop (k + 1))) = B:=by
 rw [drop_get hx] at h
 rw [prevOf_next hx]
 exact h
theorem rising_end {xs : List (List UInt8)} {k : Nat} {B : Bool} (h : rising (prevOf xs k) (xs.drop k) = B) (hk : ¬ (k : Int) < xs.length) : B = true:=by
 rw [List.drop_eq_nil_of_le (by omega)] at h
 exact h.symm
theorem rising_bad1 {xs : List (List UInt8)} {k : Nat} {x : List UInt8} {B : Bool} (h : rising (prevOf xs k) (xs.drop k) = B) (hx : xs[k]? = some x) (h1 : okKey x = false) : B = false:=by
 have:=rising_at h hx
 rw [h1] at this
 simpa using this.symm
theorem rising_bad2 {xs : List (List UInt8)} {k : Nat} {x y : List UInt8} {B : Bool} (h : rising (prevOf xs k) (xs.drop k) = B) (hx : xs[k]? = some x) (hk : (k : Int) > 0) (hy : xs[k - 1]? = some y) (h1 : Op.bytesLess y x = false) : B = false:=by
 have:=rising_at h hx
 rw [prevOf_pos hk hy] at this
 simp only [h1] at this
 simpa using this.symm
theorem rising_go1 {xs : List (List UInt8)} {k : Nat} {x : List UInt8} {B : Bool} (h : rising (prevOf xs k) (xs.drop k) = B) (hx : xs[k]? = some x) (h1 : okKey x = true) (hk : ¬ (k : Int) > 0) : rising (prevOf xs (k + 1)) (xs.drop (k + 1)) = B:=by
 have:=rising_at h hx
 rw [prevOf_zero hk] at this
 simpa [h1] using this
theorem rising_go2 {xs : List (List UInt8)} {k : Nat} {x y : List UInt8} {B : Bool} (h : rising (prevOf xs k) (xs.drop k) = B) (hx : xs[k]? = some x) (h1 : okKey x = true) (hk : (k : Int) > 0) (hy : xs[k - 1]? = some y) (h2 : Op.bytesLess y x = true) : rising (prevOf xs (k + 1)) (xs.drop (k + 1)) = B:=by
 have:=rising_at h hx
 rw [prevOf_pos hk hy] at this
 simpa [h1,h2] using this
theorem leq_no {x y : List UInt8} (h : (Op.bytesLess x y || x == y) = true) : Op.bytesLess y x = false:=by rw [bl_leq] at h; simpa using h
theorem leq_yes {x y : List UInt8} (h : (Op.bytesLess x y || x == y) = false) : Op.bytesLess y x = true:=by rw [bl_leq] at h; simpa using h
theorem c_impl_areRising (xs : List (List UInt8)) (hok : okL okS xs) : PC Tryz.prog false 129 [.sl (xs.map strC)] (.bool (rising none xs)) []:=by
 have hl:=hok.1
 refine pc_at Tryz.func129 rfl (by kernel_rfl) 29 [.tmp 2] rfl rfl ?_
 repeat' (conv=>whnf); first
 | refine ix_as (m:=k - 1) (by simp only [i64_wrap_eq]; omega) (by omega) (fun y hy=>?_)
 | (refine nameB_cases (b:=Op.bytesLess _ _ || _ == _) (fun h=>?_) (fun h=>?_))
 | refine nameB_true ?_
 | refine nameB_false ?_
 | (refine nameB_dec (fun h=>?_) (fun h=>?_) <;> try simp only [lensB] at h)
 | (refine nameB_cases (fun h=>?_) (fun h=>?_) <;> try simp only [nmL,lensB] at h)
 | refine splitB_true ?_
 | refine splitB_false ?_
 | ((refine Loop_at [0,5,6] [] (Nat) (fun k=>rising (prevOf xs k) (xs.drop k) = rising none xs /\ k <= xs.length) (fun k=>[(7,.int .i64 (k : Nat))]) (fun k=>[]) (fun k=>xs.length - k) 0 ⟨by first | (simp_all <;> fail) | rfl | fail,trivial⟩ trivial (by (try dsimp only); first | (exact ⟨rfl,by omega⟩) | fail) ?_; (conv=>whnf); refine side_and (side_of (by first | exact fun k=>rfl | exact fun k=>by simp [headOk,closedE,closedO,closedL,AV.closed,hcap.closed,hasId,AObj.box,BK.ofB])) ?_; rintro k hT; try dsimp only at hT))
 | (refine Again_of (k + 1) ⟨by first | rfl | exact i64_next (by omega) | (simp_all <;> fail) | fail,trivial⟩ trivial (by first | (and_intros <;> first | rfl | trivial) | fail) (by first | (and_intros <;> first | rfl | trivial) | fail) rfl rfl rfl (by (try dsimp only); first | (first | exact ⟨rising_go1 hT.1 hx ‹_› ‹_›,by omega⟩ | exact ⟨rising_go2 hT.1 hx ‹_› ‹_› hy (leq_yes h),by omega⟩) | fail) (show _ < _ by (try dsimp only); omega))
 | refine Call0 (c_impl_GoodKey x (hok.2 x (mgE hx))) rfl rfl ?_
 | (refine ix_map (by omega) (by (try simp only [List.length_take]); omega) (fun x hx=>?_); try simp only [Int.toNat_natCast] at hx)
 | refine sdA (by first | exact nbT rfl | exact rfl | omega | fail) ?_
 | fail
 all_goals
  conv=>whnf
  refine OutA_plain rfl rfl ?_
  first
  | exact congrArg AV.bool (rising_bad1 hT.1 hx ‹_›).symm
  | exact congrArg AV.bool (rising_bad2 hT.1 hx ‹_› hy (leq_no h)).symm
  | exact congrArg AV.bool (rising_end hT.1 ‹_›).symm
def prevB {α : Type} (r : α -> α -> Bool) (pre : List α) (x : α) : Bool:=match pre.getLast? with | none=>true | some y=>r y x
theorem prevB_zero {α : Type} {r : α -> α -> Bool} {xs : List α} {k : Nat} {x : α} (hk : ¬ (k : Int) > 0) : prevB r (xs.take k) x = true:=by
 obtain rfl : k = 0:=by omega
 simp [prevB]
theorem prevB_pos {α : Type} {r : α -> α -> Bool} {xs : List α} {k : Nat} {x y : α} (hk : (k : Int) > 0) (hy : xs[k - 1]? = some y) : prevB r (xs.take k) x = r y x:=by
 obtain ⟨k,rfl⟩ : ∃ m,k = m + 1:=⟨k - 1,by omega⟩
 simp only [Nat.add_sub_cancel] at hy
 rw [take_get hy]
 simp [prevB]
def okTime (n : Int) : Bool:=inB 1 n 100000
def okVal (s : List UInt8) : Bool:=decide ((s.length : Int) <= 24) && okBytes s [46,45,44,95]
def okStored (v : List UInt8) (g : Bool) : Bool:=okVal v && !(g && !(v == []))
theorem c_impl_isTime (n : Int) : PC Tryz.prog false 128 [.int .i64 n] (.bool (okTime n)) []:=by
 refine pc_at Tryz.func128 rfl (by kernel_rfl) 5 [.tmp 2] rfl rfl ?_
 repeat' (conv=>whnf); first
 | (refine nameB_cases (fun h=>?_) (fun h=>?_) <;> try simp only [nmL,lensB] at h)
 | refine Call0 (c_impl_within ..) rfl rfl ?_
 | fail
 all_goals
  conv=>whnf
  refine OutA_plain rfl rfl ?_
  first
  | rfl
  | (simp only [okTime, *,named,AV.sub,AV.sub.subL,Bool.and_true,Bool.and_false,Bool.true_and,Bool.false_and,Bool.or_true,Bool.or_false,Bool.true_or,Bool.false_or,Bool.not_true,Bool.not_false,if_true,if_false,decide_true,decide_false,Bool.false_eq_true,Bool.and_self]; done)
  | (simp_all [okTime,named,AV.sub,AV.sub.subL]; done)
  | (simp_all [okTime,named,AV.sub,AV.sub.subL] <;> (intros; omega))
  | (exfalso; omega)
theorem c_spec_l3Time (n : Int) : PC Tryz.prog false 74 [.int .i64 n] (.bool (okTime n)) []:=by
 refine pc_at Tryz.func74 rfl (by kernel_rfl) 5 [.tmp 2] rfl rfl ?_
 repeat' (conv=>whnf); first
 | (refine nameB_cases (fun h=>?_) (fun h=>?_) <;> try simp only [nmL,lensB] at h)
 | refine Call0 (c_spec_l1In ..) rfl rfl ?_
 | fail
 all_goals
  conv=>whnf
  refine OutA_plain rfl rfl ?_
  first
  | rfl
  | (simp only [okTime, *,named,AV.sub,AV.sub.subL,Bool.and_true,Bool.and_false,Bool.true_and,Bool.false_and,Bool.or_true,Bool.or_false,Bool.true_or,Bool.false_or,Bool.not_true,Bool.not_false,if_true,if_false,decide_true,decide_false,Bool.false_eq_true,Bool.and_self]; done)
  | (simp_all [okTime,named,AV.sub,AV.sub.subL]; done)
  | (simp_all [okTime,named,AV.sub,AV.sub.subL] <;> (intros; omega))
  | (exfalso; omega)
theorem c_impl_GoodVal (s : List UInt8) (hs : s.length <= 9223372036854775807) : PC Tryz.prog false 166 [.str s] (.bool (okVal s)) []:=by
 refine pc_at Tryz.func166 rfl (by kernel_rfl) 10 [.tmp 2] rfl rfl ?_
 repeat' (conv=>whnf); first
 | (refine nameB_dec (fun h=>?_) (fun h=>?_) <;> try simp only [lensB] at h)
 | (refine nameB_cases (fun h=>?_) (fun h=>?_) <;> try simp only [nmL,lensB] at h)
 | refine splitB_true ?_
 | refine splitB_false ?_
 | refine Call0 (c_impl_hasBytes s _ hs) rfl rfl ?_
 | fail
 all_goals
  conv=>whnf
  refine OutA_plain rfl rfl ?_
  first
  | rfl
  | (simp only [okVal, *,named,AV.sub,AV.sub.subL,Bool.and_true,Bool.and_false,Bool.true_and,Bool.false_and,Bool.or_true,Bool.or_false,Bool.true_or,Bool.false_or,Bool.not_true,Bool.not_false,if_true,if_false,decide_true,decide_false,Bool.false_eq_true,Bool.and_self]; done)
  | (simp_all [okVal,named,AV.sub,AV.sub.subL]; done)
  | (simp_all [okVal,named,AV.sub,AV.sub.subL] <;> (intros; omega))
  | (exfalso; omega)
theorem c_spec_l3Val (s : List UInt8) (hs : s.length <= 9223372036854775807) : PC Tryz.prog false 144 [.str s] (.bool (okVal s)) []:=by
 refine pc_at Tryz.func144 rfl (by kernel_rfl) 10 [.tmp 2] rfl rfl ?_
 repeat' (conv=>whnf); first
 | (refine nameB_dec (fun h=>?_) (fun h=>?_) <;> try simp only [lensB] at h)
 | (refine nameB_cases (fun h=>?_) (fun h=>?_) <;> try simp only [nmL,lensB] at h)
 | refine splitB_true ?_
 | refine splitB_false ?_
 | refine Call0 (c_spec_l3Bytes s _ hs (by simp)) rfl rfl ?_
 | fail
 all_goals
  conv=>whnf
  refine OutA_plain rfl rfl ?_
  first
  | rfl
  | (simp only [okVal, *,named,AV.sub,AV.sub.subL,Bool.and_true,Bool.and_false,Bool.true_and,Bool.false_and,Bool.or_true,Bool.or_false,Bool.true_or,Bool.false_or,Bool.not_true,Bool.not_false,if_true,if_false,decide_true,decide_false,Bool.false_eq_true,Bool.and_self]; done)
  | (simp_all [okVal,named,AV.sub,AV.sub.subL]; done)
  | (simp_all [okVal,named,AV.sub,AV.sub.subL] <;> (intros; omega))
  | (exfalso; omega)
theorem c_impl_isStored (v : List UInt8) (g : Bool) (hv : okS v) : PC Tryz.prog false 149 [.str v,.bool g] (.bool (okStored v g)) []:=by
 refine pc_at Tryz.func149 rfl (by kernel_rfl) 15 [.tmp 4] rfl rfl ?_
 repeat' (conv=>whnf); first
 | refine nameB_true ?_
 | refine nameB_false ?_
 | (refine nameB_cases (fun h=>?_) (fun h=>?_) <;> try simp only [nmL,lensB] at h)
 | refine splitB_true ?_
 | refine splitB_false ?_
 | (refine splitB_intro (fun h=>?_) (fun h=>?_) <;> subst h)
 | refine Call0 (c_impl_GoodVal v hv) rfl rfl ?_
 | fail
 all_goals
  conv=>whnf
  refine OutA_plain rfl rfl ?_
  first
  | rfl
  | (simp only [okStored, *,named,AV.sub,AV.sub.subL,Bool.and_true,Bool.and_false,Bool.true_and,Bool.false_and,Bool.or_true,Bool.or_false,Bool.true_or,Bool.false_or,Bool.not_true,Bool.not_false,if_true,if_false,decide_true,decide_false,Bool.false_eq_true,Bool.and_self]; done)
  | (simp_all [okStored,named,AV.sub,AV.sub.subL]; done)
  | (simp_all [okStored,named,AV.sub,AV.sub.subL] <;> (intros; omega))
  | (exfalso; omega)
def okWr (k v : List UInt8) (g : Bool) : Bool:=okKey k && okStored v g
theorem c_spec_l3Write (k v : List UInt8) (g : Bool) (hk : okS k) (hv : okS v) : PC Tryz.prog false 111 [.str k,.str v,.bool g] (.bool (okWr k v g)) []:=by
 refine pc_at Tryz.func111 rfl (by kernel_rfl) 21 [.tmp 6] rfl rfl ?_
 repeat' (conv=>whnf); first
 | (refine nameB_cases (fun h=>?_) (fun h=>?_) <;> try simp only [nmL,lensB] at h)
 | refine splitB_true ?_
 | refine splitB_false ?_
 | refine Call0 (c_spec_l3Key k hk) rfl rfl ?_
 | refine Call0 (c_spec_l3Val v hv) rfl rfl ?_
 | fail
 all_goals
  conv=>whnf
  refine OutA_plain rfl rfl ?_
  first
  | rfl
  | (simp only [okWr,okStored, *,named,AV.sub,AV.sub.subL,Bool.and_true,Bool.and_false,Bool.true_and,Bool.false_and,Bool.or_true,Bool.or_false,Bool.true_or,Bool.false_or,Bool.not_true,Bool.not_false,if_true,if_false,decide_true,decide_false,Bool.false_eq_true,Bool.and_self]; done)
  | (simp_all [okWr,okStored,named,AV.sub,AV.sub.subL]; done)
  | (simp_all [okWr,okStored,named,AV.sub,AV.sub.subL] <;> (intros; omega))
  | (exfalso; omega)
theorem rising_allPre {α : Type} (key : α -> List UInt8) (p : α -> Bool) : ∀ (xs pre : List α),(rising (pre.getLast?.map key) (xs.map key) && xs.all p) = allPre (fun pre x=>(p x && okKey (key x)) && prevB (fun a b=>Op.bytesLess (key a) (key b)) pre x) pre xs
 | [],pre=>rfl
 | x :: xs,pre=>by
  have ih:=rising_allPre key p xs (pre ++ [x])
  simp only [List.getLast?_concat,Option.map_some] at ih
  have hp : prevB (fun a b=>Op.bytesLess (key a) (key b)) pre x = (match pre.getLast?.map key with | none=>true | some q=>Op.bytesLess q (key x)):=by
   unfold prevB
   cases pre.getLast? <;> rfl
  simp only [List.map_cons,rising,allPre,List.all_cons]
  rw [<- ih,hp]
  cases okKey (key x) <;> cases p x <;> cases hg : pre.getLast? <;> simp [Bool.and_comm,Bool.and_left_comm]
theorem app_snoc {α : Type} {f : α -> List AV} {xs : List α} {k : Nat} {x : α} {L : List (List AV)} (hx : xs[k]? = some x) (hL : L = [f x]) : (xs.take k).map f ++ L = (xs.take (k + 1)).map f:=by
 rw [hL,take_get hx,List.map_append]; rfl
theorem full_take {α : Type} {f : α -> List AV} {xs : List α} {k : Nat} (h : ¬ (k : Int) < xs.length) : (xs.take k).map f = xs.map f:=by rw [List.take_of_length_le (by omega)]
theorem c_Equal_String (xs ys : List (List UInt8)) (hl : xs.length <= 9223372036854775807) : PC Tryz.prog false 162 [.sl (xs.map strC),.sl (ys.map strC)] (.bool (decide (xs = ys))) []:=by
 refine pc_at Tryz.func162 rfl (by kernel_rfl) 26 [.tmp 4] rfl rfl ?_
 repeat' (conv=>whnf); first
 | (refine nameB_dec (fun h=>?_) (fun h=>?_) <;> try simp only [lensB] at h)
 | (refine nameB_cases (fun h=>?_) (fun h=>?_) <;> try simp only [nmL,lensB] at h)
 | refine splitB_true ?_
 | refine splitB_false ?_
 | refine draw_text (by kernel_rfl) (by kernel_rfl) (by kernel_rfl) ?_
 | ((refine Loop_at [0,1,12] [] (Nat) (fun k=>xs.take k = ys.take k /\ k <= xs.length) (fun k=>[(13,.int .i64 (k : Nat))]) (fun k=>[]) (fun k=>xs.length - k) 0 ⟨by first | (simp_all <;> fail) | rfl | fail,trivial⟩ trivial (by (try dsimp only); first | trivial | (refine ⟨?_,by omega⟩; simp <;> fail) | (simp <;> fail) | fail) ?_; (conv=>whnf); refine side_and (side_of (by first | exact fun k=>rfl | exact fun k=>by simp [headOk,closedE,closedO,closedL,AV.closed,hcap.closed,hasId,AObj.box,BK.ofB])) ?_; rintro k hT; try dsimp only at hT))
 | (refine Again_of (k + 1) ⟨by first | rfl | exact i64_next (by omega) | (simp_all <;> fail) | fail,trivial⟩ trivial (by first | (and_intros <;> first | rfl | trivial) | fail) (by first | (and_intros <;> first | rfl | trivial) | fail) rfl rfl rfl (by (try dsimp only); first | (exact ⟨take_next hT.1 hx hy (by first | assumption | (cases x; cases y; simp_all)),by omega⟩) | fail) (show _ < _ by (try dsimp only); omega))
 | (refine ix_map2 hx (by omega) (by (try simp only [List.length_take]); omega) (fun y hy=>?_); try simp only [Int.toNat_natCast] at hy)
 | (refine ix_map (by omega) (by (try simp only [List.length_take]); omega) (fun x hx=>?_); try simp only [Int.toNat_natCast] at hx)
 | refine sdA (by first | exact nbT rfl | exact rfl | omega | fail) ?_
 | refine LoadK_of rfl rfl ?_
 | fail
 all_goals
  conv=>whnf
  refine OutA_plain rfl rfl ?_
  first
  | exact bool_no (len_ne (by omega))
  | exact bool_no (get_ne hx hy (by first | assumption | (intro e; subst e; simp_all)))
  | exact bool_yes (take_all_eq hT.1 (by omega) (by omega))
theorem c_spec_l1SameS (xs ys : List (List UInt8)) (hl : xs.length <= 9223372036854775807) : PC Tryz.prog false 88 [.sl (xs.map strC),.sl (ys.map strC)] (.bool (decide (xs = ys))) []:=by
 refine pc_at Tryz.func88 rfl (by kernel_rfl) 26 [.tmp 4] rfl rfl ?_
 repeat' (conv=>whnf); first
 | (refine nameB_dec (fun h=>?_) (fun h=>?_) <;> try simp only [lensB] at h)
 | (refine nameB_cases (fun h=>?_) (fun h=>?_) <;> try simp only [nmL,lensB] at h)
 | refine splitB_true ?_
 | refine splitB_false ?_
 | refine draw_text (by kernel_rfl) (by kernel_rfl) (by kernel_rfl) ?_
 | ((refine Loop_at [0,1,12] [] (Nat) (fun k=>xs.take k = ys.take k /\ k <= xs.length) (fun k=>[(13,.int .i64 (k : Nat))]) (fun k=>[]) (fun k=>xs.length - k) 0 ⟨by first | (simp_all <;> fail) | rfl | fail,trivial⟩ trivial (by (try dsimp only); first | trivial | (refine ⟨?_,by omega⟩; simp <;> fail) | (simp <;> fail) | fail) ?_; (conv=>whnf); refine side_and (side_of (by first | exact fun k=>rfl | exact fun k=>by simp [headOk,closedE,closedO,closedL,AV.closed,hcap.closed,hasId,AObj.box,BK.ofB])) ?_; rintro k hT; try dsimp only at hT))
 | (refine Again_of (k + 1) ⟨by first | rfl | exact i64_next (by omega) | (simp_all <;> fail) | fail,trivial⟩ trivial (by first | (and_intros <;> first | rfl | trivial) | fail) (by first | (and_intros <;> first | rfl | trivial) | fail) rfl rfl rfl (by (try dsimp only); first | (exact ⟨take_next hT.1 hx hy (by first | assumption | (cases x; cases y; simp_all)),by omega⟩) | fail) (show _ < _ by (try dsimp only); omega))
 | (refine ix_map2 hx (by omega) (by (try simp only [List.length_take]); omega) (fun y hy=>?_); try simp only [Int.toNat_natCast] at hy)
 | (refine ix_map (by omega) (by (try simp only [List.length_take]); omega) (fun x hx=>?_); try simp only [Int.toNat_natCast] at hx)
 | refine sdA (by first | exact nbT rfl | exact rfl | omega | fail) ?_
 | refine LoadK_of rfl rfl ?_
 | fail
 all_goals
  conv=>whnf
  refine OutA_plain rfl rfl ?_
  first
  | exact bool_no (len_ne (by omega))
  | exact bool_no (get_ne hx hy (by first | assumption | (intro e; subst e; simp_all)))
  | exact bool_yes (take_all_eq hT.1 (by omega) (by omega))
theorem c_Equal_Write (xs ys : List WriteT) (hl : xs.length <= 9223372036854775807) : PC Tryz.prog false 163 [.sl (xs.map WriteT.cells),.sl (ys.map WriteT.cells)] (.bool (decide (xs = ys))) []:=by
 refine pc_at Tryz.func163 rfl (by kernel_rfl) 26 [.tmp 4] rfl rfl ?_
 repeat' (conv=>whnf); first
 | (refine nameB_dec (fun h=>?_) (fun h=>?_) <;> try simp only [lensB] at h)
 | (refine nameB_cases (fun h=>?_) (fun h=>?_) <;> try simp only [nmL,lensB] at h)
 | refine splitB_true ?_
 | refine splitB_false ?_
 | refine draw_text (by kernel_rfl) (by kernel_rfl) (by kernel_rfl) ?_
 | ((refine Loop_at [0,1,12] [] (Nat) (fun k=>xs.take k = ys.take k /\ k <= xs.length) (fun k=>[(13,.int .i64 (k : Nat))]) (fun k=>[]) (fun k=>xs.length - k) 0 ⟨by first | (simp_all <;> fail) | rfl | fail,trivial⟩ trivial (by (try dsimp only); first | trivial | (refine ⟨?_,by omega⟩; simp <;> fail) | (simp <;> fail) | fail) ?_; (conv=>whnf); refine side_and (side_of (by first | exact fun k=>rfl | exact fun k=>by simp [headOk,closedE,closedO,closedL,AV.closed,hcap.closed,hasId,AObj.box,BK.ofB])) ?_; rintro k hT; try dsimp only at hT))
 | (refine Again_of (k + 1) ⟨by first | rfl | exact i64_next (by omega) | (simp_all <;> fail) | fail,trivial⟩ trivial (by first | (and_intros <;> first | rfl | trivial) | fail) (by first | (and_intros <;> first | rfl | trivial) | fail) rfl rfl rfl (by (try dsimp only); first | (exact ⟨take_next hT.1 hx hy (by first | assumption | (cases x; cases y; simp_all)),by omega⟩) | fail) (show _ < _ by (try dsimp only); omega))
 | (refine ix_map2 hx (by omega) (by (try simp only [List.length_take]); omega) (fun y hy=>?_); try simp only [Int.toNat_natCast] at hy)
 | (refine ix_map (by omega) (by (try simp only [List.length_take]); omega) (fun x hx=>?_); try simp only [Int.toNat_natCast] at hx)
 | refine sdA (by first | exact nbT rfl | exact rfl | omega | fail) ?_
 | refine side_and (side_of (show Go.Ab.structOk _ _ = true by kernel_rfl)) ?_
 | refine LoadK_of rfl rfl ?_
 | fail
 all_goals
  conv=>whnf
  refine OutA_plain rfl rfl ?_
  first
  | exact bool_no (len_ne (by omega))
  | exact bool_no (get_ne hx hy (by first | assumption | (intro e; subst e; simp_all)))
  | exact bool_yes (take_all_eq hT.1 (by omega) (by omega))
theorem c_spec_l4SameW (xs ys : List WriteT) (hl : xs.length <= 9223372036854775807) : PC Tryz.prog false 89 [.sl (xs.map WriteT.cells),.sl (ys.map WriteT.cells)] (.bool (decide (xs = ys))) []:=by
 refine pc_at Tryz.func89 rfl (by kernel_rfl) 26 [.tmp 4] rfl rfl ?_
 repeat' (conv=>whnf); first
 | (refine nameB_dec (fun h=>?_) (fun h=>?_) <;> try simp only [lensB] at h)
 | (refine nameB_cases (fun h=>?_) (fun h=>?_) <;> try simp only [nmL,lensB] at h)
 | refine splitB_true ?_
 | refine splitB_false ?_
 | refine draw_text (by kernel_rfl) (by kernel_rfl) (by kernel_rfl) ?_
 | ((refine Loop_at [0,1,12] [] (Nat) (fun k=>xs.take k = ys.take k /\ k <= xs.length) (fun k=>[(13,.int .i64 (k : Nat))]) (fun k=>[]) (fun k=>xs.length - k) 0 ⟨by first | (simp_all <;> fail) | rfl | fail,trivial⟩ trivial (by (try dsimp only); first | trivial | (refine ⟨?_,by omega⟩; simp <;> fail) | (simp <;> fail) | fail) ?_; (conv=>whnf); refine side_and (side_of (by first | exact fun k=>rfl | exact fun k=>by simp [headOk,closedE,closedO,closedL,AV.closed,hcap.closed,hasId,AObj.box,BK.ofB])) ?_; rintro k hT; try dsimp only at hT))
 | (refine Again_of (k + 1) ⟨by first | rfl | exact i64_next (by omega) | (simp_all <;> fail) | fail,trivial⟩ trivial (by first | (and_intros <;> first | rfl | trivial) | fail) (by first | (and_intros <;> first | rfl | trivial) | fail) rfl rfl rfl (by (try dsimp only); first | (exact ⟨take_next hT.1 hx hy (by first | assumption | (cases x; cases y; simp_all)),by omega⟩) | fail) (show _ < _ by (try dsimp only); omega))
 | (refine ix_map2 hx (by omega) (by (try simp only [List.length_take]); omega) (fun y hy=>?_); try simp only [Int.toNat_natCast] at hy)
 | (refine ix_map (by omega) (by (try simp only [List.length_take]); omega) (fun x hx=>?_); try simp only [Int.toNat_natCast] at hx)
 | refine sdA (by first | exact nbT rfl | exact rfl | omega | fail) ?_
 | refine side_and (side_of (show Go.Ab.structOk _ _ = true by kernel_rfl)) ?_
 | refine LoadK_of rfl rfl ?_
 | fail
 all_goals
  conv=>whnf
  refine OutA_plain rfl rfl ?_
  first
  | exact bool_no (len_ne (by omega))
  | exact bool_no (get_ne hx hy (by first | assumption | (intro e; subst e; simp_all)))
  | exact bool_yes (take_all_eq hT.1 (by omega) (by omega))
theorem c_impl_SameRec (x y : RecT) (hok : x.ok) : PC Tryz.prog false 142 [.agg x.cells,.agg y.cells] (.bool (decide (x = y))) []:=by
 refine pc_at Tryz.func142 rfl (by kernel_rfl) 52 [.tmp 4] rfl rfl ?_
 repeat' (conv=>whnf); first
 | refine nameB_self (b:=x.Yes) ?_
 | refine nameB_self (b:=y.Yes) ?_
 | (refine nameB_dec (fun h=>?_) (fun h=>?_) <;> try simp only [lensB] at h)
 | refine splitB_true ?_
 | refine splitB_false ?_
 | refine Call0 (c_Equal_String x.Reads y.Reads hok.2.2.2.2.1.1) rfl rfl ?_
 | refine Call0 (c_Equal_Write x.Writes y.Writes hok.2.2.2.2.2.1.1) rfl rfl ?_
 | refine sdA (by first | exact nbT rfl | exact rfl | omega | fail) ?_
 | fail
 all_goals
  conv=>whnf
  refine OutA_plain rfl rfl ?_
  first | exact bool_yes (RecT.same ‹_› ‹_› ‹_› ‹_› ‹_› ‹_› ‹_›) | exact bool_no (by intro e; subst e; simp_all)
theorem c_spec_SameRec (x y : RecT) (hok : x.ok) : PC Tryz.prog false 48 [.agg x.cells,.agg y.cells] (.bool (decide (x = y))) []:=by
 refine pc_at Tryz.func48 rfl (by kernel_rfl) 52 [.tmp 4] rfl rfl ?_
 repeat' (conv=>whnf); first
 | refine nameB_self (b:=x.Yes) ?_
 | refine nameB_self (b:=y.Yes) ?_
 | (refine nameB_dec (fun h=>?_) (fun h=>?_) <;> try simp only [lensB] at h)
 | refine splitB_true ?_
 | refine splitB_false ?_
 | refine Call0 (c_spec_l1SameS x.Reads y.Reads hok.2.2.2.2.1.1) rfl rfl ?_
 | refine Call0 (c_spec_l4SameW x.Writes y.Writes hok.2.2.2.2.2.1.1) rfl rfl ?_
 | refine sdA (by first | exact nbT rfl | exact rfl | omega | fail) ?_
 | fail
 all_goals
  conv=>whnf
  refine OutA_plain rfl rfl ?_
  first | exact bool_yes (RecT.same ‹_› ‹_› ‹_› ‹_› ‹_› ‹_› ‹_›) | exact bool_no (by intro e; subst e; simp_all)
theorem c_IndexFunc_Write (xs : List WriteT) (f : Nat) (caps : List AV) (q : WriteT -> Bool) (hl : xs.length <= 9223372036854775807) (hcap : Caps caps) (hq : ∀ x ∈ xs,PC Tryz.prog false f (.agg x.cells :: caps) (.bool (q x)) []) : PC Tryz.prog false 165 [.sl (xs.map WriteT.cells),.fn f caps] (.int .i64 (idxF q 0 xs)) []:=by
 refine pc_at Tryz.func165 rfl (by kernel_rfl) 19 [.tmp 4] rfl rfl ?_
 repeat' (conv=>whnf); first
 | (refine nameB_dec (fun h=>?_) (fun h=>?_) <;> try simp only [lensB] at h)
 | (refine nameB_cases (fun h=>?_) (fun h=>?_) <;> try simp only [nmL,lensB] at h)
 | refine splitB_true ?_
 | refine splitB_false ?_
 | ((refine Loop_at [0,1,7] [] (Nat) (fun k=>idxF q k (xs.drop k) = idxF q 0 xs /\ k <= xs.length) (fun k=>[(8,.int .i64 (k : Nat))]) (fun k=>[]) (fun k=>xs.length - k) 0 ⟨by first | (simp_all <;> fail) | rfl | fail,trivial⟩ trivial (by (try dsimp only); first | trivial | (refine ⟨?_,by omega⟩; simp <;> fail) | (simp <;> fail) | fail) ?_; (conv=>whnf); refine side_and (side_of (by first | exact fun k=>rfl | exact fun k=>by simp [headOk,closedE,closedO,closedL,AV.closed,hcap.closed,hasId,AObj.box,BK.ofB])) ?_; rintro k hT; try dsimp only at hT))
 | (refine Again_of (k + 1) ⟨by first | rfl | exact i64_next (by omega) | (simp_all <;> fail) | fail,trivial⟩ trivial (by first | (and_intros <;> first | rfl | trivial) | fail) (by first | (and_intros <;> first | rfl | trivial) | fail) rfl rfl rfl (by (try dsimp only); (refine ⟨?_,by omega⟩; first | (rw [<- hT.1,drop_get hx]; simp_all [idxF,List.all_cons,List.any_cons] <;> fail) | (have hg:=drop_get hx; simp_all [idxF,List.all_cons,List.any_cons] <;> fail) | fail)) (show _ < _ by (try dsimp only); omega))
 | refine Call0 (hq x (mgE hx)) (congrArg (List.cons _) (hcap.same _)) (hcap.known _) ?_
 | (refine ix_map (by omega) (by (try simp only [List.length_take]); omega) (fun x hx=>?_); try simp only [Int.toNat_natCast] at hx)
 | refine sdA (by first | exact nbT rfl | exact rfl | omega | fail) ?_
 | fail
 all_goals
  conv=>whnf
  refine OutA_plain rfl rfl ?_
  first
  | (simp_all [idxF,named,AV.sub,AV.sub.subL]; done)
  | (rw [<- hT.1,drop_get hx]; simp_all [idxF,List.all_cons,List.any_cons,named,AV.sub,AV.sub.subL]; done)
  | (have hg:=drop_get hx; simp_all [idxF,List.all_cons,List.any_cons,named,AV.sub,AV.sub.subL]; done)
  | (rw [List.drop_eq_nil_of_le (by omega)] at hT; simp_all [idxF,named,AV.sub,AV.sub.subL]; done)
theorem c_ContainsFunc_Write (xs : List WriteT) (f : Nat) (caps : List AV) (q : WriteT -> Bool) (hl : xs.length <= 9223372036854775807) (hcap : Caps caps) (hq : ∀ x ∈ xs,PC Tryz.prog false f (.agg x.cells :: caps) (.bool (q x)) []) : PC Tryz.prog false 147 [.sl (xs.map WriteT.cells),.fn f caps] (.bool (xs.any q)) []:=by
 refine pc_at Tryz.func147 rfl (by kernel_rfl) 9 [.tmp 4] rfl rfl ?_
 repeat' (conv=>whnf); first
 | (refine nameB_dec (fun h=>?_) (fun h=>?_) <;> try simp only [lensB] at h)
 | refine Call0 (c_IndexFunc_Write xs f caps q hl hcap hq) (congrArg (fun l=>[AV.sl _,AV.fn f l]) (hcap.same1 _)) ((Bool.and_true _).trans (hcap.known1 _)) ?_
 | fail
 all_goals
  conv=>whnf
  refine OutA_plain rfl rfl ?_
  first
  | (simp_all [idxF_pos,named,AV.sub,AV.sub.subL]; done)
  | (rw [<- hT.1,drop_get hx]; simp_all [idxF_pos,List.all_cons,List.any_cons,named,AV.sub,AV.sub.subL]; done)
  | (have hg:=drop_get hx; simp_all [idxF_pos,List.all_cons,List.any_cons,named,AV.sub,AV.sub.subL]; done)
  | (rw [List.drop_eq_nil_of_le (by omega)] at hT; simp_all [idxF_pos,named,AV.sub,AV.sub.subL]; done)
def wrAt (pre : List WriteT) (w : WriteT) : Bool:=(okStored w.Val w.Gone && okKey w.Key) && prevB (fun a b=>Op.bytesLess a.Key b.Key) pre w
def okWrites (ws : List WriteT) : Bool:=allPre wrAt [] ws && decide ((ws.length : Int) <= 24)
theorem any_notN {α : Type} {p : α -> Bool} : ∀ {xs : List α},xs.any (fun x=>!p x) = !xs.all p
 | []=>rfl
 | x :: xs=>by rw [List.any_cons,List.all_cons,any_notN,Bool.not_and]
theorem okWrites_rising (ws : List WriteT) : okWrites ws = (decide ((ws.length : Int) <= 24) && (rising none (ws.map WriteT.Key) && !ws.any fun w=>!okStored w.Val w.Gone)):=by
 have:=rising_allPre WriteT.Key (fun w=>okStored w.Val w.Gone) ws []
 rw [any_notN,Bool.not_not]
 unfold okWrites
 rw [Bool.and_comm]
 exact congrArg _ this.symm
theorem okS_wkeys {ws : List WriteT} (h : okL WriteT.ok ws) : okL okS (ws.map WriteT.Key):=⟨by rw [List.length_map]; exact h.1,fun k hk=>by obtain ⟨c,hc,rfl⟩:=List.mem_map.1 hk; exact (h.2 c hc).1⟩
theorem keysWrites {ws : List WriteT} : ws.map (fun c=>strC c.Key) = (ws.map WriteT.Key).map strC:=by rw [List.map_map]; rfl
theorem c_impl_writeKeys (ws : List WriteT) (hw : ws.length <= 1048576) : PC Tryz.prog false 146 [.sl (ws.map WriteT.cells)] (.own 0) [⟨false,9,1,(ws.map WriteT.Key).map strC⟩]:=by
 refine pc_at Tryz.func146 rfl (by kernel_rfl) 20 [.tmp 2] rfl rfl ?_
 repeat' (conv=>whnf); first
 | refine side_and (side_of (one_lenC rfl rfl)) ?_
 | refine sdA (by first | (and_intros <;> first | exact nbT rfl | rfl | (intro e; exact absurd (AV.own.inj e) (by decide)) | (intro e; exact AV.noConfusion e)) | fail) ?_
 | refine side_and (side_of (app_boundC (L:=(ws.take k).map fun c=>strC c.Key) rfl (by (try simp only [List.length_map,laT,List.length_take,List.length_set,List.length_drop]); omega) (nbT rfl))) ?_
 | (refine nameB_dec (fun h=>?_) (fun h=>?_) <;> try simp only [lensB] at h)
 | refine splitB_true ?_
 | refine splitB_false ?_
 | ((refine Loop_nil 3 4096 9 1 rfl rfl (by decide) ?_; refine Loop_at [7,8] [] (Nat) (fun k=>k <= ws.length) (fun k=>[(9,.int .i64 (k : Nat)),(3,.own 4096)]) (fun k=>[(4096,⟨false,9,1,(ws.take k).map fun c=>strC c.Key⟩)]) (fun k=>ws.length - k) 0 ⟨by first | (simp_all <;> fail) | rfl | fail,by first | rfl | (simp_all <;> fail) | fail,trivial⟩ ⟨by first | rfl | exact congrArg (fun e=>some (AObj.mk false _ _ e)) (app_snoc hx rfl) | fail | fail,trivial⟩ (by (try dsimp only); first | (exact Nat.zero_le _) | fail) ?_; (conv=>whnf); refine side_and (side_of (by first | exact fun k=>rfl | exact fun k=>by simp [headOk,closedE,closedO,closedL,AV.closed,hcap.closed,hasId,AObj.box,BK.ofB])) ?_; rintro k hT; try dsimp only at hT))
 | (refine Again_of (k + 1) ⟨by first | rfl | exact i64_next (by omega) | (simp_all <;> fail) | fail,by first | rfl | (simp_all <;> fail) | fail,trivial⟩ ⟨by first | rfl | exact congrArg (fun e=>some (AObj.mk false _ _ e)) (app_snoc hx rfl) | fail | fail,trivial⟩ (by first | (and_intros <;> first | rfl | trivial) | fail) (by first | (and_intros <;> first | rfl | trivial) | fail) rfl rfl rfl (by (try dsimp only); first | ((show k + 1 <= _; omega)) | fail) (show _ < _ by (try dsimp only); omega))
 | (refine ix_map (by omega) (by (try simp only [List.length_take]); omega) (fun x hx=>?_); try simp only [Int.toNat_natCast] at hx)
 | fail
 all_goals
  conv=>whnf
  refine OutA_ids rfl rfl rfl ⟨⟨_,_,_,rfl,congrArg (AObj.mk false _ _) ?_⟩,trivial⟩ rfl (.inr (flat_one (flat_map (fun _=>rfl) _)))
  exact ((full_take (f:=fun c : WriteT=>strC c.Key) ‹_›).trans keysWrites).symm
theorem c_impl_GoodWrites_1 (x : WriteT) (hok : x.ok) : PC Tryz.prog false 148 [.agg x.cells] (.bool (!okStored x.Val x.Gone)) []:=by
 refine pc_at Tryz.func148 rfl (by kernel_rfl) 9 [.tmp 2] rfl rfl ?_
 repeat' (conv=>whnf); first
 | refine nameB_self (b:=x.Gone) ?_
 | refine nameB_true ?_
 | refine nameB_false ?_
 | (refine nameB_cases (fun h=>?_) (fun h=>?_) <;> try simp only [nmL,lensB] at h)
 | refine Call0 (c_impl_isStored x.Val x.Gone hok.2.1) rfl rfl ?_
 | refine sdA (by first | exact nbT rfl | exact rfl | omega | fail) ?_
 | fail
 all_goals
  conv=>whnf
  refine OutA_plain rfl rfl ?_
  first
  | rfl
  | (simp only [*,named,AV.sub,AV.sub.subL,Bool.and_true,Bool.and_false,Bool.true_and,Bool.false_and,Bool.or_true,Bool.or_false,Bool.true_or,Bool.false_or,Bool.not_true,Bool.not_false,if_true,if_false,decide_true,decide_false,Bool.false_eq_true,Bool.and_self]; done)
  | (simp_all [named,AV.sub,AV.sub.subL]; done)
  | (simp_all [named,AV.sub,AV.sub.subL] <;> (intros; omega))
  | (exfalso; omega)
theorem c_impl_GoodWrites (ws : List WriteT) (hok : okL WriteT.ok ws) (hw : ws.length <= 1048576) : PC Tryz.prog false 130 [.sl (ws.map WriteT.cells)] (.bool (okWrites ws)) []:=by
 rw [okWrites_rising]
 refine pc_at Tryz.func130 rfl (by kernel_rfl) 16 [.tmp 2] rfl rfl ?_
 repeat' (conv=>whnf); first
 | refine nameB_true ?_
 | refine nameB_false ?_
 | (refine nameB_dec (fun h=>?_) (fun h=>?_) <;> try simp only [lensB] at h)
 | (refine nameB_cases (fun h=>?_) (fun h=>?_) <;> try simp only [nmL,lensB] at h)
 | refine splitB_true ?_
 | refine splitB_false ?_
 | refine CallF (c_impl_writeKeys ws hw) rfl rfl rfl (nbT rfl) ?_
 | refine Call0 (c_impl_areRising (ws.map WriteT.Key) (okS_wkeys hok)) rfl rfl ?_
 | refine Call0 (c_ContainsFunc_Write ws 148 [] (fun w=>!okStored w.Val w.Gone) hok.1 ⟨fun _=>rfl,fun _=>rfl,fun _=>rfl,fun _=>rfl,fun _=>rfl⟩ (fun x hx=>c_impl_GoodWrites_1 x (hok.2 x hx))) rfl rfl ?_
 | fail
 all_goals
  conv=>whnf
  refine OutA_plain rfl rfl ?_
  first
  | rfl
  | (simp only [*,named,AV.sub,AV.sub.subL,Bool.and_true,Bool.and_false,Bool.true_and,Bool.false_and,Bool.or_true,Bool.or_false,Bool.true_or,Bool.false_or,Bool.not_true,Bool.not_false,if_true,if_false,decide_true,decide_false,Bool.false_eq_true,Bool.and_self]; done)
  | (simp_all [named,AV.sub,AV.sub.subL]; done)
  | (simp_all [named,AV.sub,AV.sub.subL] <;> (intros; omega))
  | (exfalso; omega)
theorem wrAt_yes {ws : List WriteT} {k : Nat} {w : WriteT} (h1 : okWr w.Key w.Val w.Gone = true) (h3 : prevB (fun a b : WriteT=>Op.bytesLess a.Key b.Key) (ws.take k) w = true) : wrAt (ws.take k) w = true:=by
 simp only [okWr,baT] at h1
 simp only [wrAt,h1.1,h1.2,h3,Bool.and_true]
theorem wrAt_no {pre : List WriteT} {w : WriteT} (h : okWr w.Key w.Val w.Gone = false \/ prevB (fun a b : WriteT=>Op.bytesLess a.Key b.Key) pre w = false) : wrAt pre w = false:=by
 rcases h with h | h
 ·simp only [okWr,Bool.and_eq_false_iff] at h
  rcases h with h | h <;> simp only [wrAt,h,Bool.false_and,Bool.and_false]
 ·simp only [wrAt,h,Bool.false_and,Bool.and_false]
theorem c_spec_l3Writes (ws : List WriteT) (hok : okL WriteT.ok ws) : PC Tryz.prog false 76 [.sl (ws.map WriteT.cells)] (.bool (okWrites ws)) []:=by
 have hl:=hok.1
 refine pc_at Tryz.func76 rfl (by kernel_rfl) 39 [.tmp 2] rfl rfl ?_
 repeat' (conv=>whnf); first
 | refine ix_as (m:=k - 1) (by simp only [i64_wrap_eq]; omega) (by omega) (fun y hy=>?_)
 | refine nameB_self (b:=x.Gone) ?_
 | refine nameB_true ?_
 | refine nameB_false ?_
 | (refine nameB_dec (fun h=>?_) (fun h=>?_) <;> try simp only [lensB] at h)
 | (refine nameB_cases (fun h=>?_) (fun h=>?_) <;> try simp only [nmL,lensB] at h)
 | refine splitB_true ?_
 | refine splitB_false ?_
 | refine draw_text (by kernel_rfl) (by kernel_rfl) (by kernel_rfl) ?_
 | ((refine Loop_at [0,5,6] [] (Nat) (fun k=>allPre wrAt (ws.take k) (ws.drop k) = allPre wrAt [] ws /\ k <= ws.length) (fun k=>[(7,.int .i64 (k : Nat))]) (fun k=>[]) (fun k=>ws.length - k) 0 ⟨by first | (simp_all <;> fail) | rfl | fail,trivial⟩ trivial (by (try dsimp only); first | (exact ⟨rfl,by omega⟩) | fail) ?_; (conv=>whnf); refine side_and (side_of (by first | exact fun k=>rfl | exact fun k=>by simp [headOk,closedE,closedO,closedL,AV.closed,hcap.closed,hasId,AObj.box,BK.ofB])) ?_; rintro k hT; try dsimp only at hT))
 | (refine Again_of (k + 1) ⟨by first | rfl | exact i64_next (by omega) | (simp_all <;> fail) | fail,trivial⟩ trivial (by first | (and_intros <;> first | rfl | trivial) | fail) (by first | (and_intros <;> first | rfl | trivial) | fail) rfl rfl rfl (by (try dsimp only); first | (first | exact ⟨allPre_go hT.1 hx (wrAt_yes ‹_› (prevB_zero ‹_›)),by omega⟩ | exact ⟨allPre_go hT.1 hx (wrAt_yes ‹_› ((prevB_pos ‹_› hy).trans ‹_›)),by omega⟩) | fail) (show _ < _ by (try dsimp only); omega))
 | refine CallD0 (c_spec_l3Write x.Key x.Val x.Gone (hok.2 x (mgE hx)).1 (hok.2 x (mgE hx)).2.1) rfl rfl rfl ?_
 | (refine ix_map (by omega) (by (try simp only [List.length_take]); omega) (fun x hx=>?_); try simp only [Int.toNat_natCast] at hx)
 | refine sdA ⟨nbT rfl,rfl⟩ ?_
 | refine sdA (by first | exact nbT rfl | exact rfl | omega | fail) ?_
 | refine sdA (by first | (and_intros <;> first | rfl | omega | exact nbT rfl) | fail) ?_
 | refine LoadK_of rfl rfl ?_
 | fail
 all_goals
  conv=>whnf
  refine OutA_plain rfl rfl ?_
  first
  | (have hb:=allPre_bad hT.1 hx (wrAt_no (.inl ‹_›)); simp only [okWrites,hb,Bool.false_and]; rfl)
  | (have hb:=allPre_bad hT.1 hx (wrAt_no (.inr ((prevB_pos ‹_› hy).trans ‹_›))); simp only [okWrites,hb,Bool.false_and]; rfl)
  | (have hb:=allPre_end hT.1 ‹_›; simp_all [okWrites,named,AV.sub]; done)
theorem c_spec_l4Keys (xs : List (List UInt8)) (hok : okL okS xs) : PC Tryz.prog false 75 [.sl (xs.map strC)] (.bool (rising none xs && decide ((xs.length : Int) <= 8))) []:=by
 have hl:=hok.1
 refine pc_at Tryz.func75 rfl (by kernel_rfl) 32 [.tmp 2] rfl rfl ?_
 repeat' (conv=>whnf); first
 | refine ix_as (m:=k - 1) (by simp only [i64_wrap_eq]; omega) (by omega) (fun y hy=>?_)
 | refine nameB_true ?_
 | refine nameB_false ?_
 | (refine nameB_dec (fun h=>?_) (fun h=>?_) <;> try simp only [lensB] at h)
 | (refine nameB_cases (fun h=>?_) (fun h=>?_) <;> try simp only [nmL,lensB] at h)
 | refine splitB_true ?_
 | refine splitB_false ?_
 | ((refine Loop_at [0,5,6] [] (Nat) (fun k=>rising (prevOf xs k) (xs.drop k) = rising none xs /\ k <= xs.length) (fun k=>[(7,.int .i64 (k : Nat))]) (fun k=>[]) (fun k=>xs.length - k) 0 ⟨by first | (simp_all <;> fail) | rfl | fail,trivial⟩ trivial (by (try dsimp only); first | (exact ⟨rfl,by omega⟩) | fail) ?_; (conv=>whnf); refine side_and (side_of (by first | exact fun k=>rfl | exact fun k=>by simp [headOk,closedE,closedO,closedL,AV.closed,hcap.closed,hasId,AObj.box,BK.ofB])) ?_; rintro k hT; try dsimp only at hT))
 | (refine Again_of (k + 1) ⟨by first | rfl | exact i64_next (by omega) | (simp_all <;> fail) | fail,trivial⟩ trivial (by first | (and_intros <;> first | rfl | trivial) | fail) (by first | (and_intros <;> first | rfl | trivial) | fail) rfl rfl rfl (by (try dsimp only); first | (first | exact ⟨rising_go1 hT.1 hx ‹_› ‹_›,by omega⟩ | exact ⟨rising_go2 hT.1 hx ‹_› ‹_› hy ‹_›,by omega⟩) | fail) (show _ < _ by (try dsimp only); omega))
 | refine Call0 (c_spec_l3Key x (hok.2 x (mgE hx))) rfl rfl ?_
 | (refine ix_map (by omega) (by (try simp only [List.length_take]); omega) (fun x hx=>?_); try simp only [Int.toNat_natCast] at hx)
 | refine sdA (by first | exact nbT rfl | exact rfl | omega | fail) ?_
 | fail
 all_goals
  conv=>whnf
  refine OutA_plain rfl rfl ?_
  first
  | (have hb:=rising_bad1 hT.1 hx ‹_›; simp [hb,named,AV.sub]; done)
  | (have hb:=rising_bad2 hT.1 hx ‹_› hy ‹_›; simp [hb,named,AV.sub]; done)
  | (have hb:=rising_end hT.1 ‹_›; simp_all [named,AV.sub]; done)
def okRec (r : RecT) : Bool :=
 if r.Kind = 1 then inB 1 r.Txn 60 && okTime r.Time && inB 0 r.Lead 3 && decide ((r.Reads.length : Int) <= 8) && rising none r.Reads && decide ((r.Writes.length : Int) <= 8) && okWrites r.Writes && decide (0 < (r.Reads.length : Int) + (r.Writes.length : Int)) && !r.Yes
 else (decide (r.Lead = 0) && decide ((r.Reads.length : Int) = 0) && decide ((r.Writes.length : Int) = 0)) &&
  if r.Kind = 2 \/ r.Kind = 3 then inB 1 r.Txn 60 && (if r.Yes = true then okTime r.Time else decide (r.Time = 0))
  else decide (r.Kind = 4) && decide (r.Txn = 0) && okTime r.Time && !r.Yes
theorem c_impl_isTxn (n : Int) : PC Tryz.prog false 127 [.int .i64 n] (.bool (inB 1 n 60)) []:=by
 refine pc_at Tryz.func127 rfl (by kernel_rfl) 5 [.tmp 2] rfl rfl ?_
 repeat' (conv=>whnf); first
 | (refine nameB_cases (fun h=>?_) (fun h=>?_) <;> try simp only [nmL,lensB] at h)
 | refine Call0 (c_impl_within ..) rfl rfl ?_
 | fail
 all_goals
  conv=>whnf
  refine OutA_plain rfl rfl ?_
  first
  | rfl
  | (simp only [*,named,AV.sub,AV.sub.subL,Bool.and_true,Bool.and_false,Bool.true_and,Bool.false_and,Bool.or_true,Bool.or_false,Bool.true_or,Bool.false_or,Bool.not_true,Bool.not_false,if_true,if_false,decide_true,decide_false,Bool.false_eq_true,Bool.and_self]; done)
  | (simp_all [named,AV.sub,AV.sub.subL]; done)
  | (simp_all [named,AV.sub,AV.sub.subL] <;> (intros; omega))
  | (exfalso; omega)
theorem c_impl_GoodRec (r : RecT) (hok : r.ok) (hw : r.Writes.length <= 1048576) (hr : r.Reads.length <= 1048576) : PC Tryz.prog false 91 [.agg r.cells] (.bool (okRec r)) []:=by
 have hs : IntKind.i64.wrap ((r.Reads.length : Int) + (r.Writes.length : Int)) = (r.Reads.length : Int) + (r.Writes.length : Int):=i64_wrap (by omega) (by omega)
 refine pc_at Tryz.func91 rfl (by kernel_rfl) 119 [.tmp 2] rfl rfl ?_
 repeat' (conv=>whnf); first
 | (refine nameB_cases (b:=r.Yes) (fun h=>?_) (fun h=>?_))
 | refine nameB_true ?_
 | refine nameB_false ?_
 | (refine nameB_dec (fun h=>?_) (fun h=>?_) <;> try simp only [lensB] at h)
 | (refine nameB_cases (fun h=>?_) (fun h=>?_) <;> try simp only [nmL,lensB] at h)
 | refine splitB_true ?_
 | refine splitB_false ?_
 | refine Call0 (c_impl_isTxn ..) rfl rfl ?_
 | refine Call0 (c_impl_isTime ..) rfl rfl ?_
 | refine Call0 (c_impl_within ..) rfl rfl ?_
 | refine Call0 (c_impl_areRising r.Reads hok.2.2.2.2.1) rfl rfl ?_
 | refine Call0 (c_impl_GoodWrites r.Writes hok.2.2.2.2.2.1 hw) rfl rfl ?_
 | refine sdA (by first | exact nbT rfl | exact rfl | omega | fail) ?_
 | fail
 all_goals
  conv=>whnf
  refine OutA_plain rfl rfl ?_
  first
  | rfl
  | (simp only [okRec, *,named,AV.sub,AV.sub.subL,Bool.and_true,Bool.and_false,Bool.true_and,Bool.false_and,Bool.or_true,Bool.or_false,Bool.true_or,Bool.false_or,Bool.not_true,Bool.not_false,if_true,if_false,decide_true,decide_false,Bool.false_eq_true,Bool.and_self]; done)
  | (simp_all [okRec,named,AV.sub,AV.sub.subL]; done)
  | (simp_all [okRec,named,AV.sub,AV.sub.subL] <;> (intros; omega))
  | (exfalso; omega)
theorem c_spec_l4Good (r : RecT) (hok : r.ok) (hw : r.Writes.length <= 1048576) (hr : r.Reads.length <= 1048576) : PC Tryz.prog false 39 [.agg r.cells] (.bool (okRec r)) []:=by
 have hs : IntKind.i64.wrap ((r.Reads.length : Int) + (r.Writes.length : Int)) = (r.Reads.length : Int) + (r.Writes.length : Int):=i64_wrap (by omega) (by omega)
 refine pc_at Tryz.func39 rfl (by kernel_rfl) 112 [.tmp 2] rfl rfl ?_
 repeat' (conv=>whnf); first
 | (refine nameB_cases (b:=r.Yes) (fun h=>?_) (fun h=>?_))
 | refine nameB_true ?_
 | refine nameB_false ?_
 | refine nameB_dyes ‹_› ?_
 | refine nameB_dno ‹_› ?_
 | (refine nameB_dec (fun h=>?_) (fun h=>?_) <;> try simp only [lensB] at h)
 | (refine nameB_cases (fun h=>?_) (fun h=>?_) <;> try simp only [nmL,lensB] at h)
 | refine splitB_true ?_
 | refine splitB_false ?_
 | refine Call0 (c_spec_l1In ..) rfl rfl ?_
 | refine Call0 (c_spec_l3Time ..) rfl rfl ?_
 | refine Call0 (c_spec_l4Keys r.Reads hok.2.2.2.2.1) rfl rfl ?_
 | refine Call0 (c_spec_l3Writes r.Writes hok.2.2.2.2.2.1) rfl rfl ?_
 | refine sdA (by first | exact nbT rfl | exact rfl | omega | fail) ?_
 | fail
 all_goals
  conv=>whnf
  refine OutA_plain rfl rfl ?_
  first
  | rfl
  | (simp_all [okRec,inB,named,AV.sub,AV.sub.subL]; done)
  | (simp_all [okRec,inB,named,AV.sub,AV.sub.subL] <;> (intros; first | omega | fail))
  | (have q : (rising none r.Reads && decide ((r.Reads.length : Int) <= 8)) = false:=‹_›; rw [Bool.and_eq_false_iff] at q; rcases q with q | q <;> (unfold okRec; rw [if_pos ‹_›]; simp only [q,Bool.and_false,Bool.false_and]; rfl))
  | (have q : IntKind.i64.wrap ((r.Reads.length : Int) + (r.Writes.length : Int)) > 0:=‹_›; have hz4 : 0 < (r.Reads.length : Int) + (r.Writes.length : Int):=hs ▸ q; clear hs q; by_cases hz5 : (r.Reads.length : Int) = 0 <;> by_cases hz6 : (r.Writes.length : Int) = 0 <;> first | (exfalso; omega) | (simp_all [okRec,inB,named,AV.sub]; done) | (simp_all [okRec,inB,named,AV.sub] <;> (intros; omega)))
  | (have q : ¬ (IntKind.i64.wrap ((r.Reads.length : Int) + (r.Writes.length : Int)) > 0):=‹_›; have hz0 : (r.Reads.length : Int) + (r.Writes.length : Int) <= 0:=hs ▸ Int.not_lt.1 q; clear hs q; have hz1 : (r.Reads.length : Int) = 0:=(by omega); have hz2 : (r.Writes.length : Int) = 0:=(by omega); simp_all [okRec,named,AV.sub]; done)
theorem idxF_bound {α : Type} {q : α -> Bool} {xs : List α} (h : ¬ idxF q 0 xs < 0) : (idxF q 0 xs).toNat < xs.length:=by
 obtain ⟨x,h1,_⟩:=idxF_lt (xs:=xs) (k:=0) (q:=q) rfl (by omega)
 exact (List.getElem?_eq_some_iff.1 h1).1
theorem allR_go {α : Type} {q : α -> Bool} {xs : List α} {k : Nat} {B : Bool} {x : α} (h : (xs.drop k).all q = B) (hx : xs[k]? = some x) (hq : q x = true) : (xs.drop (k + 1)).all q = B:=by
 rw [drop_get hx,List.all_cons,hq,Bool.true_and] at h
 exact h
theorem allR_bad {α : Type} {q : α -> Bool} {xs : List α} {k : Nat} {B : Bool} {x : α} (h : (xs.drop k).all q = B) (hx : xs[k]? = some x) (hq : q x = false) : B = false:=by
 rw [drop_get hx,List.all_cons,hq,Bool.false_and] at h
 exact h.symm
theorem allR_end {α : Type} {q : α -> Bool} {xs : List α} {k : Nat} {B : Bool} (h : (xs.drop k).all q = B) (hk : ¬ (k : Int) < xs.length) : B = true:=by
 rw [List.drop_eq_nil_of_le (by omega)] at h
 exact h.symm
theorem inB_sp {a n b : Int} (h : inB a n b = true) : a <= n /\ n <= b:=by simpa only [inB,baT,decide_eq_true_eq] using h
def entAt (term : Int) (pre : List EntryT) (e : EntryT) : Bool:=(inB 1 e.Term term && okRec e.Rec) && prevB (fun a b=>decide (a.Term <= b.Term)) pre e
def okLog (l : List EntryT) (term : Int) : Bool:=allPre (entAt term) [] l && decide ((l.length : Int) <= 60)
theorem entAt_yes {term : Int} {pre : List EntryT} {e : EntryT} (h1 : inB 1 e.Term term = true) (h2 : okRec e.Rec = true) (h3 : prevB (fun a b : EntryT=>decide (a.Term <= b.Term)) pre e = true) : entAt term pre e = true:=by simp only [entAt,h1,h2,h3,Bool.and_true]
theorem entAt_no {term : Int} {pre : List EntryT} {e : EntryT} (h : inB 1 e.Term term = false \/ okRec e.Rec = false \/ prevB (fun a b : EntryT=>decide (a.Term <= b.Term)) pre e = false) : entAt term pre e = false:=by
 rcases h with h | h | h <;> simp only [entAt,h,Bool.false_and,Bool.and_false]
theorem ent_len {e : EntryT} (h : e.w <= 1048576) : e.Rec.Writes.length <= 1048576 /\ e.Rec.Reads.length <= 1048576:=by
 have h2 : e.w = wL List.length e.Rec.Reads + wL WriteT.w e.Rec.Writes:=rfl
 have h3:=wL_len (w:=List.length) (xs:=e.Rec.Reads)
 have h4:=wL_len (w:=WriteT.w) (xs:=e.Rec.Writes)
 omega
theorem log_mem {l : List EntryT} {e : EntryT} {k : Nat} (hw : wL EntryT.w l <= 1048576) (h : l[k]? = some e) : e.w <= 1048576:=Nat.le_trans (wL_mem (mgE h)).2 hw
theorem c_impl_isLog (l : List EntryT) (term : Int) (hok : okL EntryT.ok l) (hw : wL EntryT.w l <= 1048576) : PC Tryz.prog false 57 [.sl (l.map EntryT.cells),.int .i64 term] (.bool (okLog l term)) []:=by
 have hl:=hok.1
 refine pc_at Tryz.func57 rfl (by kernel_rfl) 44 [.tmp 4] rfl rfl ?_
 repeat' (conv=>whnf); first
 | refine ix_as (m:=k - 1) (by simp only [i64_wrap_eq]; omega) (by omega) (fun y hy=>?_)
 | (refine nameB_cases (b:=okRec x.Rec) (fun h=>?_) (fun h=>?_))
 | refine nameB_true ?_
 | refine nameB_false ?_
 | (refine nameB_dec (fun h=>?_) (fun h=>?_) <;> try simp only [lensB] at h)
 | (refine nameB_cases (fun h=>?_) (fun h=>?_) <;> try simp only [nmL,lensB] at h)
 | refine splitB_true ?_
 | refine splitB_false ?_
 | refine draw_text (by kernel_rfl) (by kernel_rfl) (by kernel_rfl) ?_
 | ((refine Loop_at [0,1,7,8] [] (Nat) (fun k=>allPre (entAt term) (l.take k) (l.drop k) = allPre (entAt term) [] l /\ k <= l.length) (fun k=>[(9,.int .i64 (k : Nat))]) (fun k=>[]) (fun k=>l.length - k) 0 ⟨by first | (simp_all <;> fail) | rfl | fail,trivial⟩ trivial (by (try dsimp only); first | (exact ⟨rfl,by omega⟩) | fail) ?_; (conv=>whnf); refine side_and (side_of (by first | exact fun k=>rfl | exact fun k=>by simp [headOk,closedE,closedO,closedL,AV.closed,hcap.closed,hasId,AObj.box,BK.ofB])) ?_; rintro k hT; try dsimp only at hT))
 | (refine Again_of (k + 1) ⟨by first | rfl | exact i64_next (by omega) | (simp_all <;> fail) | fail,trivial⟩ trivial (by first | (and_intros <;> first | rfl | trivial) | fail) (by first | (and_intros <;> first | rfl | trivial) | fail) rfl rfl rfl (by (try dsimp only); first | (first | exact ⟨allPre_go hT.1 hx (entAt_yes ‹_› ‹_› (prevB_zero ‹_›)),by omega⟩ | exact ⟨allPre_go hT.1 hx (entAt_yes ‹_› ‹_› ((prevB_pos ‹_› hy).trans (decide_eq_true (by omega)))),by omega⟩) | fail) (show _ < _ by (try dsimp only); omega))
 | refine CallD0 (c_impl_within ..) rfl rfl rfl ?_
 | refine CallD0 (c_impl_GoodRec x.Rec (hok.2 x (mgE hx)).2 (ent_len (log_mem hw hx)).1 (ent_len (log_mem hw hx)).2) rfl rfl rfl ?_
 | (refine ix_map (by omega) (by (try simp only [List.length_take]); omega) (fun x hx=>?_); try simp only [Int.toNat_natCast] at hx)
 | refine sdA ⟨nbT rfl,rfl⟩ ?_
 | refine sdA (by first | exact nbT rfl | exact rfl | omega | fail) ?_
 | refine sdA (by first | (and_intros <;> first | rfl | omega | exact nbT rfl) | fail) ?_
 | refine LoadK_of rfl rfl ?_
 | fail
 all_goals
  conv=>whnf
  refine OutA_plain rfl rfl ?_
  first
  | (have hb:=allPre_bad hT.1 hx (entAt_no (.inl ‹_›)); simp only [okLog,hb,Bool.false_and]; rfl)
  | (have hb:=allPre_bad hT.1 hx (entAt_no (.inr (.inl ‹_›))); simp only [okLog,hb,Bool.false_and]; rfl)
  | (have hb:=allPre_bad hT.1 hx (entAt_no (.inr (.inr ((prevB_pos ‹_› hy).trans (decide_eq_false (by omega)))))); simp only [okLog,hb,Bool.false_and]; rfl)
  | (have hb:=allPre_end hT.1 ‹_›; simp only [okLog,hb,Bool.true_and, *]; rfl)
def lastT (l : List EntryT) : Int:=match l.getLast? with | none=>1 | some e=>e.Term
theorem lastT_next {l : List EntryT} {k : Nat} {x : EntryT} (hx : l[k]? = some x) : lastT (l.take (k + 1)) = x.Term:=by
 unfold lastT
 rw [take_get hx,List.getLast?_append,List.getLast?_singleton]
 rfl
theorem entAt_last {term : Int} {pre : List EntryT} {e : EntryT} (h : 1 <= lastT pre) : entAt term pre e = (inB (lastT pre) e.Term term && okRec e.Rec):=by
 unfold entAt prevB
 unfold lastT at *
 cases hg : pre.getLast? with
 | none=>simp only [hg,Bool.and_true]
 | some y =>
  simp only [hg] at h ⊢
  unfold inB
  cases okRec e.Rec <;> by_cases h1 : 1 <= e.Term <;> by_cases h2 : y.Term <= e.Term <;> simp [h1,h2] <;> omega
theorem entAt_lyes {term : Int} {pre : List EntryT} {e : EntryT} (h : 1 <= lastT pre) (h1 : inB (lastT pre) e.Term term = true) (h2 : okRec e.Rec = true) : entAt term pre e = true:=by rw [entAt_last h,h1,h2]; rfl
theorem entAt_lno {term : Int} {pre : List EntryT} {e : EntryT} (h : 1 <= lastT pre) (h1 : inB (lastT pre) e.Term term = false \/ okRec e.Rec = false) : entAt term pre e = false:=by
 rw [entAt_last h]
 rcases h1 with h1 | h1 <;> simp [h1]
def okRep (term : Int) (r : ReplicaT) : Bool:=okLog r.Log term && inB 0 r.Sure (r.Log.length : Int)
theorem c_spec_l9GoodRep (r : ReplicaT) (term : Int) (hok : r.ok) (hw : r.w <= 1048576) : PC Tryz.prog false 63 [.agg r.cells,.int .i64 term] (.bool (okRep term r)) []:=by
 have hl:=hok.2.1.1
 have hw2 : wL EntryT.w r.Log <= 1048576:=hw
 refine pc_at Tryz.func63 rfl (by kernel_rfl) 53 [.tmp 4] rfl rfl ?_
 repeat' (conv=>whnf); first
 | (refine nameB_cases (b:=okRec x.Rec) (fun h=>?_) (fun h=>?_))
 | refine nameB_true ?_
 | refine nameB_false ?_
 | (refine nameB_dec (fun h=>?_) (fun h=>?_) <;> try simp only [lensB] at h)
 | (refine nameB_cases (fun h=>?_) (fun h=>?_) <;> try simp only [nmL,lensB] at h)
 | refine splitB_true ?_
 | refine splitB_false ?_
 | ((refine Loop_at [1,2] [0] (Nat) (fun k=>allPre (entAt term) (r.Log.take k) (r.Log.drop k) = allPre (entAt term) [] r.Log /\ k <= r.Log.length /\ 1 <= lastT (r.Log.take k)) (fun k=>[(5,.int .i64 (lastT (r.Log.take k))),(6,.int .i64 (k : Nat))]) (fun k=>[]) (fun k=>r.Log.length - k) 0 ⟨by first | first | rfl | exact congrArg (AV.int .i64) (lastT_next hx).symm | rfl | fail,by first | first | rfl | exact congrArg (AV.int .i64) (lastT_next hx).symm | rfl | fail,trivial⟩ trivial (by (try dsimp only); first | (exact ⟨rfl,by omega,Int.le_refl _⟩) | fail) ?_; (conv=>whnf); refine side_and (side_of (by first | exact fun k=>rfl | exact fun k=>by simp [headOk,closedE,closedO,closedL,AV.closed,hcap.closed,hasId,AObj.box,BK.ofB])) ?_; rintro k hT; try dsimp only at hT))
 | (refine Again_of (k + 1) ⟨by first | first | rfl | exact congrArg (AV.int .i64) (lastT_next hx).symm | rfl | fail,by first | rfl | exact i64_next (by omega) | first | rfl | exact congrArg (AV.int .i64) (lastT_next hx).symm | fail,trivial⟩ trivial (by first | (and_intros <;> first | rfl | trivial) | fail) (by first | (and_intros <;> first | rfl | trivial) | fail) rfl rfl rfl (by (try dsimp only); first | (exact ⟨allPre_go hT.1 hx (entAt_lyes hT.2.2 ‹_› ‹_›),by omega,by rw [lastT_next hx]; have h9:=inB_sp ‹_›; omega⟩) | fail) (show _ < _ by (try dsimp only); omega))
 | refine Call0 (c_spec_l1In ..) rfl rfl ?_
 | refine Call0 (c_spec_l4Good x.Rec (hok.2.1.2 x (mgE hx)).2 (ent_len (log_mem hw2 hx)).1 (ent_len (log_mem hw2 hx)).2) rfl rfl ?_
 | refine CallI (nid:=4096 * 7 + 16 * 17) (f:=43) Tryz.func43 rfl (by kernel_rfl) 1000000 [1,2,6,37] 5 [.tmp 2] rfl rfl ?_
 | refine RetI_of rfl ?_
 | refine ix_map_at hx ?_
 | (refine ix_map (by omega) (by (try simp only [List.length_take]); omega) (fun x hx=>?_); try simp only [Int.toNat_natCast] at hx)
 | refine sdA (by first | exact nbT rfl | exact rfl | omega | fail) ?_
 | fail
 all_goals
  conv=>whnf
  refine OutA_plain rfl rfl ?_
  first
  | (have hb:=allPre_bad hT.1 hx (entAt_lno hT.2.2 (.inl ‹_›)); simp only [okRep,okLog,hb,Bool.false_and]; rfl)
  | (have hb:=allPre_bad hT.1 hx (entAt_lno hT.2.2 (.inr ‹_›)); simp only [okRep,okLog,hb,Bool.false_and]; rfl)
  | (have hb:=allPre_end hT.1 ‹_›; have h9 : (r.Log.length : Int) <= 60:=(by omega); simp only [okRep,okLog,hb,h9,Bool.true_and,decide_true, *]; rfl)
  | (have h9 : ¬ (r.Log.length : Int) <= 60:=(by omega); simp only [okRep,okLog,h9,Bool.false_and,Bool.and_false,decide_false]; rfl)
  | (simp only [okRep,Bool.and_false, *]; rfl)
theorem c_IndexFunc_Replica (xs : List ReplicaT) (f : Nat) (caps : List AV) (q : ReplicaT -> Bool) (hl : xs.length <= 9223372036854775807) (hcap : Caps caps) (hq : ∀ x ∈ xs,PC Tryz.prog false f (.agg x.cells :: caps) (.bool (q x)) []) : PC Tryz.prog false 105 [.sl (xs.map ReplicaT.cells),.fn f caps] (.int .i64 (idxF q 0 xs)) []:=by
 refine pc_at Tryz.func105 rfl (by kernel_rfl) 19 [.tmp 4] rfl rfl ?_
 repeat' (conv=>whnf); first
 | (refine nameB_dec (fun h=>?_) (fun h=>?_) <;> try simp only [lensB] at h)
 | (refine nameB_cases (fun h=>?_) (fun h=>?_) <;> try simp only [nmL,lensB] at h)
 | refine splitB_true ?_
 | refine splitB_false ?_
 | ((refine Loop_at [0,1,7] [] (Nat) (fun k=>idxF q k (xs.drop k) = idxF q 0 xs /\ k <= xs.length) (fun k=>[(8,.int .i64 (k : Nat))]) (fun k=>[]) (fun k=>xs.length - k) 0 ⟨by first | (simp_all <;> fail) | rfl | fail,trivial⟩ trivial (by (try dsimp only); first | trivial | (refine ⟨?_,by omega⟩; simp <;> fail) | (simp <;> fail) | fail) ?_; (conv=>whnf); refine side_and (side_of (by first | exact fun k=>rfl | exact fun k=>by simp [headOk,closedE,closedO,closedL,AV.closed,hcap.closed,hasId,AObj.box,BK.ofB])) ?_; rintro k hT; try dsimp only at hT))
 | (refine Again_of (k + 1) ⟨by first | rfl | exact i64_next (by omega) | (simp_all <;> fail) | fail,trivial⟩ trivial (by first | (and_intros <;> first | rfl | trivial) | fail) (by first | (and_intros <;> first | rfl | trivial) | fail) rfl rfl rfl (by (try dsimp only); (refine ⟨?_,by omega⟩; first | (rw [<- hT.1,drop_get hx]; simp_all [idxF,List.all_cons,List.any_cons] <;> fail) | (have hg:=drop_get hx; simp_all [idxF,List.all_cons,List.any_cons] <;> fail) | fail)) (show _ < _ by (try dsimp only); omega))
 | refine Call0 (hq x (mgE hx)) (congrArg (List.cons _) (hcap.same _)) (hcap.known _) ?_
 | (refine ix_map (by omega) (by (try simp only [List.length_take]); omega) (fun x hx=>?_); try simp only [Int.toNat_natCast] at hx)
 | refine sdA (by first | exact nbT rfl | exact rfl | omega | fail) ?_
 | fail
 all_goals
  conv=>whnf
  refine OutA_plain rfl rfl ?_
  first
  | (simp_all [idxF,named,AV.sub,AV.sub.subL]; done)
  | (rw [<- hT.1,drop_get hx]; simp_all [idxF,List.all_cons,List.any_cons,named,AV.sub,AV.sub.subL]; done)
  | (have hg:=drop_get hx; simp_all [idxF,List.all_cons,List.any_cons,named,AV.sub,AV.sub.subL]; done)
  | (rw [List.drop_eq_nil_of_le (by omega)] at hT; simp_all [idxF,named,AV.sub,AV.sub.subL]; done)
theorem c_ContainsFunc_Replica (xs : List ReplicaT) (f : Nat) (caps : List AV) (q : ReplicaT -> Bool) (hl : xs.length <= 9223372036854775807) (hcap : Caps caps) (hq : ∀ x ∈ xs,PC Tryz.prog false f (.agg x.cells :: caps) (.bool (q x)) []) : PC Tryz.prog false 68 [.sl (xs.map ReplicaT.cells),.fn f caps] (.bool (xs.any q)) []:=by
 refine pc_at Tryz.func68 rfl (by kernel_rfl) 9 [.tmp 4] rfl rfl ?_
 repeat' (conv=>whnf); first
 | (refine nameB_dec (fun h=>?_) (fun h=>?_) <;> try simp only [lensB] at h)
 | refine Call0 (c_IndexFunc_Replica xs f caps q hl hcap hq) (congrArg (fun l=>[AV.sl _,AV.fn f l]) (hcap.same1 _)) ((Bool.and_true _).trans (hcap.known1 _)) ?_
 | fail
 all_goals
  conv=>whnf
  refine OutA_plain rfl rfl ?_
  first
  | (simp_all [idxF_pos,named,AV.sub,AV.sub.subL]; done)
  | (rw [<- hT.1,drop_get hx]; simp_all [idxF_pos,List.all_cons,List.any_cons,named,AV.sub,AV.sub.subL]; done)
  | (have hg:=drop_get hx; simp_all [idxF_pos,List.all_cons,List.any_cons,named,AV.sub,AV.sub.subL]; done)
  | (rw [List.drop_eq_nil_of_le (by omega)] at hT; simp_all [idxF_pos,named,AV.sub,AV.sub.subL]; done)
def upAt (g : GroupT) (n : Int) : Bool:=match g.Reps[n.toNat]? with | some r=>r.Up | none=>false
theorem upAt_of {g : GroupT} {n : Int} {y : ReplicaT} (h : g.Reps[n.toNat]? = some y) : upAt g n = y.Up:=by unfold upAt; rw [h]
def isRep (g : GroupT) (n : Int) : Bool:=inB 0 n ((g.Reps.length : Int) - 1)
theorem isRep_lt {g : GroupT} {n : Int} (h : isRep g n = true) : 0 <= n /\ n.toNat < g.Reps.length:=by
 have:=inB_sp h
 omega
def okMany (n : Int) : Bool:=decide (n = 3) || decide (n = 5)
def okLead (g : GroupT) : Bool:=decide (g.Lead = -1) || (isRep g g.Lead && upAt g g.Lead)
def okGroup (g : GroupT) : Bool:=(okMany (g.Reps.length : Int) && inB 0 g.Term 200 && okLead g) && g.Reps.all (okRep g.Term)
def GB (g : GroupT) : Prop:=g.Reps.length <= 1048576 /\ ∀ r ∈ g.Reps,r.w <= 1048576
theorem gb_of {g : GroupT} (hw : g.w <= 1048576) : GB g:=⟨Nat.le_trans wL_len hw,fun r h=>Nat.le_trans (wL_mem h).2 hw⟩
theorem rep_w {g : GroupT} {r : ReplicaT} (hw : GB g) (h : r ∈ g.Reps) : r.w <= 1048576:=hw.2 r h
theorem reps_len {g : GroupT} (hw : GB g) : g.Reps.length <= 1048576:=hw.1
theorem c_impl_isMany (n : Int) : PC Tryz.prog false 36 [.int .i64 n] (.bool (okMany n)) []:=by
 refine pc_at Tryz.func36 rfl (by kernel_rfl) 9 [.tmp 2] rfl rfl ?_
 repeat' (conv=>whnf); first
 | (refine nameB_dec (fun h=>?_) (fun h=>?_) <;> try simp only [lensB] at h)
 | refine splitB_true ?_
 | refine splitB_false ?_
 | fail
 all_goals
  conv=>whnf
  refine OutA_plain rfl rfl ?_
  first
  | rfl
  | (simp_all [okMany,named,AV.sub,AV.sub.subL]; done)
theorem c_impl_Group_isRep (g : GroupT) (n : Int) (hw : GB g) : PC Tryz.prog false 67 [.agg g.cells,.int .i64 n] (.bool (isRep g n)) []:=by
 have hl:=reps_len hw
 have hs : IntKind.i64.wrap ((g.Reps.length : Int) - 1) = (g.Reps.length : Int) - 1:=i64_wrap (by omega) (by omega)
 refine pc_at Tryz.func67 rfl (by kernel_rfl) 11 [.tmp 4] rfl rfl ?_
 repeat' (conv=>whnf); first
 | (refine nameB_cases (fun h=>?_) (fun h=>?_) <;> try simp only [nmL,lensB] at h)
 | refine Call0 (c_impl_within ..) rfl rfl ?_
 | refine sdA (by first | exact nbT rfl | exact rfl | omega | fail) ?_
 | fail
 all_goals
  conv=>whnf
  refine OutA_plain rfl rfl ?_
  first
  | (have hq : inB 0 n (IntKind.i64.wrap ((g.Reps.length : Int) - 1)) = true:=‹_›; rw [hs] at hq; simp only [isRep,hq]; rfl)
  | (have hq : inB 0 n (IntKind.i64.wrap ((g.Reps.length : Int) - 1)) = false:=‹_›; rw [hs] at hq; simp only [isRep,hq]; rfl)
theorem c_impl_GoodGroup_1 (g : GroupT) (r : ReplicaT) (hok : r.ok) (hw : r.w <= 1048576) : PC Tryz.prog false 69 [.agg r.cells,.rp g.cells] (.bool (!okRep g.Term r)) []:=by
 have hl:=hok.2.1.1
 refine pc_at Tryz.func69 rfl (by kernel_rfl) 19 [.tmp 3] rfl rfl ?_
 repeat' (conv=>whnf); first
 | (refine nameB_cases (b:=okLog r.Log g.Term) (fun h=>?_) (fun h=>?_))
 | refine nameB_true ?_
 | refine nameB_false ?_
 | (refine nameB_cases (fun h=>?_) (fun h=>?_) <;> try simp only [nmL,lensB] at h)
 | refine splitB_true ?_
 | refine splitB_false ?_
 | refine Call0 (c_impl_isLog r.Log g.Term hok.2.1 hw) rfl rfl ?_
 | refine Call0 (c_impl_within ..) rfl rfl ?_
 | refine sdA (by first | exact nbT rfl | exact rfl | omega | fail) ?_
 | fail
 all_goals
  conv=>whnf
  refine OutA_plain rfl rfl ?_
  first
  | (simp_all [okRep,named,AV.sub,AV.sub.subL]; done)
theorem c_impl_GoodGroup (g : GroupT) (hok : g.ok) (hw : GB g) : PC Tryz.prog false 32 [.agg g.cells] (.bool (okGroup g)) []:=by
 have hl:=reps_len hw
 refine pc_at Tryz.func32 rfl (by kernel_rfl) 40 [.tmp 2] rfl rfl ?_
 repeat' (conv=>whnf); first
 | refine ix_as (f:=ReplicaT.cells) (m:=g.Lead.toNat) (by have h9:=isRep_lt (g:=g) ‹_›; omega) (by have h9:=isRep_lt (g:=g) ‹_›; omega) (fun y hy=>?_)
 | refine nameB_self (b:=y.Up) ?_
 | (refine nameB_cases (b:=isRep g g.Lead) (fun h=>?_) (fun h=>?_))
 | (refine nameB_cases (b:=g.Reps.any _) (fun h=>?_) (fun h=>?_))
 | refine nameB_true ?_
 | refine nameB_false ?_
 | (refine nameB_cases (fun h=>?_) (fun h=>?_) <;> try simp only [nmL,lensB] at h)
 | refine splitB_true ?_
 | refine splitB_false ?_
 | refine Call0 (c_impl_isMany ..) rfl rfl ?_
 | refine Call0 (c_impl_within ..) rfl rfl ?_
 | refine Call0 (c_impl_Group_isRep g g.Lead hw) rfl rfl ?_
 | refine Call0 (c_ContainsFunc_Replica g.Reps 69 [.rp g.cells] (fun r=>!okRep g.Term r) (by omega) ⟨fun _=>rfl,fun _=>rfl,fun _=>rfl,fun _=>rfl,fun _=>rfl⟩ (fun r hr=>c_impl_GoodGroup_1 g r (hok.1.2 r hr) (rep_w hw hr))) rfl rfl ?_
 | refine sdA (by first | exact nbT rfl | exact rfl | omega | fail) ?_
 | fail
 all_goals
  (try have hyu:=upAt_of hy)
  conv=>whnf
  refine OutA_plain rfl rfl ?_
  first
  | (simp_all [okGroup,okLead,named,AV.sub,AV.sub.subL]; done)
  | (have hb : g.Reps.all (okRep g.Term) = !(g.Reps.any fun r=>!okRep g.Term r):=(by rw [any_notN,Bool.not_not]); simp_all [okGroup,okLead,named,AV.sub,AV.sub.subL]; done)
theorem c_spec_GoodGroup (g : GroupT) (hok : g.ok) (hw : GB g) : PC Tryz.prog false 42 [.agg g.cells] (.bool (okGroup g)) []:=by
 have hl:=reps_len hw
 have hs : IntKind.i64.wrap ((g.Reps.length : Int) - 1) = (g.Reps.length : Int) - 1:=i64_wrap (by omega) (by omega)
 refine pc_at Tryz.func42 rfl (by kernel_rfl) 58 [.tmp 2] rfl rfl ?_
 repeat' (conv=>whnf); first
 | refine ix_as (f:=ReplicaT.cells) (m:=g.Lead.toNat) (by omega) (by have h9:=inB_sp (a:=-1) (n:=g.Lead) ‹_›; omega) (fun y hy=>?_)
 | refine nameB_self (b:=y.Up) ?_
 | (refine nameB_cases (b:=okRep g.Term x) (fun h=>?_) (fun h=>?_))
 | refine nameB_true ?_
 | refine nameB_false ?_
 | (refine nameB_dec (fun h=>?_) (fun h=>?_) <;> try simp only [lensB] at h)
 | (refine nameB_cases (fun h=>?_) (fun h=>?_) <;> try simp only [nmL,lensB] at h)
 | refine splitB_true ?_
 | refine splitB_false ?_
 | refine draw_text (by kernel_rfl) (by kernel_rfl) (by kernel_rfl) ?_
 | ((refine Loop_at [1] [0] (Nat) (fun k=>((g.Reps.drop k).all (okRep g.Term)) = (g.Reps.all (okRep g.Term)) /\ k <= g.Reps.length) (fun k=>[(3,.int .i64 (k : Nat))]) (fun k=>[]) (fun k=>g.Reps.length - k) 0 ⟨by first | (simp_all <;> fail) | rfl | fail,trivial⟩ trivial (by (try dsimp only); first | (exact ⟨rfl,by omega⟩) | fail) ?_; (conv=>whnf); refine side_and (side_of (by first | exact fun k=>rfl | exact fun k=>by simp [headOk,closedE,closedO,closedL,AV.closed,hcap.closed,hasId,AObj.box,BK.ofB])) ?_; rintro k hT; try dsimp only at hT))
 | (refine Again_of (k + 1) ⟨by first | rfl | exact i64_next (by omega) | (simp_all <;> fail) | fail,trivial⟩ trivial (by first | (and_intros <;> first | rfl | trivial) | fail) (by first | (and_intros <;> first | rfl | trivial) | fail) rfl rfl rfl (by (try dsimp only); first | (exact ⟨allR_go hT.1 hx ‹_›,by omega⟩) | fail) (show _ < _ by (try dsimp only); omega))
 | refine Call0 (c_spec_l1In ..) rfl rfl ?_
 | refine CallD0 (c_spec_l9GoodRep x g.Term (hok.1.2 x (mgE hx)) (rep_w hw (mgE hx))) rfl rfl rfl ?_
 | (refine ix_map (by omega) (by (try simp only [List.length_take]); omega) (fun x hx=>?_); try simp only [Int.toNat_natCast] at hx)
 | refine sdA (by first | exact nbT rfl | exact rfl | omega | fail) ?_
 | refine LoadK_of rfl rfl ?_
 | fail
 all_goals
  (try have hyu:=upAt_of hy)
  conv=>whnf
  refine OutA_plain rfl rfl ?_
  first
  | (have hb:=allR_bad hT.1 hx ‹_›; simp only [okGroup,hb,Bool.and_false]; rfl)
  | (have hb:=allR_end hT.1 ‹_›; have h9:=inB_sp (a:=-1) (n:=g.Lead) ‹_›; by_cases h8 : g.Lead = -1 <;> simp_all [okGroup,okLead,isRep,okMany,inB,named,AV.sub,AV.sub.subL] <;> omega)
  | (simp_all [okGroup,okLead,isRep,okMany,inB,named,AV.sub,AV.sub.subL]; done)
  | (simp_all [okGroup,okLead,isRep,okMany,inB,named,AV.sub,AV.sub.subL] <;> omega)
theorem c_Clone_str2 (xs : List (List UInt8)) (hl : xs.length <= 1048576) : PC Tryz.prog false 125 [.sl (xs.map strC)] (.own 0) [⟨false,9,1,xs.map strC⟩]:=by
 refine pc_at Tryz.func125 rfl (by kernel_rfl) 8 [.tmp 2] rfl rfl ?_
 repeat' (conv=>whnf); first
 | refine splitB_true ?_
 | refine splitB_false ?_
 | refine sdA ⟨nbT rfl,rfl⟩ ?_
 | refine sdA (by first | exact nbT rfl | exact rfl | omega | fail) ?_
 | refine sdA (by first | (and_intros <;> first | rfl | omega | exact nbT rfl) | fail) ?_
 | refine sdA (by first | (and_intros <;> first | exact nbT rfl | rfl | omega | (simp only [lensB,lensC]; omega) | exact bytes_ok (nbT rfl) (by omega) (by simp only [lensB,lensC]; omega) | exact bytes_okN (nbT rfl) (by simp only [lensB,lensC]; omega)) | fail) ?_
 | refine nilB_intro (fun h=>?_) ?_
 | refine side_and (side_of (map_len (fun _=>rfl))) ?_
 | refine side_and (side_of (map_one (fun _=>rfl) _)) ?_
 | fail
 all_goals
  conv=>whnf
  first
  | exact OutA_ids rfl rfl rfl ⟨⟨_,_,_,rfl,rfl⟩,trivial⟩ rfl (.inr (flat_one (flat_map (fun _=>rfl) _)))
  | exact OutA_nil 2 1 9 1 rfl rfl (by decide) (OutA_ids rfl rfl rfl ⟨⟨_,_,_,rfl,congrArg (AObj.mk false _ _) (map_nil_of ‹_›)⟩,trivial⟩ rfl (.inr (flat_one (flat_map (fun _=>rfl) _))))
theorem c_Clone_Write2 (xs : List WriteT) (hl : xs.length <= 1048576) : PC Tryz.prog false 126 [.sl (xs.map WriteT.cells)] (.own 0) [⟨false,131,3,xs.map WriteT.cells⟩]:=by
 refine pc_at Tryz.func126 rfl (by kernel_rfl) 8 [.tmp 2] rfl rfl ?_
 repeat' (conv=>whnf); first
 | refine splitB_true ?_
 | refine splitB_false ?_
 | refine sdA ⟨nbT rfl,rfl⟩ ?_
 | refine sdA (by first | exact nbT rfl | exact rfl | omega | fail) ?_
 | refine sdA (by first | (and_intros <;> first | rfl | omega | exact nbT rfl) | fail) ?_
 | refine sdA (by first | (and_intros <;> first | exact nbT rfl | rfl | omega | (simp only [lensB,lensC]; omega) | exact bytes_ok (nbT rfl) (by omega) (by simp only [lensB,lensC]; omega) | exact bytes_okN (nbT rfl) (by simp only [lensB,lensC]; omega)) | fail) ?_
 | refine nilB_intro (fun h=>?_) ?_
 | refine side_and (side_of (map_len (fun _=>rfl))) ?_
 | refine side_and (side_of (map_one (fun _=>rfl) _)) ?_
 | fail
 all_goals
  conv=>whnf
  first
  | exact OutA_ids rfl rfl rfl ⟨⟨_,_,_,rfl,rfl⟩,trivial⟩ rfl (.inr (flat_one (flat_map (fun _=>rfl) _)))
  | exact OutA_nil 2 1 131 3 rfl rfl (by decide) (OutA_ids rfl rfl rfl ⟨⟨_,_,_,rfl,congrArg (AObj.mk false _ _) (map_nil_of ‹_›)⟩,trivial⟩ rfl (.inr (flat_one (flat_map (fun _=>rfl) _))))
theorem c_impl_copyRec (x : RecT) (hr : x.Reads.length <= 1048576) (hw : x.Writes.length <= 1048576) : PC Tryz.prog false 90 [.agg x.cells] (.agg [.int .i64 x.Kind,.int .i64 x.Txn,.int .i64 x.Time,.int .i64 x.Lead,.own 0,.own 1,.bool x.Yes]) [⟨.deep [.leaf],9,1,(x.Reads.map strC)⟩,⟨.deep WriteT.shp,131,3,(x.Writes.map WriteT.cells)⟩]:=by
 refine pc_at Tryz.func90 rfl (by kernel_rfl) 12 [.cell 2 36] rfl rfl ?_
 repeat' (conv=>whnf); first
 | refine CallF (c_Clone_str2 x.Reads hr) rfl rfl rfl (nbT rfl) ?_
 | refine CallF (c_Clone_Write2 x.Writes hw) rfl rfl rfl (nbT rfl) ?_
 | refine sdA ⟨nbT rfl,rfl⟩ ?_
 | refine sdA (by first | exact nbT rfl | exact rfl | omega | fail) ?_
 | refine sdA (by first | (and_intros <;> first | rfl | omega | exact nbT rfl) | fail) ?_
 | fail
 all_goals
  conv=>whnf
  refine OutA_prom [(4128,[.leaf]),(8224,WriteT.shp)] ⟨⟨_,_,_,rfl,prom_map (fun _=>rfl)⟩,⟨_,_,_,rfl,prom_map (fun _=>rfl)⟩,trivial⟩ ?_
  conv=>whnf
  exact OutA_deep rfl rfl rfl ⟨⟨rfl,rfl⟩,⟨⟨rfl,rfl⟩,trivial⟩⟩ rfl
theorem c_impl_copyEntries (xs : List EntryT) (hw : wL EntryT.w xs <= 1048576) : PC Tryz.prog false 49 [.sl (xs.map EntryT.cells)] (.own 0) [⟨.deep EntryT.shp,50,8,xs.map EntryT.cells⟩]:=by
 have hl : xs.length <= 1048576:=Nat.le_trans wL_len hw
 refine pc_at Tryz.func49 rfl (by kernel_rfl) 27 [.tmp 2] rfl rfl ?_
 repeat' (conv=>whnf); first
 | (show Go.Ab.drawA _ _ _ _ _; refine draw_tail 9 (by kernel_rfl) (by kernel_rfl) (by kernel_rfl) ?_)
 | (refine nameB_dec (fun h=>?_) (fun h=>?_) <;> try simp only [lensB] at h)
 | refine splitB_true ?_
 | refine splitB_false ?_
 | ((refine Loop_prom [(4128,EntryT.shp)] ⟨⟨_,_,_,rfl,by first | exact prom_nil | exact prom_rep rfl | exact prom_map (fun _=>rfl) | exact prom_one rfl⟩,trivial⟩ ?_; refine Loop_at [3,9,10] [] (Nat) (fun k=>True /\ k <= xs.length) (fun k=>[(11,.int .i64 (k : Nat))]) (fun k=>[(4128,⟨.deep EntryT.shp,50,8,(xs.take k).map EntryT.cells ++ List.replicate (xs.length - k) [.int .i64 0,.int .i64 0,.int .i64 0,.int .i64 0,.int .i64 0,.nil,.nil,.bool false]⟩)]) (fun k=>xs.length - k) 0 ⟨by first | (simp_all <;> fail) | rfl | fail,trivial⟩ ⟨by first | rfl | exact congrArg (fun e=>some (AObj.mk _ _ _ e)) (set_rep hx) | exact congrArg (fun e=>some (AObj.mk _ _ _ e)) start_rep | fail | fail,trivial⟩ (by (try dsimp only); first | trivial | (refine ⟨?_,by omega⟩; simp <;> fail) | (simp <;> fail) | fail) ?_; (conv=>whnf); refine side_and (side_of (by first | exact fun k=>rfl | exact fun k=>by simp [headOk,closedE,closedO,closedL,AV.closed,hcap.closed,hasId,AObj.box,BK.ofB])) ?_; rintro k hT; try dsimp only at hT))
 | (refine Again_of (k + 1) ⟨by first | rfl | exact i64_next (by omega) | (simp_all <;> fail) | fail,trivial⟩ ⟨by first | rfl | exact congrArg (fun e=>some (AObj.mk _ _ _ e)) (set_rep hx) | exact congrArg (fun e=>some (AObj.mk _ _ _ e)) start_rep | fail | fail,trivial⟩ (by first | (and_intros <;> first | rfl | trivial) | fail) (by first | (and_intros <;> first | rfl | trivial) | fail) rfl rfl rfl (by (try dsimp only); first | (exact ⟨trivial,by omega⟩) | fail) (show _ < _ by (try dsimp only); omega))
 | refine CallDF (c_impl_copyRec x.Rec (ent_len (log_mem hw hx)).2 (ent_len (log_mem hw hx)).1) rfl rfl ⟨rfl,rfl⟩ ?_
 | (refine ix_map (by omega) (by (try simp only [List.length_take]); omega) (fun x hx=>?_); try simp only [Int.toNat_natCast] at hx)
 | refine sdA ⟨nbT rfl,rfl⟩ ?_
 | refine sdA (by first | exact nbT rfl | exact rfl | omega | fail) ?_
 | refine sdA (by first | (and_intros <;> first | rfl | omega | exact nbT rfl) | fail) ?_
 | refine sdA (by first | (and_intros <;> first | exact nbT rfl | rfl | omega | (simp only [lensB,lensC]; omega) | exact bytes_ok (nbT rfl) (by omega) (by simp only [lensB,lensC]; omega) | exact bytes_okN (nbT rfl) (by simp only [lensB,lensC]; omega)) | fail) ?_
 | refine StoreD_of rfl rfl rfl ?_
 | refine ix_rep (by simp; omega) (by omega) ?_
 | fail
 all_goals
  conv=>whnf
  exact OutA_deep rfl rfl rfl ⟨⟨congrArg (fun e=>some (AObj.mk _ _ _ e)) (full_rep (by omega)),rfl⟩,trivial⟩ rfl
end Go.Proofs.YtjjjalcmcifncaaGreat
