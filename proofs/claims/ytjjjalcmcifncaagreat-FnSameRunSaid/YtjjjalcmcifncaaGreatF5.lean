/- Part 5 of one proof: lemmas and contracts, laid one behind the other. No condition. -/
import Derived.Test.YtjjjalcmcifncaaGreatF4
import Derived.WalkKit
import Derived.Laws.IdiomStrings
import Derived.Laws.Concat
import Derived.Laws.Strings
import Derived.Laws.ResultCell
import Derived.Below
import Derived.Test.YtjjjalcmcifncaaGreatF2
import Derived.Test.YtjjjalcmcifncaaGreatM5
import Derived.Test.YtjjjalcmcifncaaGreatF1
namespace Go.Proofs.YtjjjalcmcifncaaGreat
open Go.Ab
set_option linter.unusedSimpArgs false
set_option maxRecDepth 20000
set_option maxHeartbeats 4000000
set_option linter.unusedVariables false
section
open Go.RowKit
set_option maxRecDepth 100000
theorem conv_back {P : Program} {W : World} {b n cap c : Nat} {s : ByteArray} {fr : Nat × Nat} {src dst e : TypeId} (hs : P.underlying src = some (.slice e)) (he : P.underlying e = some (.int .u8)) (hd : P.underlying dst = some .string) (hb : b = W.heap.size) (hn : n = s.size) :
    (convert src dst (.slice (some ⟨b, 0, none⟩) n cap)).run P ((W.alloc (.cells (bytesRow s c) e fr)).drew) = .ok (.string s) ((W.alloc (.cells (bytesRow s c) e fr)).drew) := by
  subst hb hn
  obtain ⟨⟨l⟩⟩ := s
  have h := run_convert_bytes_back (P := P) ((W.alloc (.cells (bytesRow ⟨⟨l⟩⟩ c) e fr)).drew) src dst e ⟨W.heap.size, 0, none⟩ cap l hs he hd (fun j hj => by
    have h2 := bytesRow_at ⟨⟨l⟩⟩ c j (by simpa [ByteArray.size] using hj)
    have e1 : ((⟨W.heap.size, 0, none⟩ : Addr).add j) = ⟨W.heap.size, j, none⟩ := by rw [Addr.add_lit, Nat.zero_add]
    rw [e1]
    show (W.alloc _).cell? _ = _
    rw [World.cell?_alloc_mark, h2]
    simp)
  exact h
theorem conv_back2 {P : Program} {W : World} {b n cap c j : Nat} {x : UInt8} {v : Int} {s : ByteArray} {fr : Nat × Nat} {src dst e : TypeId} (hs : P.underlying src = some (.slice e)) (he : P.underlying e = some (.int .u8)) (hd : P.underlying dst = some .string) (hb : b = W.heap.size) (hn : n = s.size) (hj : j < s.size) (hv : v = (x.toNat : Int)) :
    (convert src dst (.slice (some ⟨b, 0, none⟩) n cap)).run P (((W.alloc (.cells (bytesRow s c) e fr)).setCell ⟨b, j, none⟩ (.int .u8 v)).drew) = .ok (.string ⟨(s.data.toList.set j x).toArray⟩) (((W.alloc (.cells (bytesRow s c) e fr)).setCell ⟨b, j, none⟩ (.int .u8 v)).drew) := by
  subst hb hn hv
  obtain ⟨⟨l⟩⟩ := s
  have hjl : j < l.length := hj
  have h := run_convert_bytes_back (P := P) (((W.alloc (.cells (bytesRow ⟨⟨l⟩⟩ c) e fr)).setCell ⟨W.heap.size, j, none⟩ (.int .u8 (x.toNat : Int))).drew) src dst e ⟨W.heap.size, 0, none⟩ cap (l.set j x) hs he hd (fun i hi => by
    have e1 : ((⟨W.heap.size, 0, none⟩ : Addr).add i) = ⟨W.heap.size, i, none⟩ := by rw [Addr.add_lit, Nat.zero_add]
    rw [e1]
    have hil : i < l.length := by simpa using hi
    have h2 := bytesRow_at ⟨⟨l⟩⟩ c i (by simpa [ByteArray.size] using hil)
    have h3 : (W.alloc (.cells (bytesRow ⟨⟨l⟩⟩ c) e fr)).cell? ⟨W.heap.size, i, none⟩ = some (.int .u8 (l[i].toNat : Int)) := by
      rw [World.cell?_alloc_mark, h2]; simp
    show (World.setCell _ _ _).cell? _ = _
    by_cases hij : j = i
    · subst hij
      rw [World.cell?_setCell_same _ _ _ h3]
      simp
    · rw [World.cell?_setCell_other _ _ _ _ (by simp [hij]), h3]
      simp [hij])
  simp only [List.length_set] at h
  exact h
theorem row_cell {W : World} {B j : Nat} {s : ByteArray} {x : UInt8} {e : TypeId} (hx : s.data.toList[j]? = some x) (c : Nat) (fr : Nat × Nat) (h : W.heap.size = B) : (W.alloc (.cells (bytesRow s c) e fr)).cell? ⟨B, j, none⟩ = some (.int .u8 (x.toNat : Int)) := by
  subst h
  obtain ⟨hlt, he⟩ := List.getElem?_eq_some_iff.1 hx
  have hlt2 : j < s.data.size := by simpa using hlt
  rw [World.cell?_alloc_mark, bytesRow_at s c j hlt2]
  have : s.data[j] = x := by rw [<- he]; simp
  rw [this]
theorem row_frz {W : World} {B j : Nat} {s : ByteArray} {e : TypeId} (hj : j < s.size) (c : Nat) (h : W.heap.size = B) : (W.alloc (.cells (bytesRow s c) e ((bytesRow s c).size, (bytesRow s c).size + 1))).frozen? ⟨B, j, none⟩ = false := by
  subst h
  rw [World.frozen?_alloc_mark]
  have hsz : j < (bytesRow s c).size := by
    simp only [bytesRow, Array.size_append, Array.size_map]
    have : s.data.size = s.size := rfl
    omega
  have : ∀ n : Nat, j < n -> (decide (n <= j) && decide (j < n + 1)) = false := fun n hn => by simp; omega
  exact this _ hsz
theorem wrap64_inH (n : Int) (h : -9223372036854775808 <= n /\ n <= 9223372036854775807) : wrap64 n = n := by unfold wrap64; omega
theorem flip_val (x : UInt8) : (255 - (x.toNat : Int)) % 256 = ((flip x).toNat : Int) := by
  unfold flip
  rw [UInt8.toNat_sub_of_le _ _ (by rw [UInt8.le_iff_toNat_le]; have := x.toNat_lt; show _ <= 255; omega)]
  have : (255 : UInt8).toNat = 255 := rfl
  have := x.toNat_lt
  omega
theorem fall_no_impl (K L : ByteArray) (k : Int) (w : World) (h1 : wrap64 ((K.size : Int) + L.size) <= 50000) (h2 : 0 <= k) (h3 : k <= L.size) (hkl : K.size + L.size <= 50000) :
    Calls Tryz.prog 53 #[.agg #[.string K, .string L], .int .i64 k, .bool false] w fun e w' => e = .returned (.tuple #[.agg #[.string (K ++ L.extract 0 k.toNat), .string ⟨#[]⟩], .bool true]) /\ Below w.heap.size w w' := by
  have hconv := fun (s : ByteArray) (w : World) => run_bytes_of_string (P := Tryz.prog) w 9 22 5 s Tryz.underlying9 Tryz.underlying22 Tryz.underlying5
  have h4 : (!decide (k <= (L.size : Int))) = false := by simp [h3]
  go_enter Tryz.func53, Tryz.ntmps53
  go_wp2
  rw [conv_back Tryz.underlying22 Tryz.underlying5 Tryz.underlying9 (by simp only [World.alloc, Array.size_push]) (by rw [ByteArray.size_extract]; omega)]
  go_wp2
  refine bodyPost_ret (v := .tuple #[.agg #[.string (K ++ L.extract 0 k.toNat), .string ⟨#[]⟩], .bool true]) ((results_cell_tmp rfl _ _ _).trans ?_) rfl ?_
  rotate_left
  · refine ⟨rfl, ?_⟩
    repeat first | exact Below.refl _ _ | refine Below.setCell ?_ (by first | exact Nat.le_refl _ | (simp only []; omega)) _ | refine Below.alloc ?_ (by first | exact Nat.le_refl _ | (simp only [World.alloc, Array.size_push]; omega)) _ | (refine Below.drew ?_)
  · simp [go_sem, loadVar]
theorem fall_yes_impl (K L : ByteArray) (k : Int) (x : UInt8) (w : World) (h1 : wrap64 ((K.size : Int) + L.size) <= 50000) (h2 : 0 < k) (h3 : k <= L.size) (hkl : K.size + L.size <= 50000) (hx : (L.extract 0 k.toNat).data.toList[k.toNat - 1]? = some x) :
    Calls Tryz.prog 53 #[.agg #[.string K, .string L], .int .i64 k, .bool true] w fun e w' => e = .returned (.tuple #[.agg #[.string (K ++ ⟨((L.extract 0 k.toNat).data.toList.set (k.toNat - 1) (flip x)).toArray⟩), .string ⟨#[]⟩], .bool true]) /\ Below w.heap.size w w' := by
  have hconv := fun (s : ByteArray) (w : World) => run_bytes_of_string (P := Tryz.prog) w 9 22 5 s Tryz.underlying9 Tryz.underlying22 Tryz.underlying5
  have h4 : (!decide (k <= (L.size : Int))) = false := by simp [h3]
  have h2' : 0 <= k := by omega
  have hcell : ∀ (W : World) (c : Nat) (fr : Nat × Nat), W.heap.size = w.heap.size + 1 + 1 + 1 -> (W.alloc (.cells (bytesRow (L.extract 0 k.toNat) c) 5 fr)).cell? ⟨w.heap.size + 1 + 1 + 1, k.toNat - 1, none⟩ = some (.int .u8 (x.toNat : Int)) := fun W c fr h => row_cell hx c fr h
  have hfz : ∀ (W : World) (c : Nat), W.heap.size = w.heap.size + 1 + 1 + 1 -> (W.alloc (.cells (bytesRow (L.extract 0 k.toNat) c) 5 ((bytesRow (L.extract 0 k.toNat) c).size, (bytesRow (L.extract 0 k.toNat) c).size + 1))).frozen? ⟨w.heap.size + 1 + 1 + 1, k.toNat - 1, none⟩ = false := fun W c h => row_frz (by rw [ByteArray.size_extract]; omega) c h
  clear hx
  go_enter Tryz.func53, Tryz.ntmps53
  go_wp2
  rw [conv_back2 (x := flip x) Tryz.underlying22 Tryz.underlying5 Tryz.underlying9 (by simp only [World.alloc, Array.size_push]) (by rw [ByteArray.size_extract]; omega) (by rw [ByteArray.size_extract]; omega) (flip_val x)]
  go_wp2
  refine bodyPost_ret (v := .tuple #[.agg #[.string (K ++ ⟨((L.extract 0 k.toNat).data.toList.set (k.toNat - 1) (flip x)).toArray⟩), .string ⟨#[]⟩], .bool true]) ((results_cell_tmp rfl _ _ _).trans ?_) rfl ?_
  rotate_left
  · refine ⟨rfl, ?_⟩
    repeat first | exact Below.refl _ _ | refine Below.setCell ?_ (by first | exact Nat.le_refl _ | (simp only []; omega)) _ | refine Below.alloc ?_ (by first | exact Nat.le_refl _ | (simp only [World.alloc, Array.size_push]; omega)) _ | (refine Below.drew ?_)
  · simp [go_sem, loadVar]
theorem fall_zero_impl (K L : ByteArray) (k : Int) (w : World) (h1 : wrap64 ((K.size : Int) + L.size) <= 50000) (h2 : 0 <= k) (h3 : k <= L.size) (hkl : K.size + L.size <= 50000) (h0 : ¬ 0 < k) :
    Calls Tryz.prog 53 #[.agg #[.string K, .string L], .int .i64 k, .bool true] w fun e w' => e = .returned (.tuple #[.agg #[.string (K ++ L.extract 0 k.toNat), .string ⟨#[]⟩], .bool true]) /\ Below w.heap.size w w' := by
  have hconv := fun (s : ByteArray) (w : World) => run_bytes_of_string (P := Tryz.prog) w 9 22 5 s Tryz.underlying9 Tryz.underlying22 Tryz.underlying5
  have h4 : (!decide (k <= (L.size : Int))) = false := by simp [h3]
  go_enter Tryz.func53, Tryz.ntmps53
  go_wp2
  rw [conv_back Tryz.underlying22 Tryz.underlying5 Tryz.underlying9 (by simp only [World.alloc, Array.size_push]) (by rw [ByteArray.size_extract]; omega)]
  go_wp2
  refine bodyPost_ret (v := .tuple #[.agg #[.string (K ++ L.extract 0 k.toNat), .string ⟨#[]⟩], .bool true]) ((results_cell_tmp rfl _ _ _).trans ?_) rfl ?_
  rotate_left
  · refine ⟨rfl, ?_⟩
    repeat first | exact Below.refl _ _ | refine Below.setCell ?_ (by first | exact Nat.le_refl _ | (simp only []; omega)) _ | refine Below.alloc ?_ (by first | exact Nat.le_refl _ | (simp only [World.alloc, Array.size_push]; omega)) _ | (refine Below.drew ?_)
  · simp [go_sem, loadVar]
theorem fall_no_spec (K L : ByteArray) (k : Int) (w : World) (h1 : wrap64 ((K.size : Int) + L.size) <= 50000) (h2 : 0 <= k) (h3 : k <= L.size) (hkl : K.size + L.size <= 50000) :
    Calls Tryz.prog 65 #[.agg #[.string K, .string L], .int .i64 k, .bool false] w fun e w' => e = .returned (.tuple #[.agg #[.string (K ++ L.extract 0 k.toNat), .string ⟨#[]⟩], .bool true]) /\ Below w.heap.size w w' := by
  have hconv := fun (s : ByteArray) (w : World) => run_bytes_of_string (P := Tryz.prog) w 9 22 5 s Tryz.underlying9 Tryz.underlying22 Tryz.underlying5
  have h4 : (!decide (k <= (L.size : Int))) = false := by simp [h3]
  go_enter Tryz.func65, Tryz.ntmps65
  go_wp2
  rw [conv_back Tryz.underlying22 Tryz.underlying5 Tryz.underlying9 (by simp only [World.alloc, Array.size_push]) (by rw [ByteArray.size_extract]; omega)]
  go_wp2
  refine bodyPost_ret (v := .tuple #[.agg #[.string (K ++ L.extract 0 k.toNat), .string ⟨#[]⟩], .bool true]) ((results_cell_tmp rfl _ _ _).trans ?_) rfl ?_
  rotate_left
  · refine ⟨rfl, ?_⟩
    repeat first | exact Below.refl _ _ | refine Below.setCell ?_ (by first | exact Nat.le_refl _ | (simp only []; omega)) _ | refine Below.alloc ?_ (by first | exact Nat.le_refl _ | (simp only [World.alloc, Array.size_push]; omega)) _ | (refine Below.drew ?_)
  · simp [go_sem, loadVar]
theorem fall_yes_spec (K L : ByteArray) (k : Int) (x : UInt8) (w : World) (h1 : wrap64 ((K.size : Int) + L.size) <= 50000) (h2 : 0 < k) (h3 : k <= L.size) (hkl : K.size + L.size <= 50000) (hx : (L.extract 0 k.toNat).data.toList[k.toNat - 1]? = some x) :
    Calls Tryz.prog 65 #[.agg #[.string K, .string L], .int .i64 k, .bool true] w fun e w' => e = .returned (.tuple #[.agg #[.string (K ++ ⟨((L.extract 0 k.toNat).data.toList.set (k.toNat - 1) (flip x)).toArray⟩), .string ⟨#[]⟩], .bool true]) /\ Below w.heap.size w w' := by
  have hconv := fun (s : ByteArray) (w : World) => run_bytes_of_string (P := Tryz.prog) w 9 22 5 s Tryz.underlying9 Tryz.underlying22 Tryz.underlying5
  have h4 : (!decide (k <= (L.size : Int))) = false := by simp [h3]
  have h2' : 0 <= k := by omega
  have hcell : ∀ (W : World) (c : Nat) (fr : Nat × Nat), W.heap.size = w.heap.size + 1 + 1 + 1 -> (W.alloc (.cells (bytesRow (L.extract 0 k.toNat) c) 5 fr)).cell? ⟨w.heap.size + 1 + 1 + 1, k.toNat - 1, none⟩ = some (.int .u8 (x.toNat : Int)) := fun W c fr h => row_cell hx c fr h
  have hfz : ∀ (W : World) (c : Nat), W.heap.size = w.heap.size + 1 + 1 + 1 -> (W.alloc (.cells (bytesRow (L.extract 0 k.toNat) c) 5 ((bytesRow (L.extract 0 k.toNat) c).size, (bytesRow (L.extract 0 k.toNat) c).size + 1))).frozen? ⟨w.heap.size + 1 + 1 + 1, k.toNat - 1, none⟩ = false := fun W c h => row_frz (by rw [ByteArray.size_extract]; omega) c h
  clear hx
  go_enter Tryz.func65, Tryz.ntmps65
  go_wp2
  rw [conv_back2 (x := flip x) Tryz.underlying22 Tryz.underlying5 Tryz.underlying9 (by simp only [World.alloc, Array.size_push]) (by rw [ByteArray.size_extract]; omega) (by rw [ByteArray.size_extract]; omega) (flip_val x)]
  go_wp2
  refine bodyPost_ret (v := .tuple #[.agg #[.string (K ++ ⟨((L.extract 0 k.toNat).data.toList.set (k.toNat - 1) (flip x)).toArray⟩), .string ⟨#[]⟩], .bool true]) ((results_cell_tmp rfl _ _ _).trans ?_) rfl ?_
  rotate_left
  · refine ⟨rfl, ?_⟩
    repeat first | exact Below.refl _ _ | refine Below.setCell ?_ (by first | exact Nat.le_refl _ | (simp only []; omega)) _ | refine Below.alloc ?_ (by first | exact Nat.le_refl _ | (simp only [World.alloc, Array.size_push]; omega)) _ | (refine Below.drew ?_)
  · simp [go_sem, loadVar]
theorem fall_zero_spec (K L : ByteArray) (k : Int) (w : World) (h1 : wrap64 ((K.size : Int) + L.size) <= 50000) (h2 : 0 <= k) (h3 : k <= L.size) (hkl : K.size + L.size <= 50000) (h0 : ¬ 0 < k) :
    Calls Tryz.prog 65 #[.agg #[.string K, .string L], .int .i64 k, .bool true] w fun e w' => e = .returned (.tuple #[.agg #[.string (K ++ L.extract 0 k.toNat), .string ⟨#[]⟩], .bool true]) /\ Below w.heap.size w w' := by
  have hconv := fun (s : ByteArray) (w : World) => run_bytes_of_string (P := Tryz.prog) w 9 22 5 s Tryz.underlying9 Tryz.underlying22 Tryz.underlying5
  have h4 : (!decide (k <= (L.size : Int))) = false := by simp [h3]
  go_enter Tryz.func65, Tryz.ntmps65
  go_wp2
  rw [conv_back Tryz.underlying22 Tryz.underlying5 Tryz.underlying9 (by simp only [World.alloc, Array.size_push]) (by rw [ByteArray.size_extract]; omega)]
  go_wp2
  refine bodyPost_ret (v := .tuple #[.agg #[.string (K ++ L.extract 0 k.toNat), .string ⟨#[]⟩], .bool true]) ((results_cell_tmp rfl _ _ _).trans ?_) rfl ?_
  rotate_left
  · refine ⟨rfl, ?_⟩
    repeat first | exact Below.refl _ _ | refine Below.setCell ?_ (by first | exact Nat.le_refl _ | (simp only []; omega)) _ | refine Below.alloc ?_ (by first | exact Nat.le_refl _ | (simp only [World.alloc, Array.size_push]; omega)) _ | (refine Below.drew ?_)
  · simp [go_sem, loadVar]
def okFall (d : DiskT) (k : Int) : Bool := okDsk d && inB 0 k (d.Loose.length : Int)
def fellD (d : DiskT) (k : Int) (torn : Bool) : DiskT := ⟨d.Kept ++ tornB d.Loose k.toNat torn, []⟩
theorem ba_app (a b : List UInt8) : (⟨a.toArray⟩ : ByteArray) ++ ⟨b.toArray⟩ = ⟨(a ++ b).toArray⟩ := by
  apply ByteArray.ext; simp
theorem ba_ext (l : List UInt8) (n : Nat) : (⟨l.toArray⟩ : ByteArray).extract 0 n = ⟨(l.take n).toArray⟩ := by
  apply ByteArray.ext
  rw [ByteArray.data_extract, List.extract_toArray, List.extract_eq_take_drop]
  simp
theorem torn_set {l : List UInt8} {n : Nat} {x : UInt8} (hn : 0 < n) (h : n <= l.length) (hx : (l.take n)[n - 1]? = some x) : (l.take n).set (n - 1) (flip x) = tornB l n true := by
  unfold tornB
  rw [if_pos ⟨rfl, hn⟩]
  obtain ⟨m, rfl⟩ : ∃ m, n = m + 1 := ⟨n - 1, by omega⟩
  simp only [Nat.add_sub_cancel] at hx ⊢
  have hlt : m < l.length := by omega
  have e : l.take (m + 1) = l.take m ++ [l[m]] := by rw [List.take_add_one, List.getElem?_eq_getElem hlt]; rfl
  have hml : (l.take m).length = m := by rw [List.length_take]; omega
  rw [e] at hx ⊢
  rw [List.getElem?_append_right (by omega), hml, Nat.sub_self] at hx
  have hxe : l[m] = x := by simpa using hx
  rw [List.set_append_right _ _ (by omega), hml, Nat.sub_self, List.drop_eq_getElem_cons hlt, hxe]
  rfl
theorem c_impl_FallDisk_ok (d : DiskT) (k : Int) (torn : Bool) (ho : okFall d k = true) : PC Tryz.prog false 53 [.agg d.cells, .int .i64 k, .bool torn] (.tup [.agg (fellD d k torn).cells, .bool true]) [] := by
  unfold okFall at ho
  rw [baT] at ho
  obtain ⟨hd, hk⟩ := ho
  have hkb := inB_le' hk
  have hw := okDsk_w hd
  have hkl : d.w = d.Kept.length + d.Loose.length := rfl
  refine ⟨fun w R vals hR hl => ?_⟩
  unfold DiskT.cells at hl
  match vals, hl with
  | [v0, v1, v2], hl =>
    unfold LR at hl
    obtain ⟨q0, hl⟩ := hl
    unfold LR at hl
    obtain ⟨q1, hl⟩ := hl
    unfold LR at hl
    obtain ⟨q2, _⟩ := hl
    unfold RR at q0 q1 q2
    obtain ⟨vs, rfl, q0⟩ := q0
    subst q1 q2
    obtain ⟨vs⟩ := vs
    match vs, q0 with
    | [u0, u1], q0 =>
      unfold LR at q0
      obtain ⟨r0, q0⟩ := q0
      unfold LR at q0
      obtain ⟨r1, _⟩ := q0
      unfold RR at r0 r1
      subst r0 r1
      rw [Ans_body Tryz.func53 rfl rfl]
      have hz1 : (⟨d.Kept.toArray⟩ : ByteArray).size = d.Kept.length := by simp [ByteArray.size]
      have hz2 : (⟨d.Loose.toArray⟩ : ByteArray).size = d.Loose.length := by simp [ByteArray.size]
      have e1 : wrap64 (((⟨d.Kept.toArray⟩ : ByteArray).size : Int) + (⟨d.Loose.toArray⟩ : ByteArray).size) <= 50000 := by
        rw [hz1, hz2, wrap64_inH _ (by omega)]
        omega
      have fin : ∀ (e : Ending) (w' : World), e = .returned (.tuple #[.agg #[.string ⟨(d.Kept ++ tornB d.Loose k.toNat torn).toArray⟩, .string ⟨#[]⟩], .bool true]) /\ Below w.heap.size w w' -> ∃ v, e = .returned v /\ ∃ hdr, Below w.heap.size w w' /\ ResR R false w w' hdr (.tup [.agg (fellD d k torn).cells, .bool true]) [] v := by
        rintro e w' ⟨rfl, hb⟩
        refine ⟨_, rfl, fun _ => ⟨undef, []⟩, hb, ⟨?_, fun o h => (by cases h), fun id o h => (by simp at h), fun i j o o' b h => (by simp at h)⟩⟩
        unfold VR
        refine ⟨_, rfl, ?_⟩
        unfold fellD DiskT.cells
        unfold VL
        refine ⟨?_, ?_⟩
        · unfold VR
          refine ⟨_, rfl, ?_⟩
          unfold VL
          refine ⟨by unfold VR; rfl, ?_⟩
          unfold VL
          refine ⟨by unfold VR; rfl, ?_⟩
          unfold VL; trivial
        · unfold VL
          refine ⟨by unfold VR; rfl, ?_⟩
          unfold VL; trivial
      by_cases ht : torn = true /\ 0 < k
      · obtain ⟨rfl, h0⟩ := ht
        have hlt : k.toNat - 1 < (d.Loose.take k.toNat).length := by rw [List.length_take]; omega
        have hx : (d.Loose.take k.toNat)[k.toNat - 1]? = some (d.Loose.take k.toNat)[k.toNat - 1] := List.getElem?_eq_getElem hlt
        refine (fall_yes_impl ⟨d.Kept.toArray⟩ ⟨d.Loose.toArray⟩ k _ w e1 h0 (by rw [hz2]; omega) (by rw [hz1, hz2]; omega) (by rw [ba_ext]; exact hx)).mono fun e w' h => fin e w' ?_
        rw [ba_ext] at h
        simp only at h
        rw [torn_set (by omega) (by omega) hx, ba_app] at h
        exact h
      · have e2 : tornB d.Loose k.toNat torn = d.Loose.take k.toNat := by unfold tornB; rw [if_neg (fun h => ht ⟨h.1, by omega⟩)]
        rw [e2] at fin
        cases torn with
        | false =>
          refine (fall_no_impl ⟨d.Kept.toArray⟩ ⟨d.Loose.toArray⟩ k w e1 (by omega) (by rw [hz2]; omega) (by rw [hz1, hz2]; omega)).mono fun e w' h => fin e w' ?_
          rw [ba_ext, ba_app] at h
          exact h
        | true =>
          have hk0 : ¬ 0 < k := fun h => ht ⟨rfl, h⟩
          refine (fall_zero_impl ⟨d.Kept.toArray⟩ ⟨d.Loose.toArray⟩ k w e1 (by omega) (by rw [hz2]; omega) (by rw [hz1, hz2]; omega) (by omega)).mono fun e w' h => fin e w' ?_
          rw [ba_ext, ba_app] at h
          exact h
    | [], q0 => unfold LR at q0; exact q0.elim
    | [_], q0 => unfold LR at q0; obtain ⟨_, q0⟩ := q0; unfold LR at q0; exact q0.elim
    | _ :: _ :: _ :: _, q0 => unfold LR at q0; obtain ⟨_, q0⟩ := q0; unfold LR at q0; obtain ⟨_, q0⟩ := q0; unfold LR at q0; exact q0.elim
  | [], hl => unfold LR at hl; exact hl.elim
  | [_], hl => unfold LR at hl; obtain ⟨_, hl⟩ := hl; unfold LR at hl; exact hl.elim
  | [_, _], hl => unfold LR at hl; obtain ⟨_, hl⟩ := hl; unfold LR at hl; obtain ⟨_, hl⟩ := hl; unfold LR at hl; exact hl.elim
  | _ :: _ :: _ :: _ :: _, hl => unfold LR at hl; obtain ⟨_, hl⟩ := hl; unfold LR at hl; obtain ⟨_, hl⟩ := hl; unfold LR at hl; obtain ⟨_, hl⟩ := hl; unfold LR at hl; exact hl.elim
theorem c_spec_FallDisk_ok (d : DiskT) (k : Int) (torn : Bool) (ho : okFall d k = true) : PC Tryz.prog false 65 [.agg d.cells, .int .i64 k, .bool torn] (.tup [.agg (fellD d k torn).cells, .bool true]) [] := by
  unfold okFall at ho
  rw [baT] at ho
  obtain ⟨hd, hk⟩ := ho
  have hkb := inB_le' hk
  have hw := okDsk_w hd
  have hkl : d.w = d.Kept.length + d.Loose.length := rfl
  refine ⟨fun w R vals hR hl => ?_⟩
  unfold DiskT.cells at hl
  match vals, hl with
  | [v0, v1, v2], hl =>
    unfold LR at hl
    obtain ⟨q0, hl⟩ := hl
    unfold LR at hl
    obtain ⟨q1, hl⟩ := hl
    unfold LR at hl
    obtain ⟨q2, _⟩ := hl
    unfold RR at q0 q1 q2
    obtain ⟨vs, rfl, q0⟩ := q0
    subst q1 q2
    obtain ⟨vs⟩ := vs
    match vs, q0 with
    | [u0, u1], q0 =>
      unfold LR at q0
      obtain ⟨r0, q0⟩ := q0
      unfold LR at q0
      obtain ⟨r1, _⟩ := q0
      unfold RR at r0 r1
      subst r0 r1
      rw [Ans_body Tryz.func65 rfl rfl]
      have hz1 : (⟨d.Kept.toArray⟩ : ByteArray).size = d.Kept.length := by simp [ByteArray.size]
      have hz2 : (⟨d.Loose.toArray⟩ : ByteArray).size = d.Loose.length := by simp [ByteArray.size]
      have e1 : wrap64 (((⟨d.Kept.toArray⟩ : ByteArray).size : Int) + (⟨d.Loose.toArray⟩ : ByteArray).size) <= 50000 := by
        rw [hz1, hz2, wrap64_inH _ (by omega)]
        omega
      have fin : ∀ (e : Ending) (w' : World), e = .returned (.tuple #[.agg #[.string ⟨(d.Kept ++ tornB d.Loose k.toNat torn).toArray⟩, .string ⟨#[]⟩], .bool true]) /\ Below w.heap.size w w' -> ∃ v, e = .returned v /\ ∃ hdr, Below w.heap.size w w' /\ ResR R false w w' hdr (.tup [.agg (fellD d k torn).cells, .bool true]) [] v := by
        rintro e w' ⟨rfl, hb⟩
        refine ⟨_, rfl, fun _ => ⟨undef, []⟩, hb, ⟨?_, fun o h => (by cases h), fun id o h => (by simp at h), fun i j o o' b h => (by simp at h)⟩⟩
        unfold VR
        refine ⟨_, rfl, ?_⟩
        unfold fellD DiskT.cells
        unfold VL
        refine ⟨?_, ?_⟩
        · unfold VR
          refine ⟨_, rfl, ?_⟩
          unfold VL
          refine ⟨by unfold VR; rfl, ?_⟩
          unfold VL
          refine ⟨by unfold VR; rfl, ?_⟩
          unfold VL; trivial
        · unfold VL
          refine ⟨by unfold VR; rfl, ?_⟩
          unfold VL; trivial
      by_cases ht : torn = true /\ 0 < k
      · obtain ⟨rfl, h0⟩ := ht
        have hlt : k.toNat - 1 < (d.Loose.take k.toNat).length := by rw [List.length_take]; omega
        have hx : (d.Loose.take k.toNat)[k.toNat - 1]? = some (d.Loose.take k.toNat)[k.toNat - 1] := List.getElem?_eq_getElem hlt
        refine (fall_yes_spec ⟨d.Kept.toArray⟩ ⟨d.Loose.toArray⟩ k _ w e1 h0 (by rw [hz2]; omega) (by rw [hz1, hz2]; omega) (by rw [ba_ext]; exact hx)).mono fun e w' h => fin e w' ?_
        rw [ba_ext] at h
        simp only at h
        rw [torn_set (by omega) (by omega) hx, ba_app] at h
        exact h
      · have e2 : tornB d.Loose k.toNat torn = d.Loose.take k.toNat := by unfold tornB; rw [if_neg (fun h => ht ⟨h.1, by omega⟩)]
        rw [e2] at fin
        cases torn with
        | false =>
          refine (fall_no_spec ⟨d.Kept.toArray⟩ ⟨d.Loose.toArray⟩ k w e1 (by omega) (by rw [hz2]; omega) (by rw [hz1, hz2]; omega)).mono fun e w' h => fin e w' ?_
          rw [ba_ext, ba_app] at h
          exact h
        | true =>
          have hk0 : ¬ 0 < k := fun h => ht ⟨rfl, h⟩
          refine (fall_zero_spec ⟨d.Kept.toArray⟩ ⟨d.Loose.toArray⟩ k w e1 (by omega) (by rw [hz2]; omega) (by rw [hz1, hz2]; omega) (by omega)).mono fun e w' h => fin e w' ?_
          rw [ba_ext, ba_app] at h
          exact h
    | [], q0 => unfold LR at q0; exact q0.elim
    | [_], q0 => unfold LR at q0; obtain ⟨_, q0⟩ := q0; unfold LR at q0; exact q0.elim
    | _ :: _ :: _ :: _, q0 => unfold LR at q0; obtain ⟨_, q0⟩ := q0; unfold LR at q0; obtain ⟨_, q0⟩ := q0; unfold LR at q0; exact q0.elim
  | [], hl => unfold LR at hl; exact hl.elim
  | [_], hl => unfold LR at hl; obtain ⟨_, hl⟩ := hl; unfold LR at hl; exact hl.elim
  | [_, _], hl => unfold LR at hl; obtain ⟨_, hl⟩ := hl; unfold LR at hl; obtain ⟨_, hl⟩ := hl; unfold LR at hl; exact hl.elim
  | _ :: _ :: _ :: _ :: _, hl => unfold LR at hl; obtain ⟨_, hl⟩ := hl; unfold LR at hl; obtain ⟨_, hl⟩ := hl; unfold LR at hl; obtain ⟨_, hl⟩ := hl; unfold LR at hl; exact hl.elim
end
def lenLead (g : GroupT) : Nat := match g.Reps[g.Lead.toNat]? with | some y => y.Log.length | none => 0
def okPut (g : GroupT) (r : RecT) : Bool := okGroup g && (decide (0 <= g.Lead) && (decide (lenLead g < 60) && okRec r))
def putE (g : GroupT) (r : RecT) (y : ReplicaT) : ReplicaT := { y with Log := y.Log ++ [⟨g.Term, r⟩] }
def putN (g : GroupT) (r : RecT) : GroupT := ⟨setRep g g.Lead (putE g r), g.Term, g.Lead⟩
def putR (g : GroupT) (r : RecT) : GroupT := resG (okPut g r) (putN g r)
theorem ix_setG {L : List (List AV)} {e : List AV} {n : Nat} {Q : List AV -> Prop} (h : n < L.length) (hQ : Q e) : ∃ e', (L.set n e)[n]? = some e' /\ Q e' := ⟨e, by simp [h], hQ⟩
theorem lead_side {g : GroupT} (h : okGroup g = true) (h0 : ¬ g.Lead < 0) : 0 <= g.Lead /\ g.Lead < ((g.Reps.map ReplicaT.cells).length : Int) := by
  have := okLead_lt h h0
  rw [List.length_map]
  omega
theorem putR_yes {g : GroupT} {r : RecT} (h : okPut g r = true) : putR g r = putN g r := by rw [putR, resG_yes h]
theorem putR_no {g : GroupT} {r : RecT} (h : okPut g r = false) : putR g r = ⟨[], 0, 0⟩ := by rw [putR, resG_no h]; rfl
theorem lenLead_of {g : GroupT} {y : ReplicaT} (hy : g.Reps[g.Lead.toNat]? = some y) : lenLead g = y.Log.length := by unfold lenLead; rw [hy]
theorem okG_log {g : GroupT} {l : ReplicaT} (h : okGroup g = true) (hl : l ∈ g.Reps) : l.Log.length <= 60 := by
  unfold okGroup at h
  simp only [baT, List.all_eq_true] at h
  have h2 := h.2 l hl
  unfold okRep at h2
  simp only [baT] at h2
  have h3 := h2.1
  unfold okLog at h3
  simp only [baT, decide_eq_true_eq] at h3
  omega
theorem lenLead_60 {g : GroupT} {y : ReplicaT} (hg : okGroup g = true) (hy : g.Reps[g.Lead.toNat]? = some y) : y.Log.length <= 60 := okG_log hg (mgE hy)
theorem okPut_yes {g : GroupT} {r : RecT} {y : ReplicaT} (h1 : okGroup g = true) (h2 : ¬ g.Lead < 0) (hy : g.Reps[g.Lead.toNat]? = some y) (h3 : ¬ (y.Log.length : Int) = 60) (h4 : okRec r = true) : okPut g r = true := by
  have := lenLead_60 h1 hy
  unfold okPut
  rw [h1, h4, lenLead_of hy, decide_eq_true (show 0 <= g.Lead by omega), decide_eq_true (show y.Log.length < 60 by omega)]
  rfl
theorem okPut_no1 {g : GroupT} {r : RecT} (h : okGroup g = false \/ g.Lead < 0 \/ okRec r = false) : okPut g r = false := by
  unfold okPut
  rcases h with h | h | h
  · rw [h]; rfl
  · rw [decide_eq_false (show ¬ 0 <= g.Lead by omega)]; simp
  · rw [h]; simp
theorem okPut_no2 {g : GroupT} {r : RecT} {y : ReplicaT} (hy : g.Reps[g.Lead.toNat]? = some y) (h3 : (y.Log.length : Int) = 60 \/ (y.Log.length : Int) ≥ 60) : okPut g r = false := by
  unfold okPut
  rw [lenLead_of hy, decide_eq_false (show ¬ y.Log.length < 60 by omega)]
  simp
theorem put_cells {g : GroupT} {r : RecT} {y : ReplicaT} {c c0 : List AV} (hy : g.Reps[g.Lead.toNat]? = some y) (hc : c = (putE g r y).cells) : ((g.Reps.map ReplicaT.cells).set g.Lead.toNat c0).set g.Lead.toNat c = (putN g r).Reps.map ReplicaT.cells := by
  rw [List.set_set]
  exact setRep_cells (f := putE g r) hy hc
theorem putE_cells {g : GroupT} {r : RecT} {y : ReplicaT} {L : List (List AV)} (hL : L = y.Log.map EntryT.cells ++ [(⟨g.Term, r⟩ : EntryT).cells]) : [AV.bool y.Up, .sl L, .int .i64 y.Sure] = (putE g r y).cells := by
  rw [hL]
  unfold putE ReplicaT.cells
  simp only [List.map_append, List.map_cons, List.map_nil]
theorem c_impl_PutEntry (g : GroupT) (r : RecT) (hok : g.ok) (hw : GB g) (rok : r.ok) (h1r : r.Reads.length <= 1048576) (h2r : r.Writes.length <= 1048576) : PC Tryz.prog false 50 [.agg g.cells, .agg r.cells] (.tup [.agg [.own 0, .int .i64 (putR g r).Term, .int .i64 (putR g r).Lead], .bool (okPut g r)]) [⟨.deep ReplicaT.shp, 60, 3, (putR g r).Reps.map ReplicaT.cells⟩] := by
  have hl := reps_len hw
  refine pc_at Tryz.func50 rfl (by kernel_rfl) 55 [.cell 4 27, .tmp 5] rfl rfl ?_
  repeat' (conv => whnf); first
 | (show Go.Ab.drawA _ _ _ _ _; refine draw_exp (.take 0 (.take 1 (.take 2 (.take 3 (.take 5 (.fork 4 (.fork 6 (.fork 7 (.fork 8 (.fork 9 (.fork 10 (.fork 11 (.take 12 (.take 13 (.fork 14 (.done) (.stop)))) (.stop)) (.stop)) (.stop)) (.stop)) (.stop)) (.fork 7 (.fork 6 (.fork 8 (.fork 9 (.fork 10 (.fork 11 (.take 12 (.take 13 (.fork 14 (.done) (.stop)))) (.stop)) (.stop)) (.stop)) (.stop)) (.fork 8 (.fork 6 (.fork 9 (.fork 10 (.fork 11 (.take 12 (.take 13 (.fork 14 (.done) (.stop)))) (.stop)) (.stop)) (.stop)) (.stop)) (.stop))) (.stop))) (.fork 6 (.fork 4 (.fork 7 (.fork 8 (.fork 9 (.fork 10 (.fork 11 (.take 12 (.take 13 (.fork 14 (.done) (.stop)))) (.stop)) (.stop)) (.stop)) (.stop)) (.stop)) (.fork 7 (.fork 4 (.fork 8 (.fork 9 (.fork 10 (.fork 11 (.take 12 (.take 13 (.fork 14 (.done) (.stop)))) (.stop)) (.stop)) (.stop)) (.stop)) (.fork 8 (.fork 4 (.fork 9 (.fork 10 (.fork 11 (.take 12 (.take 13 (.fork 14 (.done) (.stop)))) (.stop)) (.stop)) (.stop)) (.fork 9 (.fork 4 (.fork 10 (.fork 11 (.take 12 (.take 13 (.fork 14 (.done) (.stop)))) (.stop)) (.stop)) (.fork 10 (.fork 4 (.fork 11 (.take 12 (.take 13 (.fork 14 (.done) (.stop)))) (.stop)) (.stop)) (.stop))) (.stop))) (.stop))) (.stop))) (.fork 7 (.fork 4 (.fork 6 (.fork 8 (.fork 9 (.fork 10 (.fork 11 (.take 12 (.take 13 (.fork 14 (.done) (.stop)))) (.stop)) (.stop)) (.stop)) (.stop)) (.fork 8 (.fork 6 (.fork 9 (.fork 10 (.fork 11 (.take 12 (.take 13 (.fork 14 (.done) (.stop)))) (.stop)) (.stop)) (.stop)) (.stop)) (.stop))) (.fork 6 (.fork 4 (.fork 8 (.fork 9 (.fork 10 (.fork 11 (.take 12 (.take 13 (.fork 14 (.done) (.stop)))) (.stop)) (.stop)) (.stop)) (.stop)) (.fork 8 (.fork 4 (.fork 9 (.fork 10 (.fork 11 (.take 12 (.take 13 (.fork 14 (.done) (.stop)))) (.stop)) (.stop)) (.stop)) (.fork 9 (.fork 4 (.fork 10 (.fork 11 (.take 12 (.take 13 (.fork 14 (.done) (.stop)))) (.stop)) (.stop)) (.fork 10 (.fork 4 (.fork 11 (.take 12 (.take 13 (.fork 14 (.done) (.stop)))) (.stop)) (.stop)) (.stop))) (.stop))) (.stop))) (.fork 8 (.fork 4 (.fork 6 (.fork 9 (.fork 10 (.fork 11 (.take 12 (.take 13 (.fork 14 (.done) (.stop)))) (.stop)) (.stop)) (.stop)) (.stop)) (.fork 6 (.fork 4 (.fork 9 (.fork 10 (.fork 11 (.take 12 (.take 13 (.fork 14 (.done) (.stop)))) (.stop)) (.stop)) (.stop)) (.fork 9 (.fork 4 (.fork 10 (.fork 11 (.take 12 (.take 13 (.fork 14 (.done) (.stop)))) (.stop)) (.stop)) (.fork 10 (.fork 4 (.fork 11 (.take 12 (.take 13 (.fork 14 (.done) (.stop)))) (.stop)) (.stop)) (.stop))) (.stop))) (.stop))) (.stop)))) (.stop))))))))) (by kernel_rfl) (by kernel_rfl) (by kernel_rfl) ?_)
 | refine ix_ownat (f := ReplicaT.cells) (xs := g.Reps) hy ?_
 | refine ix_setG (L := g.Reps.map ReplicaT.cells) (by rw [List.length_map]; exact (okLead_lt ‹_› ‹_›).2) ?_
 | exact side_of (lead_side ‹_› ‹_›)
 | refine ix_own (f := ReplicaT.cells) (xs := g.Reps) (okLead_lt ‹_› ‹_›).2 (fun y hy => ?_)
 | (refine nameB_cases (b := okGroup g) (fun h => ?_) (fun h => ?_))
 | refine nameB_true ?_
 | refine nameB_false ?_
 | (refine nameB_dec (fun h => ?_) (fun h => ?_) <;> try simp only [lensB] at h)
 | (refine nameB_cases (fun h => ?_) (fun h => ?_) <;> try simp only [nmL, lensB] at h)
 | refine splitB_true ?_
 | refine splitB_false ?_
 | refine both_intro ?_ ?_
 | exact True.intro
 | refine Call0 (c_impl_GoodGroup g hok hw) rfl rfl ?_
 | refine CallF (c_impl_copyGroup g hw) rfl rfl rfl (nbT rfl) ?_
 | refine Call0 (c_impl_GoodRec r rok h2r h1r) rfl rfl ?_
 | refine CallF (c_impl_copyRec r h1r h2r) rfl rfl rfl (nbT rfl) ?_
 | (refine hook_appC true rfl rfl rfl rfl rfl rfl (by rw [List.getElem?_map, hy]; rfl) ?_)
 | refine sdA ⟨nbT rfl, rfl⟩ ?_
 | refine sdA (by first | exact nbT rfl | exact rfl | omega | fail) ?_
 | refine sdA (by first | (and_intros <;> first | rfl | omega | exact nbT rfl) | fail) ?_
 | refine side_and ?_ ?_
 | refine LoadD_cel rfl rfl rfl rfl ?_
 | refine StoreD_of rfl rfl rfl ?_
 | refine BuildD_of EntryT.shp rfl rfl rfl ?_
 | refine AppD_of rfl (by and_intros <;> first | rfl | decide) (deep_app (L := y.Log.map EntryT.cells) rfl rfl (by rw [List.length_map]; have := wL_len (w := EntryT.w) (xs := y.Log); have := rep_logS hw hy; omega) (nbT rfl)) ?_
 | fail
  all_goals
    conv => whnf
    first
    | (have e := okPut_yes ‹_› ‹_› hy ‹_› ‹_›
       rw [putR_yes e, e]
       exact OutA_deep rfl rfl rfl ⟨⟨congrArg (fun e => some (AObj.mk _ _ _ e)) (put_cells hy (putE_cells rfl)), rfl⟩, trivial⟩ rfl)
    | (have e : okPut g r = false := (by first | exact okPut_no1 (by first | exact .inl ‹_› | exact .inr (.inl ‹_›) | exact .inr (.inr ‹_›)) | exact okPut_no2 hy (by first | exact .inl ‹_› | exact .inr ‹_›))
       rw [putR_no e, e]
       refine OutA_nilB 32 1 60 3 0 rfl rfl rfl (by decide) ?_
       refine OutA_prom [(1, ReplicaT.shp)] ⟨⟨_, _, _, rfl, prom_nil⟩, trivial⟩ ?_
       conv => whnf
       exact OutA_deep rfl rfl rfl ⟨⟨rfl, rfl⟩, trivial⟩ rfl)
theorem c_spec_l9OwnLogD (xs : List EntryT) (hl : xs.length <= 1048576) (hb : ∀ x ∈ xs, x.Rec.Reads.length <= 1048576 /\ x.Rec.Writes.length <= 1048576) : PC Tryz.prog false 45 [.sl (xs.map EntryT.cells)] (.own 0) [⟨.deep EntryT.shp, 50, 8, xs.map EntryT.cells⟩] := by
  refine pc_at Tryz.func45 rfl (by kernel_rfl) 36 [.tmp 2] rfl rfl ?_
  repeat' (conv => whnf); first
 | refine eitherB_r ⟨by and_intros <;> first | rfl | decide, BuildD_prom [(24640, [.leaf]), (28736, WriteT.shp)] ⟨⟨_, _, _, rfl, prom_map (fun _ => rfl)⟩, ⟨_, _, _, rfl, prom_map (fun _ => rfl)⟩, trivial⟩ EntryT.shp rfl rfl rfl ?_⟩
 | exact side_of (big_mapS (f := strC) (hb x (mgE hx)).1 (nbT rfl))
 | exact side_of (big_mapS (f := WriteT.cells) (hb x (mgE hx)).2 (nbT rfl))
 | (refine nameB_dec (fun h => ?_) (fun h => ?_) <;> try simp only [lensB] at h)
 | refine splitB_true ?_
 | refine splitB_false ?_
 | ((refine Loop_nil 3 1 50 8 rfl rfl (by decide) ?_; refine Loop_prom [(1, EntryT.shp)] ⟨⟨_, _, _, rfl, by first | exact prom_nil | exact prom_rep rfl | exact prom_map (fun _ => rfl) | exact prom_one rfl⟩, trivial⟩ ?_; refine Loop_at [0] [] (Nat) (fun k => True /\ k <= xs.length) (fun k => [(3, .own 1), (4, .int .i64 (k : Nat))]) (fun k => [(1, ⟨.deep EntryT.shp, 50, 8, (xs.take k).map EntryT.cells⟩)]) (fun k => xs.length - k) 0 ⟨by first | rfl | (simp_all <;> fail) | fail, by first | (simp_all <;> fail) | rfl | fail, trivial⟩ ⟨by first | rfl | exact congrArg (fun e => some (AObj.mk _ _ _ e)) (app_snoc hx rfl) | fail | fail, trivial⟩ (by (try dsimp only); first | trivial | (refine ⟨?_, by omega⟩; simp <;> fail) | (simp <;> fail) | fail) ?_; (conv => whnf); refine side_and (side_of (by first | exact fun k => rfl | exact fun k => by simp [headOk, closedE, closedO, closedL, AV.closed, hcap.closed, hasId, AObj.box, BK.ofB])) ?_; rintro k hT; try dsimp only at hT))
 | (refine Again_of (k + 1) ⟨by first | rfl | (simp_all <;> fail) | fail, by first | rfl | exact i64_next (by omega) | (simp_all <;> fail) | fail, trivial⟩ ⟨by first | rfl | exact congrArg (fun e => some (AObj.mk _ _ _ e)) (app_snoc hx rfl) | fail | fail, trivial⟩ (by first | (and_intros <;> first | rfl | trivial) | fail) (by first | (and_intros <;> first | rfl | trivial) | fail) rfl rfl rfl (by (try dsimp only); first | (exact ⟨trivial, by omega⟩) | fail) (show _ < _ by (try dsimp only); omega))
 | (refine ix_map (by omega) (by (try simp only [List.length_take]); omega) (fun x hx => ?_); try simp only [Int.toNat_natCast] at hx)
 | refine sdA ⟨nbT rfl, rfl⟩ ?_
 | refine sdA (by first | exact nbT rfl | exact rfl | omega | fail) ?_
 | refine sdA (by first | (and_intros <;> first | rfl | omega | exact nbT rfl) | fail) ?_
 | refine side_and (side_of (map_len (fun _ => rfl))) ?_
 | refine side_and (side_of (map_one (fun _ => rfl) _)) ?_
 | refine side_and ?_ ?_
 | refine AppD_of rfl (by and_intros <;> first | rfl | decide) (deep_app (L := (xs.take k).map EntryT.cells) rfl rfl (by rw [List.length_map, List.length_take]; omega) (nbT rfl)) ?_
 | fail
  all_goals
    conv => whnf
    exact OutA_deep rfl rfl rfl ⟨⟨congrArg (fun e => some (AObj.mk _ _ _ e)) (full_take (by omega)), rfl⟩, trivial⟩ rfl
theorem log_ents {l : List EntryT} (hw : wL EntryT.w l <= 1048576) : l.length <= 1048576 /\ ∀ x ∈ l, x.Rec.Reads.length <= 1048576 /\ x.Rec.Writes.length <= 1048576 :=
  ⟨Nat.le_trans wL_len hw, fun x hx => by
    have h := ent_len (Nat.le_trans (wL_mem hx).2 hw)
    exact ⟨h.2, h.1⟩⟩
theorem c_spec_l9OwnD (g : GroupT) (hw : GB g) : PC Tryz.prog false 44 [.agg g.cells] (.agg [.own 0, .int .i64 g.Term, .int .i64 g.Lead]) [⟨.deep ReplicaT.shp, 60, 3, g.Reps.map ReplicaT.cells⟩] := by
  have hl := reps_len hw
  refine pc_at Tryz.func44 rfl (by kernel_rfl) 44 [.cell 2 27] rfl rfl ?_
  repeat' (conv => whnf); first
 | (show Go.Ab.drawA _ _ _ _ _; refine draw_exp (.take 0 (.take 2 (.take 4 (.take 8 (.take 10 (.take 15 (.take 17 (.late 22 [1] [3, 5, 6, 7, 9, 11, 12, 13, 14, 16, 18, 19, 20, 21] (.lend 1 (.lstop (.fork 22 (.fork 23 (.take 24 (.fork 25 (.done) (.stop))) (.stop)) (.stop))) (.lstop (.fork 1 (.fork 22 (.fork 23 (.take 24 (.fork 25 (.done) (.stop))) (.stop)) (.stop)) (.fork 22 (.fork 1 (.fork 23 (.take 24 (.fork 25 (.done) (.stop))) (.stop)) (.stop)) (.stop))))))))))))) (by kernel_rfl) (by kernel_rfl) (by kernel_rfl) ?_)
 | refine nameB_self (b := x.Up) ?_
 | (refine nameB_dec (fun h => ?_) (fun h => ?_) <;> try simp only [lensB] at h)
 | refine splitB_true ?_
 | refine splitB_false ?_
 | refine both_intro ?_ ?_
 | exact True.intro
 | ((refine Loop_nilB 4192 1 60 3 0 rfl rfl rfl (by decide) ?_; refine Loop_prom [(1, ReplicaT.shp)] ⟨⟨_, _, _, rfl, by first | exact prom_nil | exact prom_rep rfl | exact prom_map (fun _ => rfl) | exact prom_one rfl⟩, trivial⟩ ?_; refine Loop_at [1, 2, 3] [0, 16] (Nat) (fun k => True /\ k <= g.Reps.length) (fun k => [(4, .int .i64 (k : Nat))]) (fun k => [(4192, ⟨true, 27, 3, [[.own 1, .int .i64 g.Term, .int .i64 g.Lead]]⟩), (1, ⟨.deep ReplicaT.shp, 60, 3, (g.Reps.take k).map ReplicaT.cells⟩)]) (fun k => g.Reps.length - k) 0 ⟨by first | (simp_all <;> fail) | rfl | fail, trivial⟩ ⟨by first | rfl | exact congrArg (fun e => some (AObj.mk _ _ _ e)) (app_snoc hx rfl) | fail | fail, by first | rfl | exact congrArg (fun e => some (AObj.mk _ _ _ e)) (app_snoc hx rfl) | fail | fail, trivial⟩ (by (try dsimp only); first | trivial | (refine ⟨?_, by omega⟩; simp <;> fail) | (simp <;> fail) | fail) ?_; (conv => whnf); refine side_and (side_of (by first | exact fun k => rfl | exact fun k => by simp [headOk, closedE, closedO, closedL, AV.closed, hcap.closed, hasId, AObj.box, BK.ofB])) ?_; rintro k hT; try dsimp only at hT))
 | (refine Again_of (k + 1) ⟨by first | rfl | exact i64_next (by omega) | (simp_all <;> fail) | fail, trivial⟩ ⟨by first | rfl | exact congrArg (fun e => some (AObj.mk _ _ _ e)) (app_snoc hx rfl) | fail | fail, by first | rfl | exact congrArg (fun e => some (AObj.mk _ _ _ e)) (app_snoc hx rfl) | fail | fail, trivial⟩ (by first | (and_intros <;> first | rfl | trivial) | fail) (by first | (and_intros <;> first | rfl | trivial) | fail) rfl rfl rfl (by (try dsimp only); first | (exact ⟨trivial, by omega⟩) | fail) (show _ < _ by (try dsimp only); omega))
 | refine CallDF (c_spec_l9OwnLogD x.Log (log_ents (rep_logS hw hx)).1 (log_ents (rep_logS hw hx)).2) rfl rfl ⟨rfl, rfl⟩ ?_
 | refine ix_map_at hx ?_
 | (refine ix_map (by omega) (by (try simp only [List.length_take]); omega) (fun x hx => ?_); try simp only [Int.toNat_natCast] at hx)
 | refine sdA ⟨nbT rfl, rfl⟩ ?_
 | refine sdA (by first | exact nbT rfl | exact rfl | omega | fail) ?_
 | refine sdA (by first | (and_intros <;> first | rfl | omega | exact nbT rfl) | fail) ?_
 | refine LoadK_of rfl rfl ?_
 | refine BuildD_of ReplicaT.shp rfl rfl rfl ?_
 | refine AppD_of rfl (by and_intros <;> first | rfl | decide) (deep_app (L := (g.Reps.take k).map ReplicaT.cells) rfl rfl (by rw [List.length_map, List.length_take]; omega) (nbT rfl)) ?_
 | fail
  all_goals
    conv => whnf
    exact OutA_deep rfl rfl rfl ⟨⟨congrArg (fun e => some (AObj.mk _ _ _ e)) (full_take (by omega)), rfl⟩, trivial⟩ rfl
theorem c_spec_GoodRec (r : RecT) (rok : r.ok) (h1 : r.Reads.length <= 1048576) (h2 : r.Writes.length <= 1048576) : PC Tryz.prog false 43 [.agg r.cells] (.bool (okRec r)) [] := by
  refine pc_at Tryz.func43 rfl (by kernel_rfl) 5 [.tmp 2] rfl rfl ?_
  repeat' (conv => whnf); first
 | refine nameB_self (b := okRec r) ?_
 | refine Call0 (c_spec_l4Good r rok h2 h1) rfl rfl ?_
 | refine sdA (by first | exact nbT rfl | exact rfl | omega | fail) ?_
 | fail
  all_goals
    conv => whnf
    exact OutA_plain rfl rfl rfl
theorem okPut_no3 {g : GroupT} {r : RecT} {y : ReplicaT} (hy : g.Reps[g.Lead.toNat]? = some y) (h3 : (y.Log.length : Int) ≥ 60) : okPut g r = false := okPut_no2 hy (.inr h3)
theorem put_ents {g : GroupT} {r : RecT} {y : ReplicaT} (hw : GB g) (hy : g.Reps[g.Lead.toNat]? = some y) (h1 : r.Reads.length <= 1048576) (h2 : r.Writes.length <= 1048576) : ∀ x ∈ y.Log ++ [(⟨g.Term, r⟩ : EntryT)], x.Rec.Reads.length <= 1048576 /\ x.Rec.Writes.length <= 1048576 := fun x hx => by
  rcases List.mem_append.1 hx with h | h
  · exact (log_ents (rep_logS hw hy)).2 x h
  · rw [List.mem_singleton] at h
    subst h
    exact ⟨h1, h2⟩
theorem c_spec_PutEntryD (g : GroupT) (r : RecT) (hok : g.ok) (hw : GB g) (rok : r.ok) (h1r : r.Reads.length <= 1048576) (h2r : r.Writes.length <= 1048576) : PC Tryz.prog false 17 [.agg g.cells, .agg r.cells] (.tup [.agg [.own 0, .int .i64 (putR g r).Term, .int .i64 (putR g r).Lead], .bool (okPut g r)]) [⟨.deep ReplicaT.shp, 60, 3, (putR g r).Reps.map ReplicaT.cells⟩] := by
  have hl := reps_len hw
  refine pc_at Tryz.func17 rfl (by kernel_rfl) 55 [.cell 4 27, .tmp 5] rfl rfl ?_
  repeat' (conv => whnf); first
 | (show Go.Ab.drawA _ _ _ _ _; refine draw_exp (.take 0 (.take 2 (.take 4 (.take 6 (.take 11 (.late 16 [1, 3] [5, 7, 8, 9, 10, 12, 13, 14, 15] (.lend 1 (.lend 3 (.lstop (.fork 16 (.fork 17 (.fork 18 (.take 19 (.fork 20 (.done) (.stop))) (.stop)) (.stop)) (.stop))) (.lstop (.fork 3 (.fork 16 (.fork 17 (.fork 18 (.take 19 (.fork 20 (.done) (.stop))) (.stop)) (.stop)) (.stop)) (.fork 16 (.fork 3 (.fork 17 (.fork 18 (.take 19 (.fork 20 (.done) (.stop))) (.stop)) (.stop)) (.fork 17 (.fork 3 (.fork 18 (.take 19 (.fork 20 (.done) (.stop))) (.stop)) (.stop)) (.stop))) (.stop))))) (.lend 3 (.lend 1 (.lstop (.fork 16 (.fork 17 (.fork 18 (.take 19 (.fork 20 (.done) (.stop))) (.stop)) (.stop)) (.stop))) (.lstop (.fork 1 (.fork 16 (.fork 17 (.fork 18 (.take 19 (.fork 20 (.done) (.stop))) (.stop)) (.stop)) (.stop)) (.fork 16 (.fork 1 (.fork 17 (.fork 18 (.take 19 (.fork 20 (.done) (.stop))) (.stop)) (.stop)) (.fork 17 (.fork 1 (.fork 18 (.take 19 (.fork 20 (.done) (.stop))) (.stop)) (.stop)) (.stop))) (.stop))))) (.lstop (.fork 1 (.fork 3 (.fork 16 (.fork 17 (.fork 18 (.take 19 (.fork 20 (.done) (.stop))) (.stop)) (.stop)) (.stop)) (.fork 16 (.fork 3 (.fork 17 (.fork 18 (.take 19 (.fork 20 (.done) (.stop))) (.stop)) (.stop)) (.fork 17 (.fork 3 (.fork 18 (.take 19 (.fork 20 (.done) (.stop))) (.stop)) (.stop)) (.stop))) (.stop))) (.fork 3 (.fork 1 (.fork 16 (.fork 17 (.fork 18 (.take 19 (.fork 20 (.done) (.stop))) (.stop)) (.stop)) (.stop)) (.fork 16 (.fork 1 (.fork 17 (.fork 18 (.take 19 (.fork 20 (.done) (.stop))) (.stop)) (.stop)) (.fork 17 (.fork 1 (.fork 18 (.take 19 (.fork 20 (.done) (.stop))) (.stop)) (.stop)) (.stop))) (.stop))) (.fork 16 (.fork 1 (.fork 3 (.fork 17 (.fork 18 (.take 19 (.fork 20 (.done) (.stop))) (.stop)) (.stop)) (.fork 17 (.fork 3 (.fork 18 (.take 19 (.fork 20 (.done) (.stop))) (.stop)) (.stop)) (.stop))) (.fork 3 (.fork 1 (.fork 17 (.fork 18 (.take 19 (.fork 20 (.done) (.stop))) (.stop)) (.stop)) (.fork 17 (.fork 1 (.fork 18 (.take 19 (.fork 20 (.done) (.stop))) (.stop)) (.stop)) (.stop))) (.fork 17 (.fork 1 (.fork 3 (.fork 18 (.take 19 (.fork 20 (.done) (.stop))) (.stop)) (.stop)) (.fork 3 (.fork 1 (.fork 18 (.take 19 (.fork 20 (.done) (.stop))) (.stop)) (.stop)) (.stop))) (.stop)))) (.stop))))))))))))) (by kernel_rfl) (by kernel_rfl) (by kernel_rfl) ?_)
 | refine ix_setG (L := g.Reps.map ReplicaT.cells) (by rw [List.length_map]; exact (okLead_lt ‹_› ‹_›).2) ?_
 | refine ix_ownat (f := ReplicaT.cells) (xs := g.Reps) hy ?_
 | exact side_of (lead_side ‹_› ‹_›)
 | refine ix_own (f := ReplicaT.cells) (xs := g.Reps) (okLead_lt ‹_› ‹_›).2 (fun y hy => ?_)
 | refine side_and (side_of (deep_app (L := y.Log.map EntryT.cells) rfl rfl (by rw [List.length_map]; have := lenLead_60 ‹_› hy; omega) (nbT rfl))) ?_
 | exact side_of (by have q := lead_side (g := g) ‹_› ‹_›; refine ⟨q.1, ?_⟩; show _ < ((List.set _ _ _).length : Int); rw [List.length_set]; exact q.2)
 | exact side_of (fun z hz => (congrArg List.length (List.mem_singleton.1 hz)).trans rfl)
 | exact side_of (by first | (and_intros <;> first | rfl | (intro e; exact absurd (AV.own.inj e) (Nat.ne_of_beq_eq_false rfl)) | fail) | fail)
 | (refine nameB_cases (b := okGroup g) (fun h => ?_) (fun h => ?_))
 | (refine nameB_cases (b := okRec r) (fun h => ?_) (fun h => ?_))
 | refine nameB_true ?_
 | refine nameB_false ?_
 | (refine nameB_dec (fun h => ?_) (fun h => ?_) <;> try simp only [lensB] at h)
 | refine splitB_true ?_
 | refine splitB_false ?_
 | refine both_intro ?_ ?_
 | exact True.intro
 | refine Call0 (c_spec_GoodGroup g hok hw) rfl rfl ?_
 | refine Call0 (c_spec_GoodRec r rok h1r h2r) rfl rfl ?_
 | refine CallF (c_spec_l9OwnD g hw) rfl rfl rfl (nbT rfl) ?_
 | refine CallF (c_spec_l9OwnLogD (y.Log ++ [(⟨g.Term, r⟩ : EntryT)]) (by have := lenLead_60 ‹_› hy; rw [laT]; simp; omega) (put_ents hw hy h1r h2r)) (congrArg (fun z => [AV.sl z]) (List.map_append (l₁ := y.Log) (l₂ := [(⟨g.Term, r⟩ : EntryT)]) (f := EntryT.cells)).symm) rfl rfl (nbT rfl) ?_
 | (refine hook_appC false rfl rfl rfl rfl rfl rfl (by rw [List.getElem?_map, hy]; rfl) ?_)
 | refine sdA ⟨nbT rfl, rfl⟩ ?_
 | refine sdA (by first | exact nbT rfl | exact rfl | omega | fail) ?_
 | refine sdA (by first | (and_intros <;> first | rfl | omega | exact nbT rfl) | fail) ?_
 | refine side_and ?_ ?_
 | refine StoreD_of rfl rfl rfl ?_
 | refine LoadR_cel rfl rfl rfl rfl ?_
 | fail
  all_goals
    conv => whnf
    first
    | (have e := okPut_yes ‹_› ‹_› hy (by omega) ‹_›
       rw [putR_yes e, e]
       exact OutA_deep rfl rfl rfl ⟨⟨congrArg (fun e => some (AObj.mk _ _ _ e)) (put_cells hy (putE_cells (by rw [List.map_append]; rfl))), rfl⟩, trivial⟩ rfl)
    | (have e : okPut g r = false := (by first | exact okPut_no1 (by first | exact .inl ‹_› | exact .inr (.inl ‹_›) | exact .inr (.inr ‹_›)) | exact okPut_no3 hy ‹_›)
       rw [putR_no e, e]
       refine OutA_nilB 32 1 60 3 0 rfl rfl rfl (by decide) ?_
       refine OutA_prom [(1, ReplicaT.shp)] ⟨⟨_, _, _, rfl, prom_nil⟩, trivial⟩ ?_
       conv => whnf
       exact OutA_deep rfl rfl rfl ⟨⟨rfl, rfl⟩, trivial⟩ rfl)
def startR (g : GroupT) (r : Int) : GroupT := resG (okUp g r false) ⟨setRep g r fun y => { y with Up := true }, g.Term, g.Lead⟩
theorem startR_yes {g : GroupT} {r : Int} (h : okUp g r false = true) : startR g r = ⟨setRep g r fun y => { y with Up := true }, g.Term, g.Lead⟩ := by rw [startR, resG_yes h]
theorem startR_no {g : GroupT} {r : Int} (h : okUp g r false = false) : startR g r = ⟨[], 0, 0⟩ := by rw [startR, resG_no h]; rfl
theorem downI {g : GroupT} {r : Int} (h1 : okGroup g = true) (h2 : isRep g r = true) (h3 : upAt g r = false) : okUp g r false = true := by unfold okUp; rw [h1, h2, h3]; rfl
theorem downI_no {g : GroupT} {r : Int} (h : okGroup g = false \/ isRep g r = false \/ upAt g r = true) : okUp g r false = false := by
  unfold okUp
  rcases h with h | h | h <;> simp [h]
theorem c_spec_StartRep (g : GroupT) (r : Int) (hok : g.ok) (hw : GB g) : PC Tryz.prog true 84 [.agg g.cells, .int .i64 r] (.tup [.agg (startR g r).cells, .bool (okUp g r false)]) [] := by
  have hl := reps_len hw
  refine pc_at Tryz.func84 rfl (by kernel_rfl) 20 [.cell 4 27, .tmp 5] rfl rfl ?_
  repeat' (conv => whnf); first
 | exact side_of (okUp_side (b := false) ‹_›)
 | refine ix_own (f := ReplicaT.cells) (xs := g.Reps) (okUp_lt (b := false) ‹_›).2 (fun y hy => ?_)
 | (refine nameB_cases (b := okUp g r false) (fun h => ?_) (fun h => ?_))
 | refine nameB_true ?_
 | refine nameB_false ?_
 | refine splitB_true ?_
 | refine splitB_false ?_
 | refine Call0 (c_spec_l9Up g r false hok hw) rfl rfl ?_
 | refine CallT (c_spec_l9Own g hw) rfl rfl rfl rfl (nbT rfl) ?_
 | refine sdA ⟨nbT rfl, rfl⟩ ?_
 | refine sdA (by first | exact nbT rfl | exact rfl | omega | fail) ?_
 | refine sdA (by first | (and_intros <;> first | rfl | omega | exact nbT rfl) | fail) ?_
 | refine side_and ?_ ?_
 | fail
  all_goals
    conv => whnf
    first
    | (have h0 : okUp g r false = true := ‹_›; rw [h0, startR_yes h0]; refine OutA_frz [12304] ?_; (conv => whnf); exact OutA_plain rfl rfl (congrArg (fun e => AV.tup [.agg [.sl e, .int .i64 g.Term, .int .i64 g.Lead], .bool true]) (setRep_cells (f := fun y => { y with Up := true }) hy rfl)))
    | (have h0 : okUp g r false = false := ‹_›; rw [h0, startR_no h0]; refine OutA_nilB 16 1 60 3 0 rfl rfl rfl (by decide) ?_; refine OutA_frz [1] ?_; (conv => whnf); exact OutA_plain rfl rfl rfl)
theorem c_impl_StartRep (g : GroupT) (r : Int) (hok : g.ok) (hw : GB g) : PC Tryz.prog false 80 [.agg g.cells, .int .i64 r] (.tup [.agg [.own 0, .int .i64 (startR g r).Term, .int .i64 (startR g r).Lead], .bool (okUp g r false)]) [⟨.deep ReplicaT.shp, 60, 3, (startR g r).Reps.map ReplicaT.cells⟩] := by
  have hl := reps_len hw
  refine pc_at Tryz.func80 rfl (by kernel_rfl) 33 [.cell 4 27, .tmp 5] rfl rfl ?_
  repeat' (conv => whnf); first
 | refine ix_as (f := ReplicaT.cells) (m := r.toNat) (by have h9 := isRep_lt (g := g) (n := r) ‹_›; omega) (by have h9 := isRep_lt (g := g) (n := r) ‹_›; omega) (fun y hy => ?_)
 | exact side_of (isRep_side ‹_›)
 | refine ix_ownat (f := ReplicaT.cells) (xs := g.Reps) hy ?_
 | (refine nameB_cases (b := okGroup g) (fun h => ?_) (fun h => ?_))
 | (refine nameB_cases (b := isRep g r) (fun h => ?_) (fun h => ?_))
 | (refine nameB_cases (b := y.Up) (fun h => ?_) (fun h => ?_))
 | refine nameB_true ?_
 | refine nameB_false ?_
 | refine splitB_true ?_
 | refine splitB_false ?_
 | refine Call0 (c_impl_GoodGroup g hok hw) rfl rfl ?_
 | refine Call0 (c_impl_Group_isRep g r hw) rfl rfl ?_
 | refine CallF (c_impl_copyGroup g hw) rfl rfl rfl (nbT rfl) ?_
 | refine sdA ⟨nbT rfl, rfl⟩ ?_
 | refine sdA (by first | exact nbT rfl | exact rfl | omega | fail) ?_
 | refine sdA (by first | (and_intros <;> first | rfl | omega | exact nbT rfl) | fail) ?_
 | refine side_and ?_ ?_
 | refine StoreD_of rfl rfl rfl ?_
 | fail
  all_goals
    (try have hyu := upAt_of hy)
    conv => whnf
    first
    | (have h0 : okUp g r false = true := downI ‹_› ‹_› (hyu.trans ‹_›); rw [h0, startR_yes h0]; exact OutA_deep rfl rfl rfl ⟨⟨congrArg (fun e => some (AObj.mk _ _ _ e)) (setRep_cells (f := fun y => { y with Up := true }) hy rfl), rfl⟩, trivial⟩ rfl)
    | (have h0 : okUp g r false = false := downI_no (by first | exact .inl ‹_› | exact .inr (.inl ‹_›) | exact .inr (.inr (hyu.trans ‹_›))); rw [h0, startR_no h0]; refine OutA_nilB 16 1 60 3 0 rfl rfl rfl (by decide) ?_; refine OutA_prom [(1, ReplicaT.shp)] ⟨⟨_, _, _, rfl, prom_nil⟩, trivial⟩ ?_; (conv => whnf); exact OutA_deep rfl rfl rfl ⟨⟨rfl, rfl⟩, trivial⟩ rfl)
theorem log_le {g : GroupT} {l : ReplicaT} {n : Nat} (hw : GB g) (h : g.Reps[n]? = some l) : l.Log.length <= 1048576 := Nat.le_trans (wL_len (w := EntryT.w)) (rep_w hw (mgE h))
theorem sl_tk {l : List EntryT} {m : Nat} : List.drop (Int.toNat 0) (List.take ((m : Int)).toNat (l.map EntryT.cells)) = (l.take m).map EntryT.cells := by
  rw [Int.toNat_natCast, List.map_take]
  rfl
theorem c_impl_Advance_1 (x l : ReplicaT) (m : Nat) (hx : okL EntryT.ok x.Log) (hm : m <= l.Log.length) (hll : l.Log.length <= 1048576) : PC Tryz.prog false 120 [.agg x.cells, .rp l.cells, .rp [.int .i64 (m : Nat)]] (.bool (preE x.Log (l.Log.take m))) [] := by
  refine pc_at Tryz.func120 rfl (by kernel_rfl) 12 [.tmp 4] rfl rfl ?_
  repeat' (conv => whnf); first
 | (refine nameB_cases (b := preE x.Log (l.Log.take m)) (fun h => ?_) (fun h => ?_))
 | refine draw_text (by kernel_rfl) (by kernel_rfl) (by kernel_rfl) ?_
 | (refine CallD0 (c_impl_hasPrefix x.Log (l.Log.take m) hx (by rw [List.length_take]; omega)) (congrArg (fun z => [AV.sl (x.Log.map EntryT.cells), AV.sl z]) sl_tk) rfl rfl ?_)
 | refine sdA (by first | exact nbT rfl | exact rfl | omega | fail) ?_
 | refine sdA (by first | (and_intros <;> first | exact nbT rfl | rfl | omega | (simp only [lensB, lensC]; omega) | exact bytes_ok (nbT rfl) (by omega) (by simp only [lensB, lensC]; omega) | exact bytes_okN (nbT rfl) (by simp only [lensB, lensC]; omega)) | fail) ?_
 | refine side_and (side_of (map_len (fun _ => rfl))) ?_
 | refine LoadK_of rfl rfl ?_
 | fail
  all_goals
    conv => whnf
    refine OutA_plain rfl rfl ?_
    first
    | rfl
    | exact congrArg AV.bool (Eq.symm ‹_›)
theorem cntR_all {g : GroupT} {q : ReplicaT -> Bool} (hl : g.Reps.length <= 1048576) : IntKind.i64.wrap (2 * (cntR q g.Reps : Int)) = 2 * (cntR q g.Reps : Int) := by
  have := cntR_le (q := q) (l := g.Reps) (k := g.Reps.length)
  rw [List.take_of_length_le (Nat.le_refl _)] at this
  exact i64_wrap (by omega) (by omega)
theorem most_yes {g : GroupT} {q : ReplicaT -> Bool} (hl : g.Reps.length <= 1048576) (h : IntKind.i64.wrap (2 * (cntR q g.Reps : Int)) > (g.Reps.length : Int)) : most g q = true := decide_eq_true (by rw [<- cntR_all hl]; exact h)
theorem most_no {g : GroupT} {q : ReplicaT -> Bool} (hl : g.Reps.length <= 1048576) (h : ¬ IntKind.i64.wrap (2 * (cntR q g.Reps : Int)) > (g.Reps.length : Int)) : most g q = false := decide_eq_false (by rw [<- cntR_all hl]; exact h)
theorem c_impl_Advance (g : GroupT) (hok : g.ok) (hw : GB g) : PC Tryz.prog false 83 [.agg g.cells] (.tup [.agg [.own 0, .int .i64 (advR g).Term, .int .i64 (advR g).Lead], .bool (okAdv g)]) [⟨.deep ReplicaT.shp, 60, 3, (advR g).Reps.map ReplicaT.cells⟩] := by
  have hl := reps_len hw
  refine pc_at Tryz.func83 rfl (by kernel_rfl) 57 [.cell 2 27, .tmp 3] rfl rfl ?_
  repeat' (conv => whnf); first
 | refine ix_as (f := ReplicaT.cells) (n := g.Lead) (m := g.Lead.toNat) (by have h9 := okLead_lt (g := g) ‹_› ‹_›; omega) (by have h9 := okLead_lt (g := g) ‹_› ‹_›; omega) (fun l hl2 => ?_)
 | refine ix_as (f := EntryT.cells) (xs := l.Log) (m := m - 1) (dec_eq (Nat.le_trans hT.2 (log_le hw hl2)) (okG_sure ‹_› hl2) ‹_›) (by have h9 := okG_sure (g := g) ‹_› hl2; omega) (fun e he => ?_)
 | exact side_of (lead_side ‹_› ‹_›)
 | refine ix_ownat (f := ReplicaT.cells) (xs := g.Reps) hl2 ?_
 | (refine nameB_cases (b := okGroup g) (fun h => ?_) (fun h => ?_))
 | (refine nameB_cases (b := most g _) (fun h => ?_) (fun h => ?_))
 | refine nameB_true ?_
 | refine nameB_false ?_
 | (refine nameB_dec (fun h => ?_) (fun h => ?_) <;> try simp only [lensB] at h)
 | refine splitB_true ?_
 | refine splitB_false ?_
 | refine draw_text (by kernel_rfl) (by kernel_rfl) (by kernel_rfl) ?_
 | ((refine Loop_at [1, 2, 4, 5] [0, 16, 12304, 12320, 16480] (Nat) (fun m => adv g l m = adv g l l.Log.length /\ m <= l.Log.length) (fun m => [(6, .ptr 20528 0 0)]) (fun m => [(20528, ⟨true, 3, 1, [[.int .i64 (m : Nat)]]⟩)]) (fun m => m) l.Log.length ⟨by first | rfl | first | rfl | fail, trivial⟩ ⟨by first | rfl | first | rfl | exact congrArg (fun z => some (AObj.mk _ _ _ [[AV.int .i64 z]])) (congrArg (fun n : Nat => (n : Int)) (List.length_map _)) | exact congrArg (fun z => some (AObj.mk _ _ _ [[AV.int .i64 z]])) (dec_eq (Nat.le_trans hT.2 (log_le hw hl2)) (okG_sure ‹_› hl2) ‹_›) | fail | fail, trivial⟩ (by (try dsimp only); first | (exact ⟨rfl, Nat.le_refl _⟩) | fail) ?_; (conv => whnf); refine side_and (side_of (by first | exact fun m => rfl | exact fun m => by simp [headOk, closedE, closedO, closedL, AV.closed, hcap.closed, hasId, AObj.box, BK.ofB])) ?_; rintro m hT; try dsimp only at hT))
 | (refine Again_ren 45056 20528 (by decide) rfl ?_; (conv => whnf); refine Again_of (m - 1) ⟨by first | rfl | first | rfl | fail, trivial⟩ ⟨by first | rfl | first | rfl | exact congrArg (fun z => some (AObj.mk _ _ _ [[AV.int .i64 z]])) (congrArg (fun n : Nat => (n : Int)) (List.length_map _)) | exact congrArg (fun z => some (AObj.mk _ _ _ [[AV.int .i64 z]])) (dec_eq (Nat.le_trans hT.2 (log_le hw hl2)) (okG_sure ‹_› hl2) ‹_›) | fail | fail, trivial⟩ (by first | (and_intros <;> first | rfl | trivial) | fail) (by first | (and_intros <;> first | rfl | trivial) | fail) rfl rfl rfl (by (try dsimp only); first | (first | exact ⟨(adv_go (okG_sure ‹_› hl2) ‹_› (hit_no1 he ‹_›)).trans hT.1, by omega⟩ | exact ⟨(adv_go (okG_sure ‹_› hl2) ‹_› (hit_no2 ‹_›)).trans hT.1, by omega⟩) | fail) (show _ < _ by (try dsimp only); (have h9 := okG_sure ‹_› hl2; omega)))
 | refine Call0 (c_impl_GoodGroup g hok hw) rfl rfl ?_
 | refine CallF (c_impl_copyGroup g hw) rfl rfl rfl (nbT rfl) ?_
 | refine CallD0 (c_impl_Group_isMost g 120 [.rp l.cells, .rp [.int .i64 (m : Nat)]] (fun x => preE x.Log (l.Log.take m)) hw ⟨fun _ => rfl, fun _ => rfl, fun _ => rfl, fun _ => rfl, fun _ => rfl⟩ (fun x hx => c_impl_Advance_1 x l m (hok.1.2 x hx).2.1 hT.2 (log_le hw hl2))) rfl rfl rfl ?_
 | refine sdA ⟨nbT rfl, rfl⟩ ?_
 | refine sdA (by first | exact nbT rfl | exact rfl | omega | fail) ?_
 | refine sdA (by first | (and_intros <;> first | rfl | omega | exact nbT rfl) | fail) ?_
 | refine side_and ?_ ?_
 | refine LoadK_of rfl rfl ?_
 | refine StoreD_of rfl rfl rfl ?_
 | fail
  all_goals
    conv => whnf
    first
    | (have h0 : okAdv g = false := okAdv_no (by first | exact .inl ‹_› | exact .inr ‹_›); rw [h0, advR_no h0]; refine OutA_nilB 16 1 60 3 0 rfl rfl rfl (by decide) ?_; refine OutA_prom [(1, ReplicaT.shp)] ⟨⟨_, _, _, rfl, prom_nil⟩, trivial⟩ ?_; (conv => whnf); exact OutA_deep rfl rfl rfl ⟨⟨rfl, rfl⟩, trivial⟩ rfl)
    | (have h0 : okAdv g = true := okAdv_yes ‹_› ‹_›; have h9 := adv_hit (okG_sure ‹_› hl2) ‹_› (hit_yes he ‹_› ‹_›); rw [h0, advR_yes h0]; exact OutA_deep rfl rfl rfl ⟨⟨congrArg (fun e => some (AObj.mk _ _ _ e)) (setRep_cells (f := fun y => { y with Sure := advS g }) hl2 (adv_cells hl2 (hT.1.symm.trans h9))), rfl⟩, trivial⟩ rfl)
    | (have h0 : okAdv g = true := okAdv_yes ‹_› ‹_›; have h9 := adv_stop (g := g) (l := l) (m := m) ‹_›; rw [h0, advR_yes h0]; exact OutA_deep rfl rfl rfl ⟨⟨congrArg (fun e => some (AObj.mk _ _ _ e)) (adv_same hl2 (hT.1.symm.trans h9)), rfl⟩, trivial⟩ rfl)
theorem c_spec_Advance (g : GroupT) (hok : g.ok) (hw : GB g) : PC Tryz.prog true 87 [.agg g.cells] (.tup [.agg (advR g).cells, .bool (okAdv g)]) [] := by
  have hl := reps_len hw
  refine pc_at Tryz.func87 rfl (by kernel_rfl) 64 [.cell 2 27, .tmp 3] rfl rfl ?_
  repeat' (conv => whnf); first
 | refine ix_as (f := ReplicaT.cells) (n := g.Lead) (m := g.Lead.toNat) (by have h9 := okLead_lt (g := g) ‹_› ‹_›; omega) (by have h9 := okLead_lt (g := g) ‹_› ‹_›; omega) (fun l hl2 => ?_)
 | refine ix_as (f := EntryT.cells) (xs := l.Log) (m := m - 1) (dec_eq (Nat.le_trans hT.2 (log_le hw hl2)) (okG_sure ‹_› hl2) ‹_›) (by have h9 := okG_sure (g := g) ‹_› hl2; omega) (fun e he => ?_)
 | exact side_of (lead_side ‹_› ‹_›)
 | refine ix_ownat (f := ReplicaT.cells) (xs := g.Reps) hl2 ?_
 | (refine nameB_cases (b := okGroup g) (fun h => ?_) (fun h => ?_))
 | refine nameB_true ?_
 | refine nameB_false ?_
 | (refine nameB_dec (fun h => ?_) (fun h => ?_) <;> try simp only [lensB] at h)
 | refine splitB_true ?_
 | refine splitB_false ?_
 | refine draw_text (by kernel_rfl) (by kernel_rfl) (by kernel_rfl) ?_
 | ((refine Loop_at [1, 2, 4, 5] [0, 16, 12304, 12320, 16480] (Nat) (fun m => adv g l m = adv g l l.Log.length /\ m <= l.Log.length) (fun m => [(6, .int .i64 (m : Nat))]) (fun m => []) (fun m => m) l.Log.length ⟨by first | first | rfl | exact congrArg (fun n : Nat => AV.int .i64 (n : Int)) (List.length_map _) | exact congrArg (AV.int .i64) (dec_eq (Nat.le_trans hT.2 (log_le hw hl2)) (okG_sure ‹_› hl2) ‹_›) | rfl | fail, trivial⟩ trivial (by (try dsimp only); first | (exact ⟨rfl, Nat.le_refl _⟩) | fail) ?_; (conv => whnf); refine side_and (side_of (by first | exact fun m => rfl | exact fun m => by simp [headOk, closedE, closedO, closedL, AV.closed, hcap.closed, hasId, AObj.box, BK.ofB])) ?_; rintro m hT; try dsimp only at hT))
 | (refine Again_of (m - 1) ⟨by first | rfl | exact i64_next (by omega) | first | rfl | exact congrArg (fun n : Nat => AV.int .i64 (n : Int)) (List.length_map _) | exact congrArg (AV.int .i64) (dec_eq (Nat.le_trans hT.2 (log_le hw hl2)) (okG_sure ‹_› hl2) ‹_›) | fail, trivial⟩ trivial (by first | (and_intros <;> first | rfl | trivial) | fail) (by first | (and_intros <;> first | rfl | trivial) | fail) rfl rfl rfl (by (try dsimp only); first | (first | exact ⟨(adv_go (okG_sure ‹_› hl2) ‹_› (hit_no1 he ‹_›)).trans hT.1, by omega⟩ | exact ⟨(adv_go (okG_sure ‹_› hl2) ‹_› (hit_no2 (most_no hl ‹_›))).trans hT.1, by omega⟩) | fail) (show _ < _ by (try dsimp only); (have h9 := okG_sure ‹_› hl2; omega)))
 | refine Call0 (c_spec_GoodGroup g hok hw) rfl rfl ?_
 | refine CallT (c_spec_l9Own g hw) rfl rfl rfl rfl (nbT rfl) ?_
 | refine CallD0 (c_spec_l9Many g l.Log m hok hw (log_le hw hl2) hT.2) rfl rfl rfl ?_
 | refine sdA ⟨nbT rfl, rfl⟩ ?_
 | refine sdA (by first | exact nbT rfl | exact rfl | omega | fail) ?_
 | refine sdA (by first | (and_intros <;> first | rfl | omega | exact nbT rfl) | fail) ?_
 | refine side_and ?_ ?_
 | refine LoadK_of rfl rfl ?_
 | fail
  all_goals
    conv => whnf
    first
    | (have h0 : okAdv g = false := okAdv_no (by first | exact .inl ‹_› | exact .inr ‹_›); rw [h0, advR_no h0]; refine OutA_nilB 16 1 60 3 0 rfl rfl rfl (by decide) ?_; refine OutA_frz [1] ?_; (conv => whnf); exact OutA_plain rfl rfl rfl)
    | (have h0 : okAdv g = true := okAdv_yes ‹_› ‹_›; have h9 := adv_hit (okG_sure ‹_› hl2) ‹_› (hit_yes he ‹_› (most_yes hl ‹_›)); rw [h0, advR_yes h0]; refine OutA_frz [12304] ?_; (conv => whnf); exact OutA_plain rfl rfl (congrArg (fun e => AV.tup [.agg [.sl e, .int .i64 g.Term, .int .i64 g.Lead], .bool true]) (setRep_cells (f := fun y => { y with Sure := advS g }) hl2 (adv_cells hl2 (hT.1.symm.trans h9)))))
    | (have h0 : okAdv g = true := okAdv_yes ‹_› ‹_›; have h9 := adv_stop (g := g) (l := l) (m := m) ‹_›; rw [h0, advR_yes h0]; refine OutA_frz [12304] ?_; (conv => whnf); exact OutA_plain rfl rfl (congrArg (fun e => AV.tup [.agg [.sl e, .int .i64 g.Term, .int .i64 g.Lead], .bool true]) (adv_same hl2 (hT.1.symm.trans h9))))
def logOf (g : GroupT) (r : Int) : List EntryT := match g.Reps[r.toNat]? with | some y => y.Log | none => []
def sureOf (g : GroupT) (r : Int) : Int := match g.Reps[r.toNat]? with | some y => y.Sure | none => 0
theorem logOf_of {g : GroupT} {r : Int} {y : ReplicaT} (h : g.Reps[r.toNat]? = some y) : logOf g r = y.Log := by unfold logOf; rw [h]
theorem sureOf_of {g : GroupT} {r : Int} {y : ReplicaT} (h : g.Reps[r.toNat]? = some y) : sureOf g r = y.Sure := by unfold sureOf; rw [h]
def mx (a b : Int) : Int := if b > a then b else a
def mn (a b : Int) : Int := if b < a then b else a
def copyF (g : GroupT) (y : ReplicaT) : ReplicaT := ⟨true, logOf g g.Lead, mn (mx (sureOf g g.Lead) y.Sure) ((logOf g g.Lead).length : Int)⟩
def okCopy (g : GroupT) (r : Int) : Bool := okUp g r true && (!decide (g.Lead < 0) && !decide (r = g.Lead))
def copyN (g : GroupT) (r : Int) : GroupT := ⟨setRep g r (copyF g), g.Term, g.Lead⟩
def copyR (g : GroupT) (r : Int) : GroupT := resG (okCopy g r) (copyN g r)
theorem copyR_yes {g : GroupT} {r : Int} (h : okCopy g r = true) : copyR g r = ⟨setRep g r (copyF g), g.Term, g.Lead⟩ := by rw [copyR, resG_yes h]; rfl
theorem copyR_no {g : GroupT} {r : Int} (h : okCopy g r = false) : copyR g r = ⟨[], 0, 0⟩ := by rw [copyR, resG_no h]; rfl
theorem copy_yes {g : GroupT} {r : Int} (h1 : okUp g r true = true) (h2 : ¬ g.Lead < 0) (h3 : ¬ r = g.Lead) : okCopy g r = true := by unfold okCopy; rw [h1, decide_eq_false h2, decide_eq_false h3]; rfl
theorem copy_no {g : GroupT} {r : Int} (h : okUp g r true = false \/ g.Lead < 0 \/ r = g.Lead) : okCopy g r = false := by
  unfold okCopy
  rcases h with h | h | h
  · rw [h]; rfl
  · rw [decide_eq_true h]; simp
  · rw [decide_eq_true h]; simp
theorem copy_cells {g : GroupT} {y l : ReplicaT} {n : Int} (hl : g.Reps[g.Lead.toNat]? = some l) (hn : n = mn (mx l.Sure y.Sure) ((l.Log.map EntryT.cells).length : Int)) : [.bool true, .sl (l.Log.map EntryT.cells), .int .i64 n] = (copyF g y).cells := by
  rw [List.length_map] at hn
  unfold copyF
  rw [logOf_of hl, sureOf_of hl, hn]
  rfl
theorem copy_log {g : GroupT} {x : ReplicaT} (hw : GB g) (h : g.Reps[g.Lead.toNat]? = some x) : wL EntryT.w x.Log <= 1048576 := rep_w hw (mgE h)
theorem okUp_g' {g : GroupT} {r : Int} {b : Bool} (h : okUp g r b = true) : okGroup g = true := by
  unfold okUp at h
  simp only [baT] at h
  exact h.1
theorem c_impl_CopyTo (g : GroupT) (r : Int) (hok : g.ok) (hw : GB g) : PC Tryz.prog false 82 [.agg g.cells, .int .i64 r] (.tup [.agg [.own 0, .int .i64 (copyR g r).Term, .int .i64 (copyR g r).Lead], .bool (okCopy g r)]) [⟨.deep ReplicaT.shp, 60, 3, (copyR g r).Reps.map ReplicaT.cells⟩] := by
  have hl := reps_len hw
  refine pc_at Tryz.func82 rfl (by kernel_rfl) 68 [.cell 4 27, .tmp 5] rfl rfl ?_
  repeat' (conv => whnf); first
 | (show Go.Ab.drawA _ _ _ _ _; refine draw_tail 20 (by kernel_rfl) (by kernel_rfl) (by kernel_rfl) ?_)
 | refine ix_re (f := ReplicaT.cells) (xs := g.Reps) (n := r) (isRep_lt (g := g) (n := r) ‹_›).1 ‹_› ?_
 | refine ix_as (f := ReplicaT.cells) (n := r) (m := r.toNat) (by have h9 := isRep_lt (g := g) (n := r) ‹_›; omega) (by have h9 := isRep_lt (g := g) (n := r) ‹_›; omega) (fun y hy => ?_)
 | refine ix_as (f := ReplicaT.cells) (n := g.Lead) (m := g.Lead.toNat) (by have h9 := okLead_lt (g := g) ‹_› ‹_›; omega) (by have h9 := okLead_lt (g := g) ‹_› ‹_›; omega) (fun l hl2 => ?_)
 | refine nameB_self (b := y.Up) ?_
 | exact side_of (isRep_side ‹_›)
 | refine ix_ownat (f := ReplicaT.cells) (xs := g.Reps) hy ?_
 | (refine nameB_cases (b := okGroup g) (fun h => ?_) (fun h => ?_))
 | (refine nameB_cases (b := isRep g r) (fun h => ?_) (fun h => ?_))
 | refine nameB_true ?_
 | refine nameB_false ?_
 | (refine nameB_dec (fun h => ?_) (fun h => ?_) <;> try simp only [lensB] at h)
 | (refine nameB_cases (fun h => ?_) (fun h => ?_) <;> try simp only [nmL, lensB] at h)
 | refine splitB_true ?_
 | refine splitB_false ?_
 | refine Call0 (c_impl_GoodGroup g hok hw) rfl rfl ?_
 | refine Call0 (c_impl_Group_isRep g r hw) rfl rfl ?_
 | refine CallF (c_impl_copyGroup g hw) rfl rfl rfl (nbT rfl) ?_
 | refine CallDF (c_impl_copyEntries l.Log (copy_log hw hl2)) rfl rfl ⟨rfl, rfl⟩ ?_
 | refine sdA ⟨nbT rfl, rfl⟩ ?_
 | refine sdA (by first | exact nbT rfl | exact rfl | omega | fail) ?_
 | refine sdA (by first | (and_intros <;> first | rfl | omega | exact nbT rfl) | fail) ?_
 | refine side_and ?_ ?_
 | refine LoadK_of rfl rfl ?_
 | refine StoreD_of rfl rfl rfl ?_
 | fail
  all_goals
    (try have hyu := upAt_of hy)
    conv => whnf
    first
    | (have h0 : okCopy g r = true := copy_yes (upI ‹_› ‹_› (hyu.trans ‹_›)) ‹_› ‹_›; rw [h0, copyR_yes h0]; exact OutA_deep rfl rfl rfl ⟨⟨congrArg (fun e => some (AObj.mk _ _ _ e)) (setRep_cells (f := copyF g) hy (copy_cells hl2 rfl)), rfl⟩, trivial⟩ rfl)
    | (have h0 : okCopy g r = false := copy_no (by first | exact .inl (upI_no (.inl ‹_›)) | exact .inl (upI_no (.inr (.inl ‹_›))) | exact .inl (upI_no (.inr (.inr (hyu.trans ‹_›)))) | exact .inr (.inl ‹_›) | exact .inr (.inr ‹_›)); rw [h0, copyR_no h0]; refine OutA_nilB 16 1 60 3 0 rfl rfl rfl (by decide) ?_; refine OutA_prom [(1, ReplicaT.shp)] ⟨⟨_, _, _, rfl, prom_nil⟩, trivial⟩ ?_; (conv => whnf); exact OutA_deep rfl rfl rfl ⟨⟨rfl, rfl⟩, trivial⟩ rfl)
theorem c_spec_l1LeastG (a b : Int) : PC Tryz.prog false 122 [.int .i64 a, .int .i64 b] (.int .i64 (if a < b then a else b)) [] := by
  refine pc_at Tryz.func122 rfl (by kernel_rfl) 10 [.tmp 4] rfl rfl ?_
  repeat' (conv => whnf); first
 | (refine nameB_dec (fun h => ?_) (fun h => ?_) <;> try simp only [lensB] at h)
 | refine splitB_true ?_
 | refine splitB_false ?_
 | fail
  all_goals
    conv => whnf
    refine OutA_plain rfl rfl ?_
    first
    | exact congrArg (AV.int .i64) (if_pos ‹_›).symm
    | exact congrArg (AV.int .i64) (if_neg ‹_›).symm
theorem c_spec_l1MostG (a b : Int) : PC Tryz.prog false 123 [.int .i64 a, .int .i64 b] (.int .i64 (if a > b then a else b)) [] := by
  refine pc_at Tryz.func123 rfl (by kernel_rfl) 10 [.tmp 4] rfl rfl ?_
  repeat' (conv => whnf); first
 | (refine nameB_dec (fun h => ?_) (fun h => ?_) <;> try simp only [lensB] at h)
 | refine splitB_true ?_
 | refine splitB_false ?_
 | fail
  all_goals
    conv => whnf
    refine OutA_plain rfl rfl ?_
    first
    | exact congrArg (AV.int .i64) (if_pos ‹_›).symm
    | exact congrArg (AV.int .i64) (if_neg ‹_›).symm
theorem least_most {a b n : Int} : (if n < (if a > b then a else b) then n else (if a > b then a else b)) = mn (mx b a) n := by
  unfold mn mx
  by_cases h1 : a > b
  · rw [if_pos h1]
  · rw [if_neg h1]
theorem copy_cellsS {g : GroupT} {y l : ReplicaT} {n : Int} (hl : g.Reps[g.Lead.toNat]? = some l) (hn : n = (if ((l.Log.map EntryT.cells).length : Int) < (if y.Sure > l.Sure then y.Sure else l.Sure) then ((l.Log.map EntryT.cells).length : Int) else (if y.Sure > l.Sure then y.Sure else l.Sure))) : [.bool true, .sl (l.Log.map EntryT.cells), .int .i64 n] = (copyF g y).cells :=
  copy_cells hl (hn.trans least_most)
theorem c_spec_CopyTo (g : GroupT) (r : Int) (hok : g.ok) (hw : GB g) : PC Tryz.prog true 86 [.agg g.cells, .int .i64 r] (.tup [.agg (copyR g r).cells, .bool (okCopy g r)]) [] := by
  have hl := reps_len hw
  refine pc_at Tryz.func86 rfl (by kernel_rfl) 58 [.cell 4 27, .tmp 5] rfl rfl ?_
  repeat' (conv => whnf); first
 | (show Go.Ab.drawA _ _ _ _ _; refine draw_tail 22 (by kernel_rfl) (by kernel_rfl) (by kernel_rfl) ?_)
 | refine ix_re (f := ReplicaT.cells) (xs := g.Reps) (n := g.Lead) (okLead_lt (g := g) (okUp_g' (r := r) (b := true) ‹_›) ‹_›).1 ‹_› ?_
 | refine ix_as (f := ReplicaT.cells) (n := g.Lead) (m := g.Lead.toNat) (by have h9 := okLead_lt (g := g) (okUp_g' (r := r) (b := true) ‹_›) ‹_›; omega) (by have h9 := okLead_lt (g := g) (okUp_g' (r := r) (b := true) ‹_›) ‹_›; omega) (fun l hl2 => ?_)
 | refine ix_as (f := ReplicaT.cells) (n := r) (m := r.toNat) (by have h9 := okUp_lt (g := g) (r := r) (b := true) ‹_›; omega) (by have h9 := okUp_lt (g := g) (r := r) (b := true) ‹_›; omega) (fun y hy => ?_)
 | exact side_of (okUp_side (b := true) ‹_›)
 | refine ix_ownat (f := ReplicaT.cells) (xs := g.Reps) hy ?_
 | (refine nameB_cases (b := okUp g r true) (fun h => ?_) (fun h => ?_))
 | refine nameB_true ?_
 | refine nameB_false ?_
 | (refine nameB_dec (fun h => ?_) (fun h => ?_) <;> try simp only [lensB] at h)
 | refine splitB_true ?_
 | refine splitB_false ?_
 | refine Call0 (c_spec_l9Up g r true hok hw) rfl rfl ?_
 | refine CallT (c_spec_l9Own g hw) rfl rfl rfl rfl (nbT rfl) ?_
 | refine CallT (c_spec_l9OwnLog l.Log (copy_log hw hl2)) rfl rfl rfl rfl (nbT rfl) ?_
 | refine CallD0 (c_spec_l1LeastG ..) rfl rfl rfl ?_
 | refine CallD0 (c_spec_l1MostG ..) rfl rfl rfl ?_
 | refine sdA ⟨nbT rfl, rfl⟩ ?_
 | refine sdA (by first | exact nbT rfl | exact rfl | omega | fail) ?_
 | refine sdA (by first | (and_intros <;> first | rfl | omega | exact nbT rfl) | fail) ?_
 | refine side_and ?_ ?_
 | refine LoadK_of rfl rfl ?_
 | fail
  all_goals
    conv => whnf
    first
    | (have h0 : okCopy g r = true := copy_yes ‹_› ‹_› (fun e => absurd e.symm ‹_›); rw [h0, copyR_yes h0]; refine OutA_frz [12304] ?_; (conv => whnf); exact OutA_plain rfl rfl (congrArg (fun e => AV.tup [.agg [.sl e, .int .i64 g.Term, .int .i64 g.Lead], .bool true]) (setRep_cells (f := copyF g) hy (copy_cellsS hl2 rfl))))
    | (have h0 : okCopy g r = false := copy_no (by first | exact .inl ‹_› | exact .inr (.inl ‹_›) | exact .inr (.inr (Eq.symm ‹_›))); rw [h0, copyR_no h0]; refine OutA_nilB 16 1 60 3 0 rfl rfl rfl (by decide) ?_; refine OutA_frz [1] ?_; (conv => whnf); exact OutA_plain rfl rfl rfl)
theorem sum_le_mul {α : Type} {w : α -> Nat} {B : Nat} : ∀ {xs : List α}, (∀ x ∈ xs, w x <= B) -> (xs.map w).sum <= xs.length * B
  | [], _ => by simp
  | x :: xs, h => by
    have h1 := sum_le_mul (xs := xs) (fun y hy => h y (List.mem_cons_of_mem _ hy))
    have h2 := h x (List.mem_cons_self ..)
    simp only [List.map_cons, List.sum_cons, List.length_cons, Nat.succ_mul]
    omega
theorem wL_bound {α : Type} {w : α -> Nat} {B : Nat} {xs : List α} (hB : ∀ x ∈ xs, w x <= B) (hl : xs.length <= 5) : wL w xs <= 5 + 5 * B := by
  have h1 := sum_le_mul hB
  have h2 : xs.length * B <= 5 * B := Nat.mul_le_mul_right B hl
  unfold wL
  omega
theorem okG_len {g : GroupT} (h : okGroup g = true) : g.Reps.length <= 5 := by
  simp only [okGroup, okMany, baT, Bool.or_eq_true, decide_eq_true_eq] at h
  omega
def logAt (g : GroupT) (r : Int) : List EntryT := match g.Reps[r.toNat]? with | some y => y.Log | none => []
theorem logAt_of {g : GroupT} {r : Int} {y : ReplicaT} (h : g.Reps[r.toNat]? = some y) : logAt g r = y.Log := by unfold logAt; rw [h]
def votes (g : GroupT) (r : Int) (x : ReplicaT) : Bool := x.Up && !newer x.Log (logAt g r)
theorem votes_yes {g : GroupT} {r : Int} {x : ReplicaT} (h1 : x.Up = true) (h2 : newer x.Log (logAt g r) = false) : votes g r x = true := by unfold votes; rw [h1, h2]; rfl
theorem votes_no1 {g : GroupT} {r : Int} {x : ReplicaT} (h1 : x.Up = false) : votes g r x = false := by unfold votes; rw [h1]; rfl
theorem votes_no2 {g : GroupT} {r : Int} {x : ReplicaT} (h2 : newer x.Log (logAt g r) = true) : votes g r x = false := by unfold votes; rw [h2]; simp
theorem rep_len {g : GroupT} {x : ReplicaT} (hw : GB g) (h : x ∈ g.Reps) : x.Log.length <= 1048576 := Nat.le_trans (wL_len (w := EntryT.w)) (rep_w hw h)
theorem c_impl_ElectRep_1 (g : GroupT) (r : Int) (x y : ReplicaT) (hr : 0 <= r) (hy : g.Reps[r.toNat]? = some y) (hx : x.Log.length <= 1048576) (hw : GB g) : PC Tryz.prog false 118 [.agg x.cells, .rp g.cells, .rp [.int .i64 r]] (.bool (votes g r x)) [] := by
  have hz := rep_len hw (mgE hy)
  have he := logAt_of hy
  refine pc_at Tryz.func118 rfl (by kernel_rfl) 19 [.tmp 4] rfl rfl ?_
  repeat' (conv => whnf); first
 | refine ix_re (f := ReplicaT.cells) hr hy ?_
 | (refine nameB_cases (b := x.Up) (fun h => ?_) (fun h => ?_))
 | (refine nameB_cases (b := newer x.Log y.Log) (fun h => ?_) (fun h => ?_))
 | refine nameB_true ?_
 | refine nameB_false ?_
 | refine splitB_true ?_
 | refine splitB_false ?_
 | refine draw_text (by kernel_rfl) (by kernel_rfl) (by kernel_rfl) ?_
 | refine CallD0 (c_impl_isNewer x.Log y.Log hx hz) rfl rfl rfl ?_
 | refine sdA (by first | exact nbT rfl | exact rfl | omega | fail) ?_
 | refine LoadK_of rfl rfl ?_
 | fail
  all_goals
    conv => whnf
    refine OutA_plain rfl rfl ?_
    first
    | (simp_all [votes, named, AV.sub, AV.sub.subL]; done)
def okElect (g : GroupT) (r : Int) : Bool := okUp g r true && (!decide (g.Term = 200) && most g (votes g r))
def electN (g : GroupT) (r : Int) : GroupT := ⟨g.Reps, IntKind.i64.wrap (g.Term + 1), r⟩
def electR (g : GroupT) (r : Int) : GroupT := resG (okElect g r) (electN g r)
theorem electR_yes {g : GroupT} {r : Int} (h : okElect g r = true) : electR g r = ⟨g.Reps, IntKind.i64.wrap (g.Term + 1), r⟩ := by rw [electR, resG_yes h]; rfl
theorem electR_no {g : GroupT} {r : Int} (h : okElect g r = false) : electR g r = ⟨[], 0, 0⟩ := by rw [electR, resG_no h]; rfl
theorem elect_yes {g : GroupT} {r : Int} (h1 : okUp g r true = true) (h2 : ¬ g.Term = 200) (h3 : most g (votes g r) = true) : okElect g r = true := by unfold okElect; rw [h1, h3, decide_eq_false h2]; rfl
theorem elect_no {g : GroupT} {r : Int} (h : okUp g r true = false \/ g.Term = 200 \/ most g (votes g r) = false) : okElect g r = false := by
  unfold okElect
  rcases h with h | h | h
  · rw [h]; rfl
  · rw [decide_eq_true h]; simp
  · rw [h]; simp
theorem c_impl_ElectRep (g : GroupT) (r : Int) (hok : g.ok) (hw : GB g) : PC Tryz.prog false 81 [.agg g.cells, .int .i64 r] (.tup [.agg [.own 0, .int .i64 (electR g r).Term, .int .i64 (electR g r).Lead], .bool (okElect g r)]) [⟨.deep ReplicaT.shp, 60, 3, (electR g r).Reps.map ReplicaT.cells⟩] := by
  have hl := reps_len hw
  refine pc_at Tryz.func81 rfl (by kernel_rfl) 45 [.cell 4 27, .tmp 5] rfl rfl ?_
  repeat' (conv => whnf); first
 | refine ix_as (f := ReplicaT.cells) (m := r.toNat) (by have h9 := isRep_lt (g := g) (n := r) ‹_›; omega) (by have h9 := isRep_lt (g := g) (n := r) ‹_›; omega) (fun y hy => ?_)
 | refine nameB_self (b := y.Up) ?_
 | (refine nameB_cases (b := okGroup g) (fun h => ?_) (fun h => ?_))
 | (refine nameB_cases (b := isRep g r) (fun h => ?_) (fun h => ?_))
 | (refine nameB_cases (b := most g (votes g r)) (fun h => ?_) (fun h => ?_))
 | refine nameB_true ?_
 | refine nameB_false ?_
 | (refine nameB_dec (fun h => ?_) (fun h => ?_) <;> try simp only [lensB] at h)
 | (refine nameB_cases (fun h => ?_) (fun h => ?_) <;> try simp only [nmL, lensB] at h)
 | refine splitB_true ?_
 | refine splitB_false ?_
 | refine Call0 (c_impl_GoodGroup g hok hw) rfl rfl ?_
 | refine Call0 (c_impl_Group_isRep g r hw) rfl rfl ?_
 | refine CallF (c_impl_copyGroup g hw) rfl rfl rfl (nbT rfl) ?_
 | refine Call0 (c_impl_Group_isMost g 118 [.rp g.cells, .rp [.int .i64 r]] (votes g r) hw ⟨fun _ => rfl, fun _ => rfl, fun _ => rfl, fun _ => rfl, fun _ => rfl⟩ (fun x hx => c_impl_ElectRep_1 g r x y (isRep_lt ‹_›).1 hy (rep_len hw hx) hw)) rfl rfl ?_
 | refine sdA ⟨nbT rfl, rfl⟩ ?_
 | refine sdA (by first | exact nbT rfl | exact rfl | omega | fail) ?_
 | refine sdA (by first | (and_intros <;> first | rfl | omega | exact nbT rfl) | fail) ?_
 | fail
  all_goals
    (try have hyu := upAt_of hy)
    conv => whnf
    first
    | (have h0 : okElect g r = true := elect_yes (upI ‹_› ‹_› (hyu.trans ‹_›)) ‹_› ‹_›; rw [h0, electR_yes h0]; exact OutA_deep rfl rfl rfl ⟨⟨rfl, rfl⟩, trivial⟩ rfl)
    | (have h0 : okElect g r = false := elect_no (by first | exact .inl (upI_no (.inl ‹_›)) | exact .inl (upI_no (.inr (.inl ‹_›))) | exact .inl (upI_no (.inr (.inr (hyu.trans ‹_›)))) | exact .inr (.inl ‹_›) | exact .inr (.inr ‹_›)); rw [h0, electR_no h0]; refine OutA_nilB 32 1 60 3 0 rfl rfl rfl (by decide) ?_; refine OutA_prom [(1, ReplicaT.shp)] ⟨⟨_, _, _, rfl, prom_nil⟩, trivial⟩ ?_; (conv => whnf); exact OutA_deep rfl rfl rfl ⟨⟨rfl, rfl⟩, trivial⟩ rfl)
theorem c_spec_ElectRep_no (g : GroupT) (r : Int) (hok : g.ok) (hw : GB g) (h0 : okUp g r true = false) : PC Tryz.prog true 85 [.agg g.cells, .int .i64 r] (.tup [.agg (electR g r).cells, .bool (okElect g r)]) [] := by
  have hu := c_spec_l9Up g r true hok hw
  rw [h0] at hu
  refine pc_at Tryz.func85 rfl (by kernel_rfl) 66 [.cell 4 27, .tmp 5] rfl rfl ?_
  repeat' (conv => whnf); first
 | refine nameB_true ?_
 | refine nameB_false ?_
 | refine splitB_true ?_
 | refine Call0 (hu) rfl rfl ?_
 | refine sdA ⟨nbT rfl, rfl⟩ ?_
 | refine sdA (by first | exact nbT rfl | exact rfl | omega | fail) ?_
 | refine sdA (by first | (and_intros <;> first | rfl | omega | exact nbT rfl) | fail) ?_
 | fail
  all_goals
    conv => whnf
    (have h0 : okElect g r = false := elect_no (.inl h0); rw [h0, electR_no h0]; refine OutA_nilB 16 1 60 3 0 rfl rfl rfl (by decide) ?_; refine OutA_frz [1] ?_; (conv => whnf); exact OutA_plain rfl rfl rfl)
theorem c_spec_ElectRep_up (g : GroupT) (r : Int) (y : ReplicaT) (hok : g.ok) (hw : GB g) (h0 : okUp g r true = true) (hr : 0 <= r) (hy : g.Reps[r.toNat]? = some y) : PC Tryz.prog true 85 [.agg g.cells, .int .i64 r] (.tup [.agg (electR g r).cells, .bool (okElect g r)]) [] := by
  have hl := reps_len hw
  have hz := rep_len hw (mgE hy)
  have he := logAt_of hy
  have hu := c_spec_l9Up g r true hok hw
  rw [h0] at hu
  refine pc_at Tryz.func85 rfl (by kernel_rfl) 66 [.cell 4 27, .tmp 5] rfl rfl ?_
  repeat' (conv => whnf); first
 | refine ix_re (f := ReplicaT.cells) hr hy ?_
 | (refine nameB_cases (b := x.Up) (fun h => ?_) (fun h => ?_))
 | (refine nameB_cases (b := newer x.Log y.Log) (fun h => ?_) (fun h => ?_))
 | refine nameB_true ?_
 | refine nameB_false ?_
 | (refine nameB_dec (fun h => ?_) (fun h => ?_) <;> try simp only [lensB] at h)
 | refine splitB_true ?_
 | refine splitB_false ?_
 | refine draw_text (by kernel_rfl) (by kernel_rfl) (by kernel_rfl) ?_
 | ((refine Loop_at [1, 2, 4] [0, 16] (Nat) (fun k => k <= g.Reps.length) (fun k => [(6, .int .i64 (cntR (votes g r) (g.Reps.take k) : Nat)), (7, .int .i64 (k : Nat))]) (fun k => []) (fun k => g.Reps.length - k) 0 ⟨by first | first | rfl | exact congrArg (AV.int .i64) (cntR_inc hl hx (votes_yes ‹_› (he ▸ ‹_›))) | exact congrArg (fun n : Nat => AV.int .i64 (n : Int)) (cntR_no hx (votes_no1 ‹_›)).symm | exact congrArg (fun n : Nat => AV.int .i64 (n : Int)) (cntR_no hx (votes_no2 (he ▸ ‹_›))).symm | rfl | fail, by first | first | rfl | exact congrArg (AV.int .i64) (cntR_inc hl hx (votes_yes ‹_› (he ▸ ‹_›))) | exact congrArg (fun n : Nat => AV.int .i64 (n : Int)) (cntR_no hx (votes_no1 ‹_›)).symm | exact congrArg (fun n : Nat => AV.int .i64 (n : Int)) (cntR_no hx (votes_no2 (he ▸ ‹_›))).symm | rfl | fail, trivial⟩ trivial (by (try dsimp only); first | (exact Nat.zero_le _) | fail) ?_; (conv => whnf); refine side_and (side_of (by first | exact fun k => rfl | exact fun k => by simp [headOk, closedE, closedO, closedL, AV.closed, hcap.closed, hasId, AObj.box, BK.ofB])) ?_; rintro k hT; try dsimp only at hT))
 | (refine Again_of (k + 1) ⟨by first | first | rfl | exact congrArg (AV.int .i64) (cntR_inc hl hx (votes_yes ‹_› (he ▸ ‹_›))) | exact congrArg (fun n : Nat => AV.int .i64 (n : Int)) (cntR_no hx (votes_no1 ‹_›)).symm | exact congrArg (fun n : Nat => AV.int .i64 (n : Int)) (cntR_no hx (votes_no2 (he ▸ ‹_›))).symm | rfl | fail, by first | rfl | exact i64_next (by omega) | first | rfl | exact congrArg (AV.int .i64) (cntR_inc hl hx (votes_yes ‹_› (he ▸ ‹_›))) | exact congrArg (fun n : Nat => AV.int .i64 (n : Int)) (cntR_no hx (votes_no1 ‹_›)).symm | exact congrArg (fun n : Nat => AV.int .i64 (n : Int)) (cntR_no hx (votes_no2 (he ▸ ‹_›))).symm | fail, trivial⟩ trivial (by first | (and_intros <;> first | rfl | trivial) | fail) (by first | (and_intros <;> first | rfl | trivial) | fail) rfl rfl rfl (by (try dsimp only); first | ((show k + 1 <= _; omega)) | fail) (show _ < _ by (try dsimp only); omega))
 | refine Call0 (hu) rfl rfl ?_
 | refine CallT (c_spec_l9Own g hw) rfl rfl rfl rfl (nbT rfl) ?_
 | refine CallD0 (c_spec_l9Later x.Log y.Log (rep_len hw (mgE hx)) hz) rfl rfl rfl ?_
 | refine ix_map_at hx ?_
 | (refine ix_map (by omega) (by (try simp only [List.length_take]); omega) (fun x hx => ?_); try simp only [Int.toNat_natCast] at hx)
 | refine sdA ⟨nbT rfl, rfl⟩ ?_
 | refine sdA (by first | exact nbT rfl | exact rfl | omega | fail) ?_
 | refine sdA (by first | (and_intros <;> first | rfl | omega | exact nbT rfl) | fail) ?_
 | refine LoadK_of rfl rfl ?_
 | fail
  all_goals
    conv => whnf
    first
    | (have h0 : okElect g r = false := elect_no (.inr (.inl ‹_›)); rw [h0, electR_no h0]; refine OutA_nilB 16 1 60 3 0 rfl rfl rfl (by decide) ?_; refine OutA_frz [1] ?_; (conv => whnf); exact OutA_plain rfl rfl rfl)
    | (have hm := most_of (q := votes g r) hl ‹_›; have h1 : most g (votes g r) = false := decide_eq_false (by rw [<- hm]; exact Int.not_lt.2 ‹_›); have h0 : okElect g r = false := elect_no (.inr (.inr h1)); rw [h0, electR_no h0]; refine OutA_nilB 16 1 60 3 0 rfl rfl rfl (by decide) ?_; refine OutA_frz [1] ?_; (conv => whnf); exact OutA_plain rfl rfl rfl)
    | (have hm := most_of (q := votes g r) hl ‹_›; have h1 : most g (votes g r) = true := decide_eq_true (by rw [<- hm]; exact Int.not_le.1 ‹_›); have h0 : okElect g r = true := elect_yes h0 ‹_› h1; rw [h0, electR_yes h0]; refine OutA_frz [45072] ?_; (conv => whnf); exact OutA_plain rfl rfl rfl)
theorem c_spec_ElectRep (g : GroupT) (r : Int) (hok : g.ok) (hw : GB g) : PC Tryz.prog true 85 [.agg g.cells, .int .i64 r] (.tup [.agg (electR g r).cells, .bool (okElect g r)]) [] := by
  cases h : okUp g r true with
  | false => exact c_spec_ElectRep_no g r hok hw h
  | true =>
    obtain ⟨h1, h2⟩ := okUp_lt h
    exact c_spec_ElectRep_up g r g.Reps[r.toNat] hok hw h h1 (by simp [h2])
def actG (g : GroupT) (a : GroupActT) : GroupT :=
  if a.Kind = 1 then crashR g a.Rep else if a.Kind = 2 then startR g a.Rep else if a.Kind = 3 then electR g a.Rep else if a.Kind = 4 then putR g a.Rec else if a.Kind = 5 then copyR g a.Rep else if a.Kind = 6 then advR g else zeroG
def okAct (g : GroupT) (a : GroupActT) : Bool :=
  if a.Kind = 1 then okUp g a.Rep true else if a.Kind = 2 then okUp g a.Rep false else if a.Kind = 3 then okElect g a.Rep else if a.Kind = 4 then okPut g a.Rec else if a.Kind = 5 then okCopy g a.Rep else if a.Kind = 6 then okAdv g else false
theorem act1 {g : GroupT} {a : GroupActT} (h : a.Kind = 1) : actG g a = crashR g a.Rep /\ okAct g a = okUp g a.Rep true := by simp [actG, okAct, h]
theorem act2 {g : GroupT} {a : GroupActT} (h : a.Kind = 2) : actG g a = startR g a.Rep /\ okAct g a = okUp g a.Rep false := by simp [actG, okAct, h]
theorem act3 {g : GroupT} {a : GroupActT} (h : a.Kind = 3) : actG g a = electR g a.Rep /\ okAct g a = okElect g a.Rep := by simp [actG, okAct, h]
theorem act4 {g : GroupT} {a : GroupActT} (h : a.Kind = 4) : actG g a = putR g a.Rec /\ okAct g a = okPut g a.Rec := by simp [actG, okAct, h]
theorem act5 {g : GroupT} {a : GroupActT} (h : a.Kind = 5) : actG g a = copyR g a.Rep /\ okAct g a = okCopy g a.Rep := by simp [actG, okAct, h]
theorem act6 {g : GroupT} {a : GroupActT} (h : a.Kind = 6) : actG g a = advR g /\ okAct g a = okAdv g := by simp [actG, okAct, h]
theorem act0 {g : GroupT} {a : GroupActT} (h1 : ¬ a.Kind = 1) (h2 : ¬ a.Kind = 2) (h3 : ¬ a.Kind = 3) (h4 : ¬ a.Kind = 4) (h5 : ¬ a.Kind = 5) (h6 : ¬ a.Kind = 6) : actG g a = zeroG /\ okAct g a = false := by simp [actG, okAct, h1, h2, h3, h4, h5, h6]
theorem rec_len {r : RecT} (h : r.w <= 1048576) : r.Reads.length <= 1048576 /\ r.Writes.length <= 1048576 := ⟨(ent_len (e := ⟨0, r⟩) h).2, (ent_len (e := ⟨0, r⟩) h).1⟩
theorem c_spec_l9Do (g : GroupT) (a : GroupActT) (hok : g.ok) (hw : GB g) (aok : a.ok) (haw : a.w <= 1048576) : PC Tryz.prog true 47 [.agg g.cells, .agg a.cells] (.tup [.agg (actG g a).cells, .bool (okAct g a)]) [] := by
  have hr : a.Rec.w <= 1048576 := haw
  refine pc_at Tryz.func47 rfl (by kernel_rfl) 55 [.cell 4 27, .tmp 5] rfl rfl ?_
  repeat' (conv => whnf); first
 | refine nameB_self (b := okUp g a.Rep true) ?_
 | refine nameB_self (b := okUp g a.Rep false) ?_
 | refine nameB_self (b := okElect g a.Rep) ?_
 | refine nameB_self (b := okPut g a.Rec) ?_
 | refine nameB_self (b := okCopy g a.Rep) ?_
 | refine nameB_self (b := okAdv g) ?_
 | (refine nameB_dec (fun h => ?_) (fun h => ?_) <;> try simp only [lensB] at h)
 | refine splitB_true ?_
 | refine splitB_false ?_
 | refine CallT (c_spec_CrashRep g a.Rep hok hw) rfl rfl rfl rfl (nbT rfl) ?_
 | refine CallT (c_spec_StartRep g a.Rep hok hw) rfl rfl rfl rfl (nbT rfl) ?_
 | refine CallT (c_spec_ElectRep g a.Rep hok hw) rfl rfl rfl rfl (nbT rfl) ?_
 | refine CallF (c_spec_PutEntryD g a.Rec hok hw aok.2.2 (rec_len hr).1 (rec_len hr).2) rfl rfl rfl (nbT rfl) ?_
 | refine CallT (c_spec_CopyTo g a.Rep hok hw) rfl rfl rfl rfl (nbT rfl) ?_
 | refine CallT (c_spec_Advance g hok hw) rfl rfl rfl rfl (nbT rfl) ?_
 | refine sdA ⟨nbT rfl, rfl⟩ ?_
 | refine sdA (by first | exact nbT rfl | exact rfl | omega | fail) ?_
 | refine sdA (by first | (and_intros <;> first | rfl | omega | exact nbT rfl) | fail) ?_
 | fail
  all_goals
    conv => whnf
    first
    | (obtain ⟨e1, e2⟩ := act1 (g := g) (a := a) ‹_›; rw [e1, e2]; exact OutA_plain rfl rfl rfl)
    | (obtain ⟨e1, e2⟩ := act2 (g := g) (a := a) ‹_›; rw [e1, e2]; exact OutA_plain rfl rfl rfl)
    | (obtain ⟨e1, e2⟩ := act3 (g := g) (a := a) ‹_›; rw [e1, e2]; exact OutA_plain rfl rfl rfl)
    | (obtain ⟨e1, e2⟩ := act5 (g := g) (a := a) ‹_›; rw [e1, e2]; exact OutA_plain rfl rfl rfl)
    | (obtain ⟨e1, e2⟩ := act6 (g := g) (a := a) ‹_›; rw [e1, e2]; exact OutA_plain rfl rfl rfl)
    | (obtain ⟨e1, e2⟩ := act4 (g := g) (a := a) ‹_›; rw [e1, e2]; refine OutA_frz [36912] ?_; (conv => whnf); exact OutA_plain rfl rfl rfl)
    | (obtain ⟨e1, e2⟩ := act0 (g := g) (a := a) ‹_› ‹_› ‹_› ‹_› ‹_› ‹_›; rw [e1, e2]; refine OutA_nilB 32 1 60 3 0 rfl rfl rfl (by decide) ?_; refine OutA_frz [1] ?_; (conv => whnf); exact OutA_plain rfl rfl rfl)
theorem c_impl_doGroup (g : GroupT) (a : GroupActT) (hok : g.ok) (hw : GB g) (aok : a.ok) (haw : a.w <= 1048576) : PC Tryz.prog false 46 [.agg g.cells, .agg a.cells] (.tup [.agg [.own 0, .int .i64 (actG g a).Term, .int .i64 (actG g a).Lead], .bool (okAct g a)]) [⟨.deep ReplicaT.shp, 60, 3, (actG g a).Reps.map ReplicaT.cells⟩] := by
  have hr : a.Rec.w <= 1048576 := haw
  refine pc_at Tryz.func46 rfl (by kernel_rfl) 55 [.cell 4 27, .tmp 5] rfl rfl ?_
  repeat' (conv => whnf); first
 | refine nameB_self (b := okUp g a.Rep true) ?_
 | refine nameB_self (b := okUp g a.Rep false) ?_
 | refine nameB_self (b := okElect g a.Rep) ?_
 | refine nameB_self (b := okPut g a.Rec) ?_
 | refine nameB_self (b := okCopy g a.Rep) ?_
 | refine nameB_self (b := okAdv g) ?_
 | (refine nameB_dec (fun h => ?_) (fun h => ?_) <;> try simp only [lensB] at h)
 | refine splitB_true ?_
 | refine splitB_false ?_
 | refine CallF (c_impl_CrashRep g a.Rep hok hw) rfl rfl rfl (nbT rfl) ?_
 | refine CallF (c_impl_StartRep g a.Rep hok hw) rfl rfl rfl (nbT rfl) ?_
 | refine CallF (c_impl_ElectRep g a.Rep hok hw) rfl rfl rfl (nbT rfl) ?_
 | refine CallF (c_impl_PutEntry g a.Rec hok hw aok.2.2 (rec_len hr).1 (rec_len hr).2) rfl rfl rfl (nbT rfl) ?_
 | refine CallF (c_impl_CopyTo g a.Rep hok hw) rfl rfl rfl (nbT rfl) ?_
 | refine CallF (c_impl_Advance g hok hw) rfl rfl rfl (nbT rfl) ?_
 | refine sdA ⟨nbT rfl, rfl⟩ ?_
 | refine sdA (by first | exact nbT rfl | exact rfl | omega | fail) ?_
 | refine sdA (by first | (and_intros <;> first | rfl | omega | exact nbT rfl) | fail) ?_
 | fail
  all_goals
    conv => whnf
    first
    | (obtain ⟨e1, e2⟩ := act1 (g := g) (a := a) ‹_›; rw [e1, e2]; exact OutA_deep rfl rfl rfl ⟨⟨rfl, rfl⟩, trivial⟩ rfl)
    | (obtain ⟨e1, e2⟩ := act2 (g := g) (a := a) ‹_›; rw [e1, e2]; exact OutA_deep rfl rfl rfl ⟨⟨rfl, rfl⟩, trivial⟩ rfl)
    | (obtain ⟨e1, e2⟩ := act3 (g := g) (a := a) ‹_›; rw [e1, e2]; exact OutA_deep rfl rfl rfl ⟨⟨rfl, rfl⟩, trivial⟩ rfl)
    | (obtain ⟨e1, e2⟩ := act4 (g := g) (a := a) ‹_›; rw [e1, e2]; exact OutA_deep rfl rfl rfl ⟨⟨rfl, rfl⟩, trivial⟩ rfl)
    | (obtain ⟨e1, e2⟩ := act5 (g := g) (a := a) ‹_›; rw [e1, e2]; exact OutA_deep rfl rfl rfl ⟨⟨rfl, rfl⟩, trivial⟩ rfl)
    | (obtain ⟨e1, e2⟩ := act6 (g := g) (a := a) ‹_›; rw [e1, e2]; exact OutA_deep rfl rfl rfl ⟨⟨rfl, rfl⟩, trivial⟩ rfl)
    | (obtain ⟨e1, e2⟩ := act0 (g := g) (a := a) ‹_› ‹_› ‹_› ‹_› ‹_› ‹_›; rw [e1, e2]; refine OutA_nilB 32 1 60 3 0 rfl rfl rfl (by decide) ?_; refine OutA_prom [(1, ReplicaT.shp)] ⟨⟨_, _, _, rfl, prom_nil⟩, trivial⟩ ?_; (conv => whnf); exact OutA_deep rfl rfl rfl ⟨⟨rfl, rfl⟩, trivial⟩ rfl)
def stepG (g : GroupT) (a : GroupActT) : GroupT := match okAct g a with | true => actG g a | false => g
theorem stepG_yes {g : GroupT} {a : GroupActT} (h : okAct g a = true) : stepG g a = actG g a := by unfold stepG; rw [h]
theorem stepG_no {g : GroupT} {a : GroupActT} (h : okAct g a = false) : stepG g a = g := by unfold stepG; rw [h]
def playG (g : GroupT) (acts : List GroupActT) : GroupT := acts.foldl stepG g
theorem playG_next {g : GroupT} {acts : List GroupActT} {k : Nat} {y : GroupActT} (hy : acts[k]? = some y) : playG g (acts.take (k + 1)) = stepG (playG g (acts.take k)) y := by
  unfold playG
  rw [List.take_add_one, hy, Option.toList_some, List.foldl_append, List.foldl_cons, List.foldl_nil]
theorem playG_yes {g : GroupT} {acts : List GroupActT} {k : Nat} {y : GroupActT} (hy : acts[k]? = some y) (h : okAct (playG g (acts.take k)) y = true) : actG (playG g (acts.take k)) y = playG g (acts.take (k + 1)) := by rw [playG_next hy, stepG_yes h]
theorem playG_no {g : GroupT} {acts : List GroupActT} {k : Nat} {y : GroupActT} (hy : acts[k]? = some y) (h : okAct (playG g (acts.take k)) y = false) : playG g (acts.take k) = playG g (acts.take (k + 1)) := by rw [playG_next hy, stepG_no h]
structure PG (M : Nat) (g : GroupT) : Prop where
  ok : g.ok
  len : g.Reps.length <= 5
  w : ∀ x ∈ g.Reps, x.w <= M
theorem PG.gb {M : Nat} {g : GroupT} (h : PG M g) (hM : M <= 1048576) : GB g := ⟨Nat.le_trans h.len (by decide), fun x hx => Nat.le_trans (h.w x hx) hM⟩
theorem PG.le {M N : Nat} {g : GroupT} (h : PG M g) (hM : M <= N) : PG N g := ⟨h.ok, h.len, fun x hx => Nat.le_trans (h.w x hx) hM⟩
theorem PG.wt {M : Nat} {g : GroupT} (h : PG M g) (hM : M <= 1048576) : g.w <= 5242885 := by
  have := wL_bound (w := ReplicaT.w) (B := 1048576) (xs := g.Reps) (fun y hy => Nat.le_trans (h.w y hy) hM) h.len
  have e : g.w = wL ReplicaT.w g.Reps := rfl
  omega
theorem PG.of {g : GroupT} {M : Nat} (hok : g.ok) (hg : okGroup g = true) (hw : g.w <= M) : PG M g := ⟨hok, okG_len hg, fun x hx => Nat.le_trans (wL_mem hx).2 hw⟩
theorem PG.set {M N : Nat} {g : GroupT} {r T L : Int} {f : ReplicaT -> ReplicaT} (h : PG M g) (hM : M <= N) (hf : ∀ x, g.Reps[r.toNat]? = some x -> (f x).ok /\ (f x).w <= N) : PG N ⟨setRep g r f, T, L⟩ := by
  unfold setRep
  split
  · rename_i y hy
    obtain ⟨h1, h2⟩ := hf y hy
    refine ⟨⟨⟨by rw [List.length_set]; exact h.ok.1.1, fun x hx => ?_⟩, trivial, trivial⟩, by rw [List.length_set]; exact h.len, fun x hx => ?_⟩
    · rcases List.mem_or_eq_of_mem_set hx with q | rfl
      · exact h.ok.1.2 x q
      · exact h1
    · rcases List.mem_or_eq_of_mem_set hx with q | rfl
      · exact Nat.le_trans (h.w x q) hM
      · exact h2
  · exact ⟨⟨h.ok.1, trivial, trivial⟩, h.len, fun x hx => Nat.le_trans (h.w x hx) hM⟩
theorem PG.rep {M : Nat} {g : GroupT} {n : Nat} {x : ReplicaT} (h : PG M g) (hx : g.Reps[n]? = some x) : x.ok /\ x.w <= M := ⟨h.ok.1.2 x (mgE hx), h.w x (mgE hx)⟩
theorem PG.log {M : Nat} {g : GroupT} (h : PG M g) : okL EntryT.ok (logOf g g.Lead) /\ wL EntryT.w (logOf g g.Lead) <= M := by
  unfold logOf
  split
  · rename_i y hy
    exact ⟨(h.rep hy).1.2.1, (h.rep hy).2⟩
  · exact ⟨⟨Nat.zero_le _, fun _ h => by cases h⟩, Nat.zero_le _⟩
theorem wL_snoc {α : Type} {w : α -> Nat} {xs : List α} {x : α} : wL w (xs ++ [x]) = wL w xs + w x + 1 := by
  unfold wL
  simp only [laT, List.map_append, List.map_cons, List.map_nil, List.sum_append, List.sum_cons, List.sum_nil, List.length_cons, List.length_nil]
  omega
theorem PG.step {M : Nat} {g : GroupT} {a : GroupActT} (h : PG M g) (ha : a.ok) (hM : M <= 1048576) : PG (M + a.w + 1) (stepG g a) := by
  cases hk : okAct g a with
  | false => rw [stepG_no hk]; exact h.le (by omega)
  | true =>
    rw [stepG_yes hk]
    by_cases h1 : a.Kind = 1
    · rw [(act1 h1).2] at hk
      rw [(act1 h1).1, crashR, resG_yes hk]
      exact h.set (by omega) fun x hx => ⟨⟨trivial, (h.rep hx).1.2.1, trivial⟩, Nat.le_trans (h.rep hx).2 (by omega)⟩
    by_cases h2 : a.Kind = 2
    · rw [(act2 h2).2] at hk
      rw [(act2 h2).1, startR_yes hk]
      exact h.set (by omega) fun x hx => ⟨⟨trivial, (h.rep hx).1.2.1, trivial⟩, Nat.le_trans (h.rep hx).2 (by omega)⟩
    by_cases h3 : a.Kind = 3
    · rw [(act3 h3).2] at hk
      rw [(act3 h3).1, electR_yes hk]
      exact ⟨⟨h.ok.1, trivial, trivial⟩, h.len, fun x hx => Nat.le_trans (h.w x hx) (by omega)⟩
    by_cases h4 : a.Kind = 4
    · rw [(act4 h4).2] at hk
      rw [(act4 h4).1, putR_yes hk]
      refine h.set (by omega) fun x hx => ⟨⟨trivial, ?_, trivial⟩, ?_⟩
      · have q := (h.rep hx).1.2.1
        have hl : x.Log.length <= wL EntryT.w x.Log := wL_len
        have hw2 : wL EntryT.w x.Log <= M := (h.rep hx).2
        refine ⟨?_, fun z hz => ?_⟩
        · show (x.Log ++ [_]).length <= _
          rw [laT, List.length_singleton]
          omega
        · rcases List.mem_append.1 hz with p | p
          · exact q.2 z p
          · rw [List.mem_singleton] at p
            subst p
            exact ⟨trivial, ha.2.2⟩
      · show wL EntryT.w (x.Log ++ [_]) <= _
        rw [wL_snoc]
        have hw2 : wL EntryT.w x.Log <= M := (h.rep hx).2
        have e : a.w = EntryT.w ⟨g.Term, a.Rec⟩ := rfl
        omega
    by_cases h5 : a.Kind = 5
    · rw [(act5 h5).2] at hk
      rw [(act5 h5).1, copyR_yes hk]
      refine h.set (by omega) fun x hx => ⟨⟨trivial, h.log.1, trivial⟩, ?_⟩
      exact Nat.le_trans h.log.2 (by omega)
    by_cases h6 : a.Kind = 6
    · rw [(act6 h6).2] at hk
      rw [(act6 h6).1, advR_yes hk]
      exact h.set (by omega) fun x hx => ⟨⟨trivial, (h.rep hx).1.2.1, trivial⟩, Nat.le_trans (h.rep hx).2 (by omega)⟩
    rw [(act0 h1 h2 h3 h4 h5 h6).2] at hk
    cases hk
theorem PG.play {g : GroupT} {acts : List GroupActT} (hg : PG g.w g) (ha : okL GroupActT.ok acts) (hw : g.w + wL GroupActT.w acts <= 1048576) : ∀ k, k <= acts.length -> PG (g.w + wL GroupActT.w (acts.take k)) (playG g (acts.take k))
  | 0, _ => hg.le (by omega)
  | k + 1, hk => by
    have ih := PG.play hg ha hw k (by omega)
    have hx : acts[k]? = some acts[k] := by simp
    rw [playG_next hx]
    have e : acts.take (k + 1) = acts.take k ++ [acts[k]] := by rw [List.take_add_one, hx]; rfl
    have hle : wL GroupActT.w (acts.take k) <= wL GroupActT.w acts := by
      have e2 : acts = acts.take k ++ acts.drop k := (List.take_append_drop k acts).symm
      conv => rhs; rw [e2]
      unfold wL
      simp only [laT, List.map_append, List.sum_append]
      omega
    have := ih.step (a := acts[k]) (ha.2 _ (List.getElem_mem _)) (by omega)
    exact this.le (by rw [e, wL_snoc]; omega)
theorem wL_take {α : Type} {w : α -> Nat} {xs : List α} {k : Nat} : wL w (xs.take k) <= wL w xs := by
  have e2 : xs = xs.take k ++ xs.drop k := (List.take_append_drop k xs).symm
  conv => rhs; rw [e2]
  unfold wL
  simp only [laT, List.map_append, List.sum_append]
  omega
def dskOf (ds : List DiskT) (r : Int) : DiskT := match ds[r.toNat]? with | some d => d | none => ⟨[], []⟩
theorem dskOf_of {ds : List DiskT} {r : Int} {d : DiskT} (h : ds[r.toNat]? = some d) : dskOf ds r = d := by unfold dskOf; rw [h]
def onK (d : DiskT) : List EntryT := (frames d.Kept 0).1.map outE
def backG (g : GroupT) (r : Int) (d : DiskT) : GroupT := ⟨setRep g r (fun _ => ⟨true, onK d, 0⟩), g.Term, g.Lead⟩
def putH (h : HouseT) (g : GroupT) : HouseT := ⟨g, h.Disks.set g.Lead.toNat ⟨keptB (logOf g g.Lead), []⟩⟩
def copyH (h : HouseT) (g : GroupT) (r : Int) : HouseT := ⟨g, h.Disks.set r.toNat ⟨keptB (logOf g r), []⟩⟩
def backH (h : HouseT) (g : GroupT) (r : Int) : HouseT := ⟨backG g r (dskOf h.Disks r), h.Disks.set r.toNat (mended (dskOf h.Disks r))⟩
def actH (h : HouseT) (a : GroupActT) : HouseT :=
  if a.Kind = 4 then putH h (actG h.Group a) else if a.Kind = 5 then copyH h (actG h.Group a) a.Rep else if a.Kind = 2 then backH h (actG h.Group a) a.Rep else ⟨actG h.Group a, h.Disks⟩
def okBack (h : HouseT) (a : GroupActT) : Bool := !decide (a.Kind = 2) || okLog (onK (dskOf h.Disks a.Rep)) (actG h.Group a).Term
def zeroH : HouseT := ⟨zeroG, []⟩
def resH (b : Bool) (h : HouseT) : HouseT := match b with | true => h | false => zeroH
theorem resH_yes {b : Bool} {h : HouseT} (e : b = true) : resH b h = h := by rw [e]; rfl
theorem resH_no {b : Bool} {h : HouseT} (e : b = false) : resH b h = zeroH := by rw [e]; rfl
def okActI (h : HouseT) (a : GroupActT) : Bool := okAct h.Group a && okBack h a
def actI (h : HouseT) (a : GroupActT) : HouseT := resH (okActI h a) (actH h a)
theorem actI_no {h : HouseT} {a : GroupActT} (e : okAct h.Group a = false) : okActI h a = false /\ actI h a = zeroH := by
  have q : okActI h a = false := by unfold okActI; rw [e]; rfl
  exact ⟨q, by rw [actI, resH_no q]⟩
theorem actI_4 {h : HouseT} {a : GroupActT} (e : okAct h.Group a = true) (hk : a.Kind = 4) : okActI h a = true /\ actI h a = putH h (actG h.Group a) := by
  have q : okActI h a = true := by unfold okActI okBack; rw [e, decide_eq_false (show ¬ a.Kind = 2 by omega)]; rfl
  exact ⟨q, by rw [actI, resH_yes q, actH, if_pos hk]⟩
theorem actI_5 {h : HouseT} {a : GroupActT} (e : okAct h.Group a = true) (hk : a.Kind = 5) : okActI h a = true /\ actI h a = copyH h (actG h.Group a) a.Rep := by
  have q : okActI h a = true := by unfold okActI okBack; rw [e, decide_eq_false (show ¬ a.Kind = 2 by omega)]; rfl
  exact ⟨q, by rw [actI, resH_yes q, actH, if_neg (by omega), if_pos hk]⟩
theorem actI_2 {h : HouseT} {a : GroupActT} (e : okAct h.Group a = true) (hk : a.Kind = 2) (hl : okLog (onK (dskOf h.Disks a.Rep)) (actG h.Group a).Term = true) : okActI h a = true /\ actI h a = backH h (actG h.Group a) a.Rep := by
  have q : okActI h a = true := by unfold okActI okBack; rw [e, hl]; simp
  exact ⟨q, by rw [actI, resH_yes q, actH, if_neg (by omega), if_neg (by omega), if_pos hk]⟩
theorem actI_2n {h : HouseT} {a : GroupActT} (hk : a.Kind = 2) (hl : okLog (onK (dskOf h.Disks a.Rep)) (actG h.Group a).Term = false) : okActI h a = false /\ actI h a = zeroH := by
  have q : okActI h a = false := by unfold okActI okBack; rw [hl, decide_eq_true hk]; simp
  exact ⟨q, by rw [actI, resH_no q]⟩
theorem actI_n {h : HouseT} {a : GroupActT} (e : okAct h.Group a = true) (h4 : ¬ a.Kind = 4) (h5 : ¬ a.Kind = 5) (h2 : ¬ a.Kind = 2) : okActI h a = true /\ actI h a = ⟨actG h.Group a, h.Disks⟩ := by
  have q : okActI h a = true := by unfold okActI okBack; rw [e, decide_eq_false h2]; rfl
  exact ⟨q, by rw [actI, resH_yes q, actH, if_neg h4, if_neg h5, if_neg h2]⟩
theorem allPre_mem {α : Type} {p : List α -> α -> Bool} : ∀ {l pre : List α}, allPre p pre l = true -> ∀ e ∈ l, ∃ q, p q e = true
  | [], _, _, e, he => by cases he
  | x :: xs, pre, h, e, he => by
    simp only [allPre, baT] at h
    rcases List.mem_cons.1 he with rfl | he
    · exact ⟨pre, h.1⟩
    · exact allPre_mem h.2 e he
theorem okLog_mem {l : List EntryT} {t : Int} (h : okLog l t = true) : l.length <= 60 /\ ∀ e ∈ l, okRec e.Rec = true /\ (1 <= e.Term /\ e.Term <= t) := by
  unfold okLog at h
  simp only [baT, decide_eq_true_eq] at h
  refine ⟨by omega, fun e he => ?_⟩
  obtain ⟨q, hq⟩ := allPre_mem h.1 e he
  unfold entAt at hq
  simp only [baT, inB, decide_eq_true_eq] at hq
  exact ⟨hq.1.2, hq.1.1⟩
structure OkG (g : GroupT) : Prop where
  many : okMany (g.Reps.length : Int) = true
  term : 0 <= g.Term /\ g.Term <= 200
  lead : okLead g = true
  rep : ∀ x ∈ g.Reps, okRep g.Term x = true
theorem okG_of {g : GroupT} (h : okGroup g = true) : OkG g := by
  unfold okGroup at h
  simp only [baT, List.all_eq_true, inB, decide_eq_true_eq] at h
  exact ⟨h.1.1.1, h.1.1.2, h.1.2, h.2⟩
theorem okG_ents {g : GroupT} (h : okGroup g = true) (hb : GB g) {x : ReplicaT} (hx : x ∈ g.Reps) : x.Log.length <= 60 /\ ∀ e ∈ x.Log, entIn e := by
  have o := okG_of h
  have h2 := o.rep x hx
  unfold okRep at h2
  simp only [baT] at h2
  obtain ⟨h3, h4⟩ := okLog_mem h2.1
  refine ⟨h3, fun e he => ⟨(h4 e he).1, by have := (h4 e he).2; have := o.term; omega, ?_⟩⟩
  exact Nat.le_trans (wL_mem (w := EntryT.w) he).2 (hb.2 x hx)
structure OkH (h : HouseT) : Prop where
  g : okGroup h.Group = true
  len : h.Disks.length = h.Group.Reps.length
  pair : ∀ (n : Nat) (x : ReplicaT) (d : DiskT), h.Group.Reps[n]? = some x -> h.Disks[n]? = some d -> fitsD h.Group.Term x d = true
theorem okH_of {h : HouseT} (e : okHouse h = true) : OkH h := by
  unfold okHouse at e
  simp only [baT, decide_eq_true_eq] at e
  obtain ⟨⟨e1, e2⟩, e3⟩ := e
  refine ⟨e1, by omega, fun n x d hx hd => ?_⟩
  rw [List.all_eq_true] at e3
  exact e3 (x, d) (mgE (zip_at hx hd))
theorem fitsD_mend {t : Int} {x : ReplicaT} {d : DiskT} (h : fitsD t x d = true) : mendB d = true /\ (frames d.Kept 0).1.all okE = true := by
  unfold fitsD at h
  simp only [baT] at h
  exact h.1
theorem OkH.disk {h : HouseT} (o : OkH h) {n : Nat} {d : DiskT} (hd : h.Disks[n]? = some d) : mendB d = true /\ (frames d.Kept 0).1.all okE = true := by
  have hn := (List.getElem?_eq_some_iff.1 hd).1
  exact fitsD_mend (o.pair n _ d (List.getElem?_eq_getElem (show n < h.Group.Reps.length by rw [<- o.len]; exact hn)) hd)
theorem setRep_at {g : GroupT} {r : Int} {f : ReplicaT -> ReplicaT} {y : ReplicaT} {T L : Int} (hy : g.Reps[r.toNat]? = some y) : (⟨setRep g r f, T, L⟩ : GroupT).Reps[r.toNat]? = some (f y) := by
  show (setRep g r f)[r.toNat]? = some (f y)
  rw [setRep_of hy]
  have := (List.getElem?_eq_some_iff.1 hy).1
  simp [this]
theorem setRep_len2 {g : GroupT} {r : Int} {f : ReplicaT -> ReplicaT} : (setRep g r f).length = g.Reps.length := by
  unfold setRep
  split
  · rw [List.length_set]
  · rfl
theorem act_put {h : HouseT} {a : GroupActT} (hb : GB h.Group) (o : OkH h) (haw : a.w <= 1048576) (hk : a.Kind = 4) (ho : okAct h.Group a = true) :
    ∃ y, (actG h.Group a).Reps[(actG h.Group a).Lead.toNat]? = some y /\ 0 <= (actG h.Group a).Lead /\ (actG h.Group a).Lead.toNat < h.Disks.length /\ y.Log.length <= 61 /\ ∀ e ∈ y.Log, entIn e := by
  rw [(act4 hk).2] at ho
  rw [(act4 hk).1, putR_yes ho]
  have h2 : okGroup h.Group = true /\ (0 <= h.Group.Lead /\ (lenLead h.Group < 60 /\ okRec a.Rec = true)) := by
    unfold okPut at ho
    simpa only [baT, decide_eq_true_eq] using ho
  have hlt := (okLead_lt h2.1 (by omega)).2
  have hy : h.Group.Reps[h.Group.Lead.toNat]? = some h.Group.Reps[h.Group.Lead.toNat] := List.getElem?_eq_getElem hlt
  refine ⟨_, setRep_at hy, h2.2.1, by rw [o.len]; exact hlt, ?_, fun e he => ?_⟩
  · have := (okG_ents h2.1 hb (mgE hy)).1
    show (_ ++ [_]).length <= 61
    rw [laT, List.length_singleton]
    omega
  · rcases List.mem_append.1 he with p | p
    · exact (okG_ents h2.1 hb (mgE hy)).2 e p
    · rw [List.mem_singleton] at p
      subst p
      exact ⟨h2.2.2.2, (okG_of h2.1).term, haw⟩
theorem act_copy {h : HouseT} {a : GroupActT} (hb : GB h.Group) (o : OkH h) (hk : a.Kind = 5) (ho : okAct h.Group a = true) :
    ∃ y, (actG h.Group a).Reps[a.Rep.toNat]? = some y /\ 0 <= a.Rep /\ a.Rep.toNat < h.Disks.length /\ y.Log.length <= 61 /\ ∀ e ∈ y.Log, entIn e := by
  rw [(act5 hk).2] at ho
  rw [(act5 hk).1, copyR_yes ho]
  have h1 : okUp h.Group a.Rep true = true := by unfold okCopy at ho; simp only [baT] at ho; exact ho.1
  obtain ⟨l1, l2⟩ := okUp_lt h1
  have hg := okUp_g' h1
  have hy : h.Group.Reps[a.Rep.toNat]? = some h.Group.Reps[a.Rep.toNat] := List.getElem?_eq_getElem l2
  have hlog : (logOf h.Group h.Group.Lead).length <= 60 /\ ∀ e ∈ logOf h.Group h.Group.Lead, entIn e := by
    unfold logOf
    split
    · rename_i z hz
      exact okG_ents hg hb (mgE hz)
    · exact ⟨Nat.zero_le _, fun _ q => by cases q⟩
  exact ⟨_, setRep_at hy, l1, by rw [o.len]; exact l2, Nat.le_trans hlog.1 (by omega), hlog.2⟩
theorem act_start {h : HouseT} {a : GroupActT} (o : OkH h) (hk : a.Kind = 2) (ho : okAct h.Group a = true) :
    ∃ d y, h.Disks[a.Rep.toNat]? = some d /\ (actG h.Group a).Reps[a.Rep.toNat]? = some y /\ 0 <= a.Rep /\ a.Rep.toNat < h.Disks.length /\ (actG h.Group a).Reps.length = h.Disks.length /\ mendB d = true /\ (frames d.Kept 0).1.all okE = true := by
  rw [(act2 hk).2] at ho
  rw [(act2 hk).1, startR_yes ho]
  obtain ⟨l1, l2⟩ := okUp_lt ho
  have hy : h.Group.Reps[a.Rep.toNat]? = some h.Group.Reps[a.Rep.toNat] := List.getElem?_eq_getElem l2
  have hd : h.Disks[a.Rep.toNat]? = some (h.Disks[a.Rep.toNat]'(by rw [o.len]; exact l2)) := List.getElem?_eq_getElem _
  exact ⟨_, _, hd, setRep_at hy, l1, by rw [o.len]; exact l2, by rw [o.len]; exact setRep_len2, o.disk hd⟩
end Go.Proofs.YtjjjalcmcifncaaGreat
