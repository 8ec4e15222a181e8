/- Part 5 of one proof: lemmas and contracts, laid one behind the other. No condition. -/
import Derived.Test.YtfpkfnfgloonhaaGreatF4
import Derived.Test.YtfpkfnfgloonhaaGreatF3
import Derived.WalkKit
import Derived.Laws.IdiomStrings
import Derived.Laws.Concat
import Derived.Laws.Strings
import Derived.Laws.ResultCell
import Derived.Below
import Derived.Test.YtfpkfnfgloonhaaGreatM5
import Derived.Test.YtfpkfnfgloonhaaGreatF2
import Derived.Test.YtfpkfnfgloonhaaGreatF1
import Derived.Test.YtfpkfnfgloonhaaGreatProg
import Derived.KernelRfl
namespace Go.Proofs.YtfpkfnfgloonhaaGreat
open Go.Ab
set_option linter.unusedSimpArgs false
set_option maxRecDepth 20000
set_option maxHeartbeats 4000000
set_option linter.unusedVariables false

@[irreducible] def frB (s : List UInt8) : List UInt8 := numB (s.length : Nat) ++ sealB s
theorem c_impl_frameBytes (s : List UInt8) (h : s.length ≤ 500000000) : PC Tryz.prog false 146 [.str s] (.str (frB s)) [] := by
  refine pc_at Tryz.func146 rfl (by kernel_rfl) 9 [.tmp 2] rfl rfl ?_
  repeat' (conv => whnf); first
 | exact side_of (by have h1 := numB_len (s.length : Nat); have h2 : (sealB s).length = s.length + 3 := (by unfold sealB threeB; simp); omega)
 | refine Call0 (c_impl_numBytes9 (s.length : Nat) (by omega) (by omega)) rfl rfl ?_
 | refine Call0 (c_impl_seal s (by omega)) rfl rfl ?_
 | refine side_and ?_ ?_
 | fail
  all_goals
    conv => whnf
    exact OutA_plain rfl rfl (by unfold frB; rfl)
theorem c_spec_l6FrameW (s : List UInt8) (h : s.length ≤ 500000000) : PC Tryz.prog false 78 [.str s] (.str (frB s)) [] := by
  refine pc_at Tryz.func78 rfl (by kernel_rfl) 9 [.tmp 2] rfl rfl ?_
  repeat' (conv => whnf); first
 | exact side_of (by have h1 := numB_len (s.length : Nat); have h2 : (sealB s).length = s.length + 3 := (by unfold sealB threeB; simp); omega)
 | refine Call0 (c_spec_l1NumB9 (s.length : Nat) (by omega) (by omega)) rfl rfl ?_
 | refine Call0 (c_spec_l1Seal s (by omega)) rfl rfl ?_
 | refine side_and ?_ ?_
 | fail
  all_goals
    conv => whnf
    exact OutA_plain rfl rfl (by unfold frB; rfl)
def entIn (e : EntryT) : Prop := okRec e.Rec = true ∧ (0 ≤ e.Term ∧ e.Term ≤ 200) ∧ e.w ≤ 1048576
theorem c_impl_entryBytes0 (e : EntryT) (h : entIn e) : PC Tryz.prog false 107 [.agg e.cells] (.str (entB e)) [] := by
  obtain ⟨h1, h2, hw⟩ := h
  have a1 := numB_len e.Term
  have a2 := recB_len h1 hw
  refine pc_at Tryz.func107 rfl (by kernel_rfl) 10 [.tmp 2] rfl rfl ?_
  repeat' (conv => whnf); first
 | refine draw_text (by kernel_rfl) (by kernel_rfl) (by kernel_rfl) ?_
 | refine CallD0 (c_impl_numBytes e.Term (by omega) (by omega)) rfl rfl rfl ?_
 | refine CallD0 (c_impl_recBytes e.Rec h1 hw) rfl rfl rfl ?_
 | refine side_and (side_of (by first | exact Nat.le_of_ble_eq_true rfl | exact rfl | omega | fail)) ?_
 | fail
  all_goals
    conv => whnf
    exact OutA_plain rfl rfl rfl
theorem c_spec_l11Bytes0 (e : EntryT) (h : entIn e) : PC Tryz.prog false 79 [.agg e.cells] (.str (entB e)) [] := by
  obtain ⟨h1, h2, hw⟩ := h
  have a1 := numB_len e.Term
  have a2 := recB_len h1 hw
  refine pc_at Tryz.func79 rfl (by kernel_rfl) 10 [.tmp 2] rfl rfl ?_
  repeat' (conv => whnf); first
 | refine draw_text (by kernel_rfl) (by kernel_rfl) (by kernel_rfl) ?_
 | refine CallD0 (c_spec_l1NumB e.Term (by omega) (by omega)) rfl rfl rfl ?_
 | refine CallD0 (c_spec_l4Bytes e.Rec h1 hw) rfl rfl rfl ?_
 | refine side_and (side_of (by first | exact Nat.le_of_ble_eq_true rfl | exact rfl | omega | fail)) ?_
 | fail
  all_goals
    conv => whnf
    exact OutA_plain rfl rfl rfl
def mended (d : DiskT) : DiskT := ⟨d.Kept.take (frames d.Kept 0).2, []⟩
theorem c_Clone_Disk (xs : List DiskT) (hl : xs.length ≤ 1048576) : PC Tryz.prog false 60 [.sl (xs.map DiskT.cells)] (.own 0) [⟨false, 92, 2, xs.map DiskT.cells⟩] := by
  refine pc_at Tryz.func60 rfl (by kernel_rfl) 8 [.tmp 2] rfl rfl ?_
  repeat' (conv => whnf); first
 | refine splitB_true ?_
 | refine splitB_false ?_
 | refine side_and (side_of (by first | exact ⟨Nat.le_of_ble_eq_true rfl, rfl⟩ | fail)) ?_
 | refine side_and (side_of (by first | exact Nat.le_of_ble_eq_true rfl | exact rfl | omega | fail)) ?_
 | refine side_and (side_of (by first | (and_intros <;> first | rfl | omega | exact Nat.le_of_ble_eq_true rfl) | fail)) ?_
 | refine side_and (side_of (by first | (and_intros <;> first | exact Nat.le_of_ble_eq_true rfl | rfl | omega | (simp only [lensB, lensC]; omega) | exact bytes_ok (Nat.le_of_ble_eq_true rfl) (by omega) (by simp only [lensB, lensC]; omega) | exact bytes_okN (Nat.le_of_ble_eq_true rfl) (by simp only [lensB, lensC]; omega)) | fail)) ?_
 | refine nilB_intro (fun h => ?_) ?_
 | refine side_and (side_of (map_len (fun _ => rfl))) ?_
 | refine side_and (side_of (map_one (fun _ => rfl) _)) ?_
 | fail
  all_goals
    conv => whnf
    first
    | exact OutA_ids rfl rfl rfl ⟨⟨_, _, _, rfl, rfl⟩, trivial⟩ rfl (.inr (flat_one (flat_map (fun _ => rfl) _)))
    | exact OutA_nil 2 1 92 2 rfl rfl (by decide) (OutA_ids rfl rfl rfl ⟨⟨_, _, _, rfl, congrArg (AObj.mk false _ _) (map_nil_of (by assumption))⟩, trivial⟩ rfl (.inr (flat_one (flat_map (fun _ => rfl) _))))
theorem inB_le' {a n b : Int} (h : inB a n b = true) : a ≤ n ∧ n ≤ b := by simpa only [inB, Bool.and_eq_true, decide_eq_true_eq] using h
theorem okKey_len {s : List UInt8} (h : okKey s = true) : s.length ≤ 12 := by
  unfold okKey at h
  rw [Bool.and_eq_true] at h
  have := inB_le' h.1
  omega
theorem rising_len : ∀ (l : List (List UInt8)) (p : Option (List UInt8)), rising p l = true → ∀ x ∈ l, x.length ≤ 12
  | [], _, _, x, hx => by cases hx
  | y :: l, p, h, x, hx => by
    simp only [rising, Bool.and_eq_true] at h
    rcases List.mem_cons.1 hx with rfl | hx
    · exact okKey_len h.1.1
    · exact rising_len l _ h.2 x hx
theorem okWrites_len {ws : List WriteT} (h : okWrites ws = true) : ∀ w ∈ ws, w.Key.length ≤ 12 ∧ w.Val.length ≤ 24 := by
  unfold okWrites at h
  rw [Bool.and_eq_true] at h
  intro w hw
  have key : ∀ (l pre : List WriteT), allPre wrAt pre l = true → ∀ w ∈ l, w.Key.length ≤ 12 ∧ w.Val.length ≤ 24 := by
    intro l
    induction l with
    | nil => intro _ _ w hw; cases hw
    | cons y l ih =>
      intro pre h w hw
      simp only [allPre, Bool.and_eq_true] at h
      rcases List.mem_cons.1 hw with rfl | hw
      · have h1 := h.1
        unfold wrAt okStored okVal at h1
        simp only [Bool.and_eq_true, decide_eq_true_eq] at h1
        exact ⟨okKey_len h1.1.2, by omega⟩
      · exact ih _ h.2 w hw
  exact key ws [] h.1 w hw
structure TinyR (r : RecT) : Prop where
  reads : r.Reads.length ≤ 8
  writes : r.Writes.length ≤ 8
  rl : ∀ x ∈ r.Reads, x.length ≤ 12
  wl : ∀ x ∈ r.Writes, x.Key.length ≤ 12 ∧ x.Val.length ≤ 24
theorem okRec_tiny {r : RecT} (h : okRec r = true) : TinyR r := by
  unfold okRec at h
  split at h
  · simp only [Bool.and_eq_true, decide_eq_true_eq] at h
    exact ⟨by omega, by omega, rising_len _ _ h.1.1.1.1.2, okWrites_len h.1.1.2⟩
  · simp only [Bool.and_eq_true, decide_eq_true_eq] at h
    have e1 : r.Reads = [] := List.length_eq_zero_iff.1 (by omega)
    have e2 : r.Writes = [] := List.length_eq_zero_iff.1 (by omega)
    refine ⟨by rw [e1]; decide, by rw [e2]; decide, ?_, ?_⟩
    · rw [e1]; intro x hx; cases hx
    · rw [e2]; intro x hx; cases hx
theorem TinyR.small {r : RecT} (h : TinyR r) : SmallR r :=
  ⟨by have := h.reads; omega, by have := h.writes; omega, fun x hx => by have := h.rl x hx; omega, fun x hx => by have := h.wl x hx; omega⟩
theorem numB_one {n : Int} (h0 : 0 ≤ n) (h : n < 128) : (numB n).length = 1 := by rw [numB_lt (by omega)]; rfl
theorem textB_tiny {s : List UInt8} (h : s.length ≤ 60) : (textB s).length = s.length + 1 := by
  unfold textB
  rw [List.length_append, numB_one (by omega) (by omega)]
  omega
theorem recB_tiny {r : RecT} (hg : okRec r = true) : (recB r).length ≤ 460 := by
  have h := okRec_tiny hg
  obtain ⟨⟨k0, k1⟩, ⟨t0, t1⟩, ⟨m0, m1⟩, ⟨l0, l1⟩⟩ := rec_nums hg
  have a1 := numB_one (n := r.Kind) (by omega) (by omega)
  have a2 := numB_one (n := r.Txn) (by omega) (by omega)
  have a3 := numB_five (n := r.Time) (by omega) (by omega)
  have a4 := numB_one (n := r.Lead) (by omega) (by omega)
  have a5 := flagB_len r.Yes
  have g1 := h.reads
  have g2 := h.writes
  have a6 := numB_one (n := (r.Reads.length : Nat)) (by omega) (by omega)
  have a7 := numB_one (n := (r.Writes.length : Nat)) (by omega) (by omega)
  have a8 : (textsG r.Reads).length ≤ 13 * r.Reads.length := flat_len (f := textB) r.Reads (fun x hx => by have := h.rl x hx; rw [textB_tiny (by omega)]; omega)
  have a9 : (wG r.Writes).length ≤ 39 * r.Writes.length := flat_len (f := wB) r.Writes (fun x hx => by
    have h1 := h.wl x hx
    unfold wB
    rw [List.length_append, List.length_append, flagB_len, textB_tiny (by omega), textB_tiny (by omega)]
    omega)
  unfold recB sealB threeB recH textsB
  simp only [List.length_append, List.length_cons, List.length_nil]
  omega
theorem frOk_cut {b : List UInt8} {a : Nat} (h : frOk b a = true) : frB (frS b a) = (b.take (frE b a)).drop a ∧ (frS b a).length ≤ 700 := by
  have hl := frOk_lt h
  unfold frOk at h
  simp only [Bool.and_eq_true, Bool.not_eq_true', decide_eq_true_eq] at h
  obtain ⟨⟨⟨h1, h2⟩, h3⟩, h4⟩ := h
  have e1 := numFS_eq h1
  have e2 := frS_len h3
  refine ⟨?_, by omega⟩
  have ef : frB (frS b a) = numB ((frS b a).length : Nat) ++ sealB (frS b a) := by unfold frB; rfl
  rw [ef, h4, e2]
  have e3 : (((frN b a).toNat : Nat) : Int) = frN b a := Int.toNat_of_nonneg hl.2.2.1
  rw [e3]
  change numB (frN b a) = (b.take (frM b a)).drop a at e1
  rw [e1]
  have q1 : frM b a ≤ frE b a := by unfold frE; omega
  exact (cut3 (by omega) (by omega) q1).symm
theorem frames_back : ∀ (k : Nat) (b : List UInt8) (a : Nat), b.length + 1 - a ≤ k → a ≤ b.length → (((frames b a).1.map frB).flatten) = (b.take (frames b a).2).drop a ∧ a ≤ (frames b a).2 ∧ (frames b a).2 ≤ b.length ∧ (∀ s ∈ (frames b a).1, s.length ≤ 700)
  | 0, b, a, hk, ha => by omega
  | k + 1, b, a, hk, ha => by
    cases hf : frOk b a with
    | false =>
      rw [frames_no hf]
      refine ⟨?_, Nat.le_refl _, ha, fun s hs => by cases hs⟩
      rw [List.drop_of_length_le (by rw [List.length_take]; omega)]
      rfl
    | true =>
      have hl := frE_lt hf
      obtain ⟨c1, c2⟩ := frOk_cut hf
      obtain ⟨i1, i2, i3, i4⟩ := frames_back k b (frE b a) (by omega) hl.2
      rw [frames_yes hf]
      simp only
      refine ⟨?_, by omega, i3, fun s hs => ?_⟩
      · rw [List.map_cons, List.flatten_cons, i1, c1]
        exact (cut3 (by omega) (by omega) i2).symm
      · rcases List.mem_cons.1 hs with rfl | hs
        · exact c2
        · exact i4 s hs
theorem frames_back0 (b : List UInt8) : (((frames b 0).1.map frB).flatten) = b.take (frames b 0).2 ∧ (frames b 0).2 ≤ b.length ∧ (∀ s ∈ (frames b 0).1, s.length ≤ 700) := by
  obtain ⟨h1, h2, h3, h4⟩ := frames_back _ b 0 (Nat.le_refl _) (Nat.zero_le _)
  rw [List.drop_zero] at h1
  exact ⟨h1, h3, h4⟩
theorem frB_eq {s : List UInt8} : frB s = numB (s.length : Nat) ++ (s ++ threeB (sumB s)) := by unfold frB sealB; rfl
theorem frB_size {s : List UInt8} : (frB s).length = (numB (s.length : Nat)).length + s.length + 3 := by
  rw [frB_eq, List.length_append, List.length_append]
  show _ + (_ + 3) = _
  omega
theorem frB_700 {s : List UInt8} (h : s.length ≤ 700) : (frB s).length ≤ 708 := by
  have := numB_five (n := (s.length : Nat)) (by omega) (by omega)
  rw [frB_size]; omega
def flip (x : UInt8) : UInt8 := 255 - x
def tornB (b : List UInt8) (k : Nat) (torn : Bool) : List UInt8 :=
  if torn = true ∧ 0 < k then (b.take (k - 1)) ++ ((b.drop (k - 1)).take 1).map flip else b.take k
theorem tornB_len {b : List UInt8} {k : Nat} {torn : Bool} (h : k ≤ b.length) : (tornB b k torn).length = k := by
  unfold tornB
  split
  · simp only [List.length_append, List.length_take, List.length_map, List.length_drop]; omega
  · rw [List.length_take]; omega
theorem flat_size {l : List (List UInt8)} (h : ∀ s ∈ l, s.length ≤ 700) : ((l.map frB).flatten).length ≤ 708 * l.length := flat_len (f := frB) l fun s hs => frB_700 (h s hs)
section
open Go.RowKit
set_option maxRecDepth 100000
theorem conv_back {P : Program} {W : World} {b n cap c : Nat} {s : ByteArray} {fr : Nat × Nat} {src dst e : TypeId} (hs : P.underlying src = some (.slice e)) (he : P.underlying e = some (.int .u8)) (hd : P.underlying dst = some .string) (hb : b = W.heap.size) (hn : n = s.size) :
    (convert src dst (.slice (some ⟨b, 0, none⟩) n cap)).run P ((W.alloc (.cells (bytesRow s c) e fr)).drew) = .ok (.string s) ((W.alloc (.cells (bytesRow s c) e fr)).drew) := by
  subst hb hn
  obtain ⟨⟨l⟩⟩ := s
  have h := run_convert_bytes_back (P := P) ((W.alloc (.cells (bytesRow ⟨⟨l⟩⟩ c) e fr)).drew) src dst e ⟨W.heap.size, 0, none⟩ cap l hs he hd (fun j hj => by
    have h2 := bytesRow_at ⟨⟨l⟩⟩ c j (by simpa [ByteArray.size] using hj)
    have e1 : ((⟨W.heap.size, 0, none⟩ : Addr).add j) = ⟨W.heap.size, j, none⟩ := by rw [Addr.add_lit, Nat.zero_add]
    rw [e1]
    show (W.alloc _).cell? _ = _
    rw [World.cell?_alloc_mark, h2]
    simp)
  exact h
theorem conv_back2 {P : Program} {W : World} {b n cap c j : Nat} {x : UInt8} {v : Int} {s : ByteArray} {fr : Nat × Nat} {src dst e : TypeId} (hs : P.underlying src = some (.slice e)) (he : P.underlying e = some (.int .u8)) (hd : P.underlying dst = some .string) (hb : b = W.heap.size) (hn : n = s.size) (hj : j < s.size) (hv : v = (x.toNat : Int)) :
    (convert src dst (.slice (some ⟨b, 0, none⟩) n cap)).run P (((W.alloc (.cells (bytesRow s c) e fr)).setCell ⟨b, j, none⟩ (.int .u8 v)).drew) = .ok (.string ⟨(s.data.toList.set j x).toArray⟩) (((W.alloc (.cells (bytesRow s c) e fr)).setCell ⟨b, j, none⟩ (.int .u8 v)).drew) := by
  subst hb hn hv
  obtain ⟨⟨l⟩⟩ := s
  have hjl : j < l.length := hj
  have h := run_convert_bytes_back (P := P) (((W.alloc (.cells (bytesRow ⟨⟨l⟩⟩ c) e fr)).setCell ⟨W.heap.size, j, none⟩ (.int .u8 (x.toNat : Int))).drew) src dst e ⟨W.heap.size, 0, none⟩ cap (l.set j x) hs he hd (fun i hi => by
    have e1 : ((⟨W.heap.size, 0, none⟩ : Addr).add i) = ⟨W.heap.size, i, none⟩ := by rw [Addr.add_lit, Nat.zero_add]
    rw [e1]
    have hil : i < l.length := by simpa using hi
    have h2 := bytesRow_at ⟨⟨l⟩⟩ c i (by simpa [ByteArray.size] using hil)
    have h3 : (W.alloc (.cells (bytesRow ⟨⟨l⟩⟩ c) e fr)).cell? ⟨W.heap.size, i, none⟩ = some (.int .u8 (l[i].toNat : Int)) := by
      rw [World.cell?_alloc_mark, h2]; simp
    show (World.setCell _ _ _).cell? _ = _
    by_cases hij : j = i
    · subst hij
      rw [World.cell?_setCell_same _ _ _ h3]
      simp
    · rw [World.cell?_setCell_other _ _ _ _ (by simp [hij]), h3]
      simp [hij])
  simp only [List.length_set] at h
  exact h
theorem row_cell {W : World} {B j : Nat} {s : ByteArray} {x : UInt8} {e : TypeId} (hx : s.data.toList[j]? = some x) (c : Nat) (fr : Nat × Nat) (h : W.heap.size = B) : (W.alloc (.cells (bytesRow s c) e fr)).cell? ⟨B, j, none⟩ = some (.int .u8 (x.toNat : Int)) := by
  subst h
  obtain ⟨hlt, he⟩ := List.getElem?_eq_some_iff.1 hx
  have hlt2 : j < s.data.size := by simpa using hlt
  rw [World.cell?_alloc_mark, bytesRow_at s c j hlt2]
  have : s.data[j] = x := by rw [← he]; simp
  rw [this]
theorem row_frz {W : World} {B j : Nat} {s : ByteArray} {e : TypeId} (hj : j < s.size) (c : Nat) (h : W.heap.size = B) : (W.alloc (.cells (bytesRow s c) e ((bytesRow s c).size, (bytesRow s c).size + 1))).frozen? ⟨B, j, none⟩ = false := by
  subst h
  rw [World.frozen?_alloc_mark]
  have hsz : j < (bytesRow s c).size := by
    simp only [bytesRow, Array.size_append, Array.size_map]
    have : s.data.size = s.size := rfl
    omega
  have : ∀ n : Nat, j < n → (decide (n ≤ j) && decide (j < n + 1)) = false := fun n hn => by simp; omega
  exact this _ hsz
theorem wrap64_inH (n : Int) (h : -9223372036854775808 ≤ n ∧ n ≤ 9223372036854775807) : wrap64 n = n := by unfold wrap64; omega
theorem flip_val (x : UInt8) : (255 - (x.toNat : Int)) % 256 = ((flip x).toNat : Int) := by
  unfold flip
  rw [UInt8.toNat_sub_of_le _ _ (by rw [UInt8.le_iff_toNat_le]; have := x.toNat_lt; show _ ≤ 255; omega)]
  have : (255 : UInt8).toNat = 255 := rfl
  have := x.toNat_lt
  omega
theorem fall_no_impl (K L : ByteArray) (k : Int) (w : World) (h1 : wrap64 ((K.size : Int) + L.size) ≤ 50000) (h2 : 0 ≤ k) (h3 : k ≤ L.size) (hkl : K.size + L.size ≤ 50000) :
    Calls Tryz.prog 108 #[.agg #[.string K, .string L], .int .i64 k, .bool false] w fun e w' => e = .returned (.tuple #[.agg #[.string (K ++ L.extract 0 k.toNat), .string ⟨#[]⟩], .bool true]) ∧ Below w.heap.size w w' := by
  have hconv := fun (s : ByteArray) (w : World) => run_bytes_of_string (P := Tryz.prog) w 9 171 5 s Tryz.underlying9 Tryz.underlying171 Tryz.underlying5
  have h4 : (!decide (k ≤ (L.size : Int))) = false := by simp [h3]
  go_enter Tryz.func108, Tryz.ntmps108
  go_wp2
  rw [conv_back Tryz.underlying171 Tryz.underlying5 Tryz.underlying9 (by simp only [World.alloc, Array.size_push]) (by rw [ByteArray.size_extract]; omega)]
  go_wp2
  refine bodyPost_ret (v := .tuple #[.agg #[.string (K ++ L.extract 0 k.toNat), .string ⟨#[]⟩], .bool true]) ((results_cell_tmp rfl _ _ _).trans ?_) rfl ?_
  rotate_left
  · refine ⟨rfl, ?_⟩
    repeat first | exact Below.refl _ _ | refine Below.setCell ?_ (by first | exact Nat.le_refl _ | (simp only []; omega)) _ | refine Below.alloc ?_ (by first | exact Nat.le_refl _ | (simp only [World.alloc, Array.size_push]; omega)) _ | (refine Below.drew ?_)
  · simp [go_sem, loadVar]
theorem fall_yes_impl (K L : ByteArray) (k : Int) (x : UInt8) (w : World) (h1 : wrap64 ((K.size : Int) + L.size) ≤ 50000) (h2 : 0 < k) (h3 : k ≤ L.size) (hkl : K.size + L.size ≤ 50000) (hx : (L.extract 0 k.toNat).data.toList[k.toNat - 1]? = some x) :
    Calls Tryz.prog 108 #[.agg #[.string K, .string L], .int .i64 k, .bool true] w fun e w' => e = .returned (.tuple #[.agg #[.string (K ++ ⟨((L.extract 0 k.toNat).data.toList.set (k.toNat - 1) (flip x)).toArray⟩), .string ⟨#[]⟩], .bool true]) ∧ Below w.heap.size w w' := by
  have hconv := fun (s : ByteArray) (w : World) => run_bytes_of_string (P := Tryz.prog) w 9 171 5 s Tryz.underlying9 Tryz.underlying171 Tryz.underlying5
  have h4 : (!decide (k ≤ (L.size : Int))) = false := by simp [h3]
  have h2' : 0 ≤ k := by omega
  have hcell : ∀ (W : World) (c : Nat) (fr : Nat × Nat), W.heap.size = w.heap.size + 1 + 1 + 1 → (W.alloc (.cells (bytesRow (L.extract 0 k.toNat) c) 5 fr)).cell? ⟨w.heap.size + 1 + 1 + 1, k.toNat - 1, none⟩ = some (.int .u8 (x.toNat : Int)) := fun W c fr h => row_cell hx c fr h
  have hfz : ∀ (W : World) (c : Nat), W.heap.size = w.heap.size + 1 + 1 + 1 → (W.alloc (.cells (bytesRow (L.extract 0 k.toNat) c) 5 ((bytesRow (L.extract 0 k.toNat) c).size, (bytesRow (L.extract 0 k.toNat) c).size + 1))).frozen? ⟨w.heap.size + 1 + 1 + 1, k.toNat - 1, none⟩ = false := fun W c h => row_frz (by rw [ByteArray.size_extract]; omega) c h
  clear hx
  go_enter Tryz.func108, Tryz.ntmps108
  go_wp2
  rw [conv_back2 (x := flip x) Tryz.underlying171 Tryz.underlying5 Tryz.underlying9 (by simp only [World.alloc, Array.size_push]) (by rw [ByteArray.size_extract]; omega) (by rw [ByteArray.size_extract]; omega) (flip_val x)]
  go_wp2
  refine bodyPost_ret (v := .tuple #[.agg #[.string (K ++ ⟨((L.extract 0 k.toNat).data.toList.set (k.toNat - 1) (flip x)).toArray⟩), .string ⟨#[]⟩], .bool true]) ((results_cell_tmp rfl _ _ _).trans ?_) rfl ?_
  rotate_left
  · refine ⟨rfl, ?_⟩
    repeat first | exact Below.refl _ _ | refine Below.setCell ?_ (by first | exact Nat.le_refl _ | (simp only []; omega)) _ | refine Below.alloc ?_ (by first | exact Nat.le_refl _ | (simp only [World.alloc, Array.size_push]; omega)) _ | (refine Below.drew ?_)
  · simp [go_sem, loadVar]
theorem fall_zero_impl (K L : ByteArray) (k : Int) (w : World) (h1 : wrap64 ((K.size : Int) + L.size) ≤ 50000) (h2 : 0 ≤ k) (h3 : k ≤ L.size) (hkl : K.size + L.size ≤ 50000) (h0 : ¬ 0 < k) :
    Calls Tryz.prog 108 #[.agg #[.string K, .string L], .int .i64 k, .bool true] w fun e w' => e = .returned (.tuple #[.agg #[.string (K ++ L.extract 0 k.toNat), .string ⟨#[]⟩], .bool true]) ∧ Below w.heap.size w w' := by
  have hconv := fun (s : ByteArray) (w : World) => run_bytes_of_string (P := Tryz.prog) w 9 171 5 s Tryz.underlying9 Tryz.underlying171 Tryz.underlying5
  have h4 : (!decide (k ≤ (L.size : Int))) = false := by simp [h3]
  go_enter Tryz.func108, Tryz.ntmps108
  go_wp2
  rw [conv_back Tryz.underlying171 Tryz.underlying5 Tryz.underlying9 (by simp only [World.alloc, Array.size_push]) (by rw [ByteArray.size_extract]; omega)]
  go_wp2
  refine bodyPost_ret (v := .tuple #[.agg #[.string (K ++ L.extract 0 k.toNat), .string ⟨#[]⟩], .bool true]) ((results_cell_tmp rfl _ _ _).trans ?_) rfl ?_
  rotate_left
  · refine ⟨rfl, ?_⟩
    repeat first | exact Below.refl _ _ | refine Below.setCell ?_ (by first | exact Nat.le_refl _ | (simp only []; omega)) _ | refine Below.alloc ?_ (by first | exact Nat.le_refl _ | (simp only [World.alloc, Array.size_push]; omega)) _ | (refine Below.drew ?_)
  · simp [go_sem, loadVar]
theorem fall_no_spec (K L : ByteArray) (k : Int) (w : World) (h1 : wrap64 ((K.size : Int) + L.size) ≤ 50000) (h2 : 0 ≤ k) (h3 : k ≤ L.size) (hkl : K.size + L.size ≤ 50000) :
    Calls Tryz.prog 82 #[.agg #[.string K, .string L], .int .i64 k, .bool false] w fun e w' => e = .returned (.tuple #[.agg #[.string (K ++ L.extract 0 k.toNat), .string ⟨#[]⟩], .bool true]) ∧ Below w.heap.size w w' := by
  have hconv := fun (s : ByteArray) (w : World) => run_bytes_of_string (P := Tryz.prog) w 9 171 5 s Tryz.underlying9 Tryz.underlying171 Tryz.underlying5
  have h4 : (!decide (k ≤ (L.size : Int))) = false := by simp [h3]
  go_enter Tryz.func82, Tryz.ntmps82
  go_wp2
  rw [conv_back Tryz.underlying171 Tryz.underlying5 Tryz.underlying9 (by simp only [World.alloc, Array.size_push]) (by rw [ByteArray.size_extract]; omega)]
  go_wp2
  refine bodyPost_ret (v := .tuple #[.agg #[.string (K ++ L.extract 0 k.toNat), .string ⟨#[]⟩], .bool true]) ((results_cell_tmp rfl _ _ _).trans ?_) rfl ?_
  rotate_left
  · refine ⟨rfl, ?_⟩
    repeat first | exact Below.refl _ _ | refine Below.setCell ?_ (by first | exact Nat.le_refl _ | (simp only []; omega)) _ | refine Below.alloc ?_ (by first | exact Nat.le_refl _ | (simp only [World.alloc, Array.size_push]; omega)) _ | (refine Below.drew ?_)
  · simp [go_sem, loadVar]
theorem fall_yes_spec (K L : ByteArray) (k : Int) (x : UInt8) (w : World) (h1 : wrap64 ((K.size : Int) + L.size) ≤ 50000) (h2 : 0 < k) (h3 : k ≤ L.size) (hkl : K.size + L.size ≤ 50000) (hx : (L.extract 0 k.toNat).data.toList[k.toNat - 1]? = some x) :
    Calls Tryz.prog 82 #[.agg #[.string K, .string L], .int .i64 k, .bool true] w fun e w' => e = .returned (.tuple #[.agg #[.string (K ++ ⟨((L.extract 0 k.toNat).data.toList.set (k.toNat - 1) (flip x)).toArray⟩), .string ⟨#[]⟩], .bool true]) ∧ Below w.heap.size w w' := by
  have hconv := fun (s : ByteArray) (w : World) => run_bytes_of_string (P := Tryz.prog) w 9 171 5 s Tryz.underlying9 Tryz.underlying171 Tryz.underlying5
  have h4 : (!decide (k ≤ (L.size : Int))) = false := by simp [h3]
  have h2' : 0 ≤ k := by omega
  have hcell : ∀ (W : World) (c : Nat) (fr : Nat × Nat), W.heap.size = w.heap.size + 1 + 1 + 1 → (W.alloc (.cells (bytesRow (L.extract 0 k.toNat) c) 5 fr)).cell? ⟨w.heap.size + 1 + 1 + 1, k.toNat - 1, none⟩ = some (.int .u8 (x.toNat : Int)) := fun W c fr h => row_cell hx c fr h
  have hfz : ∀ (W : World) (c : Nat), W.heap.size = w.heap.size + 1 + 1 + 1 → (W.alloc (.cells (bytesRow (L.extract 0 k.toNat) c) 5 ((bytesRow (L.extract 0 k.toNat) c).size, (bytesRow (L.extract 0 k.toNat) c).size + 1))).frozen? ⟨w.heap.size + 1 + 1 + 1, k.toNat - 1, none⟩ = false := fun W c h => row_frz (by rw [ByteArray.size_extract]; omega) c h
  clear hx
  go_enter Tryz.func82, Tryz.ntmps82
  go_wp2
  rw [conv_back2 (x := flip x) Tryz.underlying171 Tryz.underlying5 Tryz.underlying9 (by simp only [World.alloc, Array.size_push]) (by rw [ByteArray.size_extract]; omega) (by rw [ByteArray.size_extract]; omega) (flip_val x)]
  go_wp2
  refine bodyPost_ret (v := .tuple #[.agg #[.string (K ++ ⟨((L.extract 0 k.toNat).data.toList.set (k.toNat - 1) (flip x)).toArray⟩), .string ⟨#[]⟩], .bool true]) ((results_cell_tmp rfl _ _ _).trans ?_) rfl ?_
  rotate_left
  · refine ⟨rfl, ?_⟩
    repeat first | exact Below.refl _ _ | refine Below.setCell ?_ (by first | exact Nat.le_refl _ | (simp only []; omega)) _ | refine Below.alloc ?_ (by first | exact Nat.le_refl _ | (simp only [World.alloc, Array.size_push]; omega)) _ | (refine Below.drew ?_)
  · simp [go_sem, loadVar]
theorem fall_zero_spec (K L : ByteArray) (k : Int) (w : World) (h1 : wrap64 ((K.size : Int) + L.size) ≤ 50000) (h2 : 0 ≤ k) (h3 : k ≤ L.size) (hkl : K.size + L.size ≤ 50000) (h0 : ¬ 0 < k) :
    Calls Tryz.prog 82 #[.agg #[.string K, .string L], .int .i64 k, .bool true] w fun e w' => e = .returned (.tuple #[.agg #[.string (K ++ L.extract 0 k.toNat), .string ⟨#[]⟩], .bool true]) ∧ Below w.heap.size w w' := by
  have hconv := fun (s : ByteArray) (w : World) => run_bytes_of_string (P := Tryz.prog) w 9 171 5 s Tryz.underlying9 Tryz.underlying171 Tryz.underlying5
  have h4 : (!decide (k ≤ (L.size : Int))) = false := by simp [h3]
  go_enter Tryz.func82, Tryz.ntmps82
  go_wp2
  rw [conv_back Tryz.underlying171 Tryz.underlying5 Tryz.underlying9 (by simp only [World.alloc, Array.size_push]) (by rw [ByteArray.size_extract]; omega)]
  go_wp2
  refine bodyPost_ret (v := .tuple #[.agg #[.string (K ++ L.extract 0 k.toNat), .string ⟨#[]⟩], .bool true]) ((results_cell_tmp rfl _ _ _).trans ?_) rfl ?_
  rotate_left
  · refine ⟨rfl, ?_⟩
    repeat first | exact Below.refl _ _ | refine Below.setCell ?_ (by first | exact Nat.le_refl _ | (simp only []; omega)) _ | refine Below.alloc ?_ (by first | exact Nat.le_refl _ | (simp only [World.alloc, Array.size_push]; omega)) _ | (refine Below.drew ?_)
  · simp [go_sem, loadVar]
def okFall (d : DiskT) (k : Int) : Bool := okDsk d && inB 0 k (d.Loose.length : Int)
def fellD (d : DiskT) (k : Int) (torn : Bool) : DiskT := ⟨d.Kept ++ tornB d.Loose k.toNat torn, []⟩
theorem ba_app (a b : List UInt8) : (⟨a.toArray⟩ : ByteArray) ++ ⟨b.toArray⟩ = ⟨(a ++ b).toArray⟩ := by
  apply ByteArray.ext; simp
theorem ba_ext (l : List UInt8) (n : Nat) : (⟨l.toArray⟩ : ByteArray).extract 0 n = ⟨(l.take n).toArray⟩ := by
  apply ByteArray.ext
  rw [ByteArray.data_extract, List.extract_toArray, List.extract_eq_take_drop]
  simp
theorem torn_set {l : List UInt8} {n : Nat} {x : UInt8} (hn : 0 < n) (h : n ≤ l.length) (hx : (l.take n)[n - 1]? = some x) : (l.take n).set (n - 1) (flip x) = tornB l n true := by
  unfold tornB
  rw [if_pos ⟨rfl, hn⟩]
  obtain ⟨m, rfl⟩ : ∃ m, n = m + 1 := ⟨n - 1, by omega⟩
  simp only [Nat.add_sub_cancel] at hx ⊢
  have hlt : m < l.length := by omega
  have e : l.take (m + 1) = l.take m ++ [l[m]] := by rw [List.take_add_one, List.getElem?_eq_getElem hlt]; rfl
  have hml : (l.take m).length = m := by rw [List.length_take]; omega
  rw [e] at hx ⊢
  rw [List.getElem?_append_right (by omega), hml, Nat.sub_self] at hx
  have hxe : l[m] = x := by simpa using hx
  rw [List.set_append_right _ _ (by omega), hml, Nat.sub_self, List.drop_eq_getElem_cons hlt, hxe]
  rfl
theorem c_impl_FallDisk_ok (d : DiskT) (k : Int) (torn : Bool) (ho : okFall d k = true) : PC Tryz.prog false 108 [.agg d.cells, .int .i64 k, .bool torn] (.tup [.agg (fellD d k torn).cells, .bool true]) [] := by
  unfold okFall at ho
  rw [Bool.and_eq_true] at ho
  obtain ⟨hd, hk⟩ := ho
  have hkb := inB_le' hk
  have hw := okDsk_w hd
  have hkl : d.w = d.Kept.length + d.Loose.length := rfl
  refine ⟨fun w R vals hR hl => ?_⟩
  unfold DiskT.cells at hl
  match vals, hl with
  | [v0, v1, v2], hl =>
    unfold LR at hl
    obtain ⟨q0, hl⟩ := hl
    unfold LR at hl
    obtain ⟨q1, hl⟩ := hl
    unfold LR at hl
    obtain ⟨q2, _⟩ := hl
    unfold RR at q0 q1 q2
    obtain ⟨vs, rfl, q0⟩ := q0
    subst q1 q2
    obtain ⟨vs⟩ := vs
    match vs, q0 with
    | [u0, u1], q0 =>
      unfold LR at q0
      obtain ⟨r0, q0⟩ := q0
      unfold LR at q0
      obtain ⟨r1, _⟩ := q0
      unfold RR at r0 r1
      subst r0 r1
      rw [Ans_body Tryz.func108 rfl rfl]
      have hz1 : (⟨d.Kept.toArray⟩ : ByteArray).size = d.Kept.length := by simp [ByteArray.size]
      have hz2 : (⟨d.Loose.toArray⟩ : ByteArray).size = d.Loose.length := by simp [ByteArray.size]
      have e1 : wrap64 (((⟨d.Kept.toArray⟩ : ByteArray).size : Int) + (⟨d.Loose.toArray⟩ : ByteArray).size) ≤ 50000 := by
        rw [hz1, hz2, wrap64_inH _ (by omega)]
        omega
      have fin : ∀ (e : Ending) (w' : World), e = .returned (.tuple #[.agg #[.string ⟨(d.Kept ++ tornB d.Loose k.toNat torn).toArray⟩, .string ⟨#[]⟩], .bool true]) ∧ Below w.heap.size w w' → ∃ v, e = .returned v ∧ ∃ hdr, Below w.heap.size w w' ∧ ResR R false w w' hdr (.tup [.agg (fellD d k torn).cells, .bool true]) [] v := by
        rintro e w' ⟨rfl, hb⟩
        refine ⟨_, rfl, fun _ => ⟨undef, []⟩, hb, ⟨?_, fun o h => (by cases h), fun id o h => (by simp at h), fun i j o o' b h => (by simp at h)⟩⟩
        unfold VR
        refine ⟨_, rfl, ?_⟩
        unfold fellD DiskT.cells
        unfold VL
        refine ⟨?_, ?_⟩
        · unfold VR
          refine ⟨_, rfl, ?_⟩
          unfold VL
          refine ⟨by unfold VR; rfl, ?_⟩
          unfold VL
          refine ⟨by unfold VR; rfl, ?_⟩
          unfold VL; trivial
        · unfold VL
          refine ⟨by unfold VR; rfl, ?_⟩
          unfold VL; trivial
      by_cases ht : torn = true ∧ 0 < k
      · obtain ⟨rfl, h0⟩ := ht
        have hlt : k.toNat - 1 < (d.Loose.take k.toNat).length := by rw [List.length_take]; omega
        have hx : (d.Loose.take k.toNat)[k.toNat - 1]? = some (d.Loose.take k.toNat)[k.toNat - 1] := List.getElem?_eq_getElem hlt
        refine (fall_yes_impl ⟨d.Kept.toArray⟩ ⟨d.Loose.toArray⟩ k _ w e1 h0 (by rw [hz2]; omega) (by rw [hz1, hz2]; omega) (by rw [ba_ext]; exact hx)).mono fun e w' h => fin e w' ?_
        rw [ba_ext] at h
        simp only at h
        rw [torn_set (by omega) (by omega) hx, ba_app] at h
        exact h
      · have e2 : tornB d.Loose k.toNat torn = d.Loose.take k.toNat := by unfold tornB; rw [if_neg (fun h => ht ⟨h.1, by omega⟩)]
        rw [e2] at fin
        cases torn with
        | false =>
          refine (fall_no_impl ⟨d.Kept.toArray⟩ ⟨d.Loose.toArray⟩ k w e1 (by omega) (by rw [hz2]; omega) (by rw [hz1, hz2]; omega)).mono fun e w' h => fin e w' ?_
          rw [ba_ext, ba_app] at h
          exact h
        | true =>
          have hk0 : ¬ 0 < k := fun h => ht ⟨rfl, h⟩
          refine (fall_zero_impl ⟨d.Kept.toArray⟩ ⟨d.Loose.toArray⟩ k w e1 (by omega) (by rw [hz2]; omega) (by rw [hz1, hz2]; omega) (by omega)).mono fun e w' h => fin e w' ?_
          rw [ba_ext, ba_app] at h
          exact h
    | [], q0 => unfold LR at q0; exact q0.elim
    | [_], q0 => unfold LR at q0; obtain ⟨_, q0⟩ := q0; unfold LR at q0; exact q0.elim
    | _ :: _ :: _ :: _, q0 => unfold LR at q0; obtain ⟨_, q0⟩ := q0; unfold LR at q0; obtain ⟨_, q0⟩ := q0; unfold LR at q0; exact q0.elim
  | [], hl => unfold LR at hl; exact hl.elim
  | [_], hl => unfold LR at hl; obtain ⟨_, hl⟩ := hl; unfold LR at hl; exact hl.elim
  | [_, _], hl => unfold LR at hl; obtain ⟨_, hl⟩ := hl; unfold LR at hl; obtain ⟨_, hl⟩ := hl; unfold LR at hl; exact hl.elim
  | _ :: _ :: _ :: _ :: _, hl => unfold LR at hl; obtain ⟨_, hl⟩ := hl; unfold LR at hl; obtain ⟨_, hl⟩ := hl; unfold LR at hl; obtain ⟨_, hl⟩ := hl; unfold LR at hl; exact hl.elim
theorem c_spec_FallDisk_ok (d : DiskT) (k : Int) (torn : Bool) (ho : okFall d k = true) : PC Tryz.prog false 82 [.agg d.cells, .int .i64 k, .bool torn] (.tup [.agg (fellD d k torn).cells, .bool true]) [] := by
  unfold okFall at ho
  rw [Bool.and_eq_true] at ho
  obtain ⟨hd, hk⟩ := ho
  have hkb := inB_le' hk
  have hw := okDsk_w hd
  have hkl : d.w = d.Kept.length + d.Loose.length := rfl
  refine ⟨fun w R vals hR hl => ?_⟩
  unfold DiskT.cells at hl
  match vals, hl with
  | [v0, v1, v2], hl =>
    unfold LR at hl
    obtain ⟨q0, hl⟩ := hl
    unfold LR at hl
    obtain ⟨q1, hl⟩ := hl
    unfold LR at hl
    obtain ⟨q2, _⟩ := hl
    unfold RR at q0 q1 q2
    obtain ⟨vs, rfl, q0⟩ := q0
    subst q1 q2
    obtain ⟨vs⟩ := vs
    match vs, q0 with
    | [u0, u1], q0 =>
      unfold LR at q0
      obtain ⟨r0, q0⟩ := q0
      unfold LR at q0
      obtain ⟨r1, _⟩ := q0
      unfold RR at r0 r1
      subst r0 r1
      rw [Ans_body Tryz.func82 rfl rfl]
      have hz1 : (⟨d.Kept.toArray⟩ : ByteArray).size = d.Kept.length := by simp [ByteArray.size]
      have hz2 : (⟨d.Loose.toArray⟩ : ByteArray).size = d.Loose.length := by simp [ByteArray.size]
      have e1 : wrap64 (((⟨d.Kept.toArray⟩ : ByteArray).size : Int) + (⟨d.Loose.toArray⟩ : ByteArray).size) ≤ 50000 := by
        rw [hz1, hz2, wrap64_inH _ (by omega)]
        omega
      have fin : ∀ (e : Ending) (w' : World), e = .returned (.tuple #[.agg #[.string ⟨(d.Kept ++ tornB d.Loose k.toNat torn).toArray⟩, .string ⟨#[]⟩], .bool true]) ∧ Below w.heap.size w w' → ∃ v, e = .returned v ∧ ∃ hdr, Below w.heap.size w w' ∧ ResR R false w w' hdr (.tup [.agg (fellD d k torn).cells, .bool true]) [] v := by
        rintro e w' ⟨rfl, hb⟩
        refine ⟨_, rfl, fun _ => ⟨undef, []⟩, hb, ⟨?_, fun o h => (by cases h), fun id o h => (by simp at h), fun i j o o' b h => (by simp at h)⟩⟩
        unfold VR
        refine ⟨_, rfl, ?_⟩
        unfold fellD DiskT.cells
        unfold VL
        refine ⟨?_, ?_⟩
        · unfold VR
          refine ⟨_, rfl, ?_⟩
          unfold VL
          refine ⟨by unfold VR; rfl, ?_⟩
          unfold VL
          refine ⟨by unfold VR; rfl, ?_⟩
          unfold VL; trivial
        · unfold VL
          refine ⟨by unfold VR; rfl, ?_⟩
          unfold VL; trivial
      by_cases ht : torn = true ∧ 0 < k
      · obtain ⟨rfl, h0⟩ := ht
        have hlt : k.toNat - 1 < (d.Loose.take k.toNat).length := by rw [List.length_take]; omega
        have hx : (d.Loose.take k.toNat)[k.toNat - 1]? = some (d.Loose.take k.toNat)[k.toNat - 1] := List.getElem?_eq_getElem hlt
        refine (fall_yes_spec ⟨d.Kept.toArray⟩ ⟨d.Loose.toArray⟩ k _ w e1 h0 (by rw [hz2]; omega) (by rw [hz1, hz2]; omega) (by rw [ba_ext]; exact hx)).mono fun e w' h => fin e w' ?_
        rw [ba_ext] at h
        simp only at h
        rw [torn_set (by omega) (by omega) hx, ba_app] at h
        exact h
      · have e2 : tornB d.Loose k.toNat torn = d.Loose.take k.toNat := by unfold tornB; rw [if_neg (fun h => ht ⟨h.1, by omega⟩)]
        rw [e2] at fin
        cases torn with
        | false =>
          refine (fall_no_spec ⟨d.Kept.toArray⟩ ⟨d.Loose.toArray⟩ k w e1 (by omega) (by rw [hz2]; omega) (by rw [hz1, hz2]; omega)).mono fun e w' h => fin e w' ?_
          rw [ba_ext, ba_app] at h
          exact h
        | true =>
          have hk0 : ¬ 0 < k := fun h => ht ⟨rfl, h⟩
          refine (fall_zero_spec ⟨d.Kept.toArray⟩ ⟨d.Loose.toArray⟩ k w e1 (by omega) (by rw [hz2]; omega) (by rw [hz1, hz2]; omega) (by omega)).mono fun e w' h => fin e w' ?_
          rw [ba_ext, ba_app] at h
          exact h
    | [], q0 => unfold LR at q0; exact q0.elim
    | [_], q0 => unfold LR at q0; obtain ⟨_, q0⟩ := q0; unfold LR at q0; exact q0.elim
    | _ :: _ :: _ :: _, q0 => unfold LR at q0; obtain ⟨_, q0⟩ := q0; unfold LR at q0; obtain ⟨_, q0⟩ := q0; unfold LR at q0; exact q0.elim
  | [], hl => unfold LR at hl; exact hl.elim
  | [_], hl => unfold LR at hl; obtain ⟨_, hl⟩ := hl; unfold LR at hl; exact hl.elim
  | [_, _], hl => unfold LR at hl; obtain ⟨_, hl⟩ := hl; unfold LR at hl; obtain ⟨_, hl⟩ := hl; unfold LR at hl; exact hl.elim
  | _ :: _ :: _ :: _ :: _, hl => unfold LR at hl; obtain ⟨_, hl⟩ := hl; unfold LR at hl; obtain ⟨_, hl⟩ := hl; unfold LR at hl; obtain ⟨_, hl⟩ := hl; unfold LR at hl; exact hl.elim
end
def lenLead (g : GroupT) : Nat := match g.Reps[g.Lead.toNat]? with | some y => y.Log.length | none => 0
def okPut (g : GroupT) (r : RecT) : Bool := okGroup g && (decide (0 ≤ g.Lead) && (decide (lenLead g < 60) && okRec r))
def putE (g : GroupT) (r : RecT) (y : ReplicaT) : ReplicaT := { y with Log := y.Log ++ [⟨g.Term, r⟩] }
def putN (g : GroupT) (r : RecT) : GroupT := ⟨setRep g g.Lead (putE g r), g.Term, g.Lead⟩
def putR (g : GroupT) (r : RecT) : GroupT := resG (okPut g r) (putN g r)
theorem ix_setG {L : List (List AV)} {e : List AV} {n : Nat} {Q : List AV → Prop} (h : n < L.length) (hQ : Q e) : ∃ e', (L.set n e)[n]? = some e' ∧ Q e' := ⟨e, by simp [h], hQ⟩
theorem lead_side {g : GroupT} (h : okGroup g = true) (h0 : ¬ g.Lead < 0) : 0 ≤ g.Lead ∧ g.Lead < ((g.Reps.map ReplicaT.cells).length : Int) := by
  have := okLead_lt h h0
  rw [List.length_map]
  omega
theorem putR_yes {g : GroupT} {r : RecT} (h : okPut g r = true) : putR g r = putN g r := by rw [putR, resG_yes h]
theorem putR_no {g : GroupT} {r : RecT} (h : okPut g r = false) : putR g r = ⟨[], 0, 0⟩ := by rw [putR, resG_no h]; rfl
theorem lenLead_of {g : GroupT} {y : ReplicaT} (hy : g.Reps[g.Lead.toNat]? = some y) : lenLead g = y.Log.length := by unfold lenLead; rw [hy]
theorem okG_log {g : GroupT} {l : ReplicaT} (h : okGroup g = true) (hl : l ∈ g.Reps) : l.Log.length ≤ 60 := by
  unfold okGroup at h
  simp only [Bool.and_eq_true, List.all_eq_true] at h
  have h2 := h.2 l hl
  unfold okRep at h2
  simp only [Bool.and_eq_true] at h2
  have h3 := h2.1
  unfold okLog at h3
  simp only [Bool.and_eq_true, decide_eq_true_eq] at h3
  omega
theorem lenLead_60 {g : GroupT} {y : ReplicaT} (hg : okGroup g = true) (hy : g.Reps[g.Lead.toNat]? = some y) : y.Log.length ≤ 60 := okG_log hg (List.mem_of_getElem? hy)
theorem okPut_yes {g : GroupT} {r : RecT} {y : ReplicaT} (h1 : okGroup g = true) (h2 : ¬ g.Lead < 0) (hy : g.Reps[g.Lead.toNat]? = some y) (h3 : ¬ (y.Log.length : Int) = 60) (h4 : okRec r = true) : okPut g r = true := by
  have := lenLead_60 h1 hy
  unfold okPut
  rw [h1, h4, lenLead_of hy, decide_eq_true (show 0 ≤ g.Lead by omega), decide_eq_true (show y.Log.length < 60 by omega)]
  rfl
theorem okPut_no1 {g : GroupT} {r : RecT} (h : okGroup g = false ∨ g.Lead < 0 ∨ okRec r = false) : okPut g r = false := by
  unfold okPut
  rcases h with h | h | h
  · rw [h]; rfl
  · rw [decide_eq_false (show ¬ 0 ≤ g.Lead by omega)]; simp
  · rw [h]; simp
theorem okPut_no2 {g : GroupT} {r : RecT} {y : ReplicaT} (hy : g.Reps[g.Lead.toNat]? = some y) (h3 : (y.Log.length : Int) = 60 ∨ (y.Log.length : Int) ≥ 60) : okPut g r = false := by
  unfold okPut
  rw [lenLead_of hy, decide_eq_false (show ¬ y.Log.length < 60 by omega)]
  simp
theorem put_cells {g : GroupT} {r : RecT} {y : ReplicaT} {c c0 : List AV} (hy : g.Reps[g.Lead.toNat]? = some y) (hc : c = (putE g r y).cells) : ((g.Reps.map ReplicaT.cells).set g.Lead.toNat c0).set g.Lead.toNat c = (putN g r).Reps.map ReplicaT.cells := by
  rw [List.set_set]
  exact setRep_cells (f := putE g r) hy hc
theorem putE_cells {g : GroupT} {r : RecT} {y : ReplicaT} {L : List (List AV)} (hL : L = y.Log.map EntryT.cells ++ [(⟨g.Term, r⟩ : EntryT).cells]) : [AV.bool y.Up, .sl L, .int .i64 y.Sure] = (putE g r y).cells := by
  rw [hL]
  unfold putE ReplicaT.cells
  simp only [List.map_append, List.map_cons, List.map_nil]
theorem c_spec_l9OwnLogD (xs : List EntryT) (hl : xs.length ≤ 1048576) (hb : ∀ x ∈ xs, x.Rec.Reads.length ≤ 1048576 ∧ x.Rec.Writes.length ≤ 1048576) : PC Tryz.prog false 120 [.sl (xs.map EntryT.cells)] (.own 0) [⟨.deep EntryT.shp, 124, 8, xs.map EntryT.cells⟩] := by
  refine pc_at Tryz.func120 rfl (by kernel_rfl) 36 [.tmp 2] rfl rfl ?_
  repeat' (conv => whnf); first
 | refine eitherB_r ⟨by and_intros <;> first | rfl | decide, BuildD_prom [(24640, [.leaf]), (28736, WriteT.shp)] ⟨⟨_, _, _, rfl, prom_map (fun _ => rfl)⟩, ⟨_, _, _, rfl, prom_map (fun _ => rfl)⟩, trivial⟩ EntryT.shp rfl rfl rfl ?_⟩
 | exact side_of (big_mapS (f := strC) (hb x (List.mem_of_getElem? hx)).1 (Nat.le_of_ble_eq_true rfl))
 | exact side_of (big_mapS (f := WriteT.cells) (hb x (List.mem_of_getElem? hx)).2 (Nat.le_of_ble_eq_true rfl))
 | (refine nameB_dec (fun h => ?_) (fun h => ?_) <;> try simp only [lensB] at h)
 | refine splitB_true ?_
 | refine splitB_false ?_
 | ((refine Loop_nil 3 1 124 8 rfl rfl (by decide) ?_; refine Loop_prom [(1, EntryT.shp)] ⟨⟨_, _, _, rfl, by first | exact prom_nil | exact prom_rep rfl | exact prom_map (fun _ => rfl) | exact prom_one rfl⟩, trivial⟩ ?_; refine Loop_at [0] [] (Nat) (fun k => True ∧ k ≤ xs.length) (fun k => [(3, .own 1), (4, .int .i64 (k : Nat))]) (fun k => [(1, ⟨.deep EntryT.shp, 124, 8, (xs.take k).map EntryT.cells⟩)]) (fun k => xs.length - k) 0 ⟨by first | rfl | (simp_all <;> fail) | fail, by first | (simp_all <;> fail) | rfl | fail, trivial⟩ ⟨by first | rfl | exact congrArg (fun e => some (AObj.mk _ _ _ e)) (app_snoc hx rfl) | fail | fail, trivial⟩ (by (try dsimp only); first | trivial | (refine ⟨?_, by omega⟩; simp <;> fail) | (simp <;> fail) | fail) ?_; (conv => whnf); refine side_and (side_of (by first | exact fun k => rfl | exact fun k => by simp [headOk, closedE, closedO, closedL, AV.closed, hcap.closed, hasId, AObj.box, BK.ofB])) ?_; rintro k hT; try dsimp only at hT))
 | (refine Again_of (k + 1) ⟨by first | rfl | (simp_all <;> fail) | fail, by first | rfl | exact i64_next (by omega) | (simp_all <;> fail) | fail, trivial⟩ ⟨by first | rfl | exact congrArg (fun e => some (AObj.mk _ _ _ e)) (app_snoc hx rfl) | fail | fail, trivial⟩ (by first | (and_intros <;> first | rfl | trivial) | fail) (by first | (and_intros <;> first | rfl | trivial) | fail) rfl rfl rfl (by (try dsimp only); first | (exact ⟨trivial, by omega⟩) | fail) (show _ < _ by (try dsimp only); omega))
 | (refine ix_map (by omega) (by (try simp only [List.length_take]); omega) (fun x hx => ?_); try simp only [Int.toNat_natCast] at hx)
 | refine side_and (side_of (by first | exact ⟨Nat.le_of_ble_eq_true rfl, rfl⟩ | fail)) ?_
 | refine side_and (side_of (by first | exact Nat.le_of_ble_eq_true rfl | exact rfl | omega | fail)) ?_
 | refine side_and (side_of (by first | (and_intros <;> first | rfl | omega | exact Nat.le_of_ble_eq_true rfl) | fail)) ?_
 | refine side_and (side_of (map_len (fun _ => rfl))) ?_
 | refine side_and (side_of (map_one (fun _ => rfl) _)) ?_
 | refine side_and ?_ ?_
 | refine AppD_of rfl (by and_intros <;> first | rfl | decide) (deep_app (L := (xs.take k).map EntryT.cells) rfl rfl (by rw [List.length_map, List.length_take]; omega) (Nat.le_of_ble_eq_true rfl)) ?_
 | fail
  all_goals
    conv => whnf
    exact OutA_deep rfl rfl rfl ⟨⟨congrArg (fun e => some (AObj.mk _ _ _ e)) (full_take (by omega)), rfl⟩, trivial⟩ rfl
theorem log_ents {l : List EntryT} (hw : wL EntryT.w l ≤ 1048576) : l.length ≤ 1048576 ∧ ∀ x ∈ l, x.Rec.Reads.length ≤ 1048576 ∧ x.Rec.Writes.length ≤ 1048576 :=
  ⟨Nat.le_trans wL_len hw, fun x hx => by
    have h := ent_len (Nat.le_trans (wL_mem hx).2 hw)
    exact ⟨h.2, h.1⟩⟩
theorem c_spec_l9OwnD (g : GroupT) (hw : GB g) : PC Tryz.prog false 69 [.agg g.cells] (.agg [.own 0, .int .i64 g.Term, .int .i64 g.Lead]) [⟨.deep ReplicaT.shp, 90, 3, g.Reps.map ReplicaT.cells⟩] := by
  have hl := reps_len hw
  refine pc_at Tryz.func69 rfl (by kernel_rfl) 44 [.cell 2 38] rfl rfl ?_
  repeat' (conv => whnf); first
 | (show Go.Ab.drawA _ _ _ _ _; refine draw_exp (.take 0 (.take 2 (.take 4 (.take 8 (.take 10 (.take 15 (.take 17 (.late 22 [1] [3, 5, 6, 7, 9, 11, 12, 13, 14, 16, 18, 19, 20, 21] (.lend 1 (.lstop (.fork 22 (.fork 23 (.take 24 (.fork 25 (.done) (.stop))) (.stop)) (.stop))) (.lstop (.fork 1 (.fork 22 (.fork 23 (.take 24 (.fork 25 (.done) (.stop))) (.stop)) (.stop)) (.fork 22 (.fork 1 (.fork 23 (.take 24 (.fork 25 (.done) (.stop))) (.stop)) (.stop)) (.stop))))))))))))) (by kernel_rfl) (by kernel_rfl) (by kernel_rfl) ?_)
 | refine nameB_self (b := x.Up) ?_
 | (refine nameB_dec (fun h => ?_) (fun h => ?_) <;> try simp only [lensB] at h)
 | refine splitB_true ?_
 | refine splitB_false ?_
 | refine both_intro ?_ ?_
 | exact True.intro
 | ((refine Loop_nilB 4192 1 90 3 0 rfl rfl rfl (by decide) ?_; refine Loop_prom [(1, ReplicaT.shp)] ⟨⟨_, _, _, rfl, by first | exact prom_nil | exact prom_rep rfl | exact prom_map (fun _ => rfl) | exact prom_one rfl⟩, trivial⟩ ?_; refine Loop_at [1, 2, 3] [0, 16] (Nat) (fun k => True ∧ k ≤ g.Reps.length) (fun k => [(4, .int .i64 (k : Nat))]) (fun k => [(4192, ⟨true, 38, 3, [[.own 1, .int .i64 g.Term, .int .i64 g.Lead]]⟩), (1, ⟨.deep ReplicaT.shp, 90, 3, (g.Reps.take k).map ReplicaT.cells⟩)]) (fun k => g.Reps.length - k) 0 ⟨by first | (simp_all <;> fail) | rfl | fail, trivial⟩ ⟨by first | rfl | exact congrArg (fun e => some (AObj.mk _ _ _ e)) (app_snoc hx rfl) | fail | fail, by first | rfl | exact congrArg (fun e => some (AObj.mk _ _ _ e)) (app_snoc hx rfl) | fail | fail, trivial⟩ (by (try dsimp only); first | trivial | (refine ⟨?_, by omega⟩; simp <;> fail) | (simp <;> fail) | fail) ?_; (conv => whnf); refine side_and (side_of (by first | exact fun k => rfl | exact fun k => by simp [headOk, closedE, closedO, closedL, AV.closed, hcap.closed, hasId, AObj.box, BK.ofB])) ?_; rintro k hT; try dsimp only at hT))
 | (refine Again_of (k + 1) ⟨by first | rfl | exact i64_next (by omega) | (simp_all <;> fail) | fail, trivial⟩ ⟨by first | rfl | exact congrArg (fun e => some (AObj.mk _ _ _ e)) (app_snoc hx rfl) | fail | fail, by first | rfl | exact congrArg (fun e => some (AObj.mk _ _ _ e)) (app_snoc hx rfl) | fail | fail, trivial⟩ (by first | (and_intros <;> first | rfl | trivial) | fail) (by first | (and_intros <;> first | rfl | trivial) | fail) rfl rfl rfl (by (try dsimp only); first | (exact ⟨trivial, by omega⟩) | fail) (show _ < _ by (try dsimp only); omega))
 | refine CallDF (c_spec_l9OwnLogD x.Log (log_ents (rep_logS hw hx)).1 (log_ents (rep_logS hw hx)).2) rfl rfl ⟨rfl, rfl⟩ ?_
 | refine ix_map_at hx ?_
 | (refine ix_map (by omega) (by (try simp only [List.length_take]); omega) (fun x hx => ?_); try simp only [Int.toNat_natCast] at hx)
 | refine side_and (side_of (by first | exact ⟨Nat.le_of_ble_eq_true rfl, rfl⟩ | fail)) ?_
 | refine side_and (side_of (by first | exact Nat.le_of_ble_eq_true rfl | exact rfl | omega | fail)) ?_
 | refine side_and (side_of (by first | (and_intros <;> first | rfl | omega | exact Nat.le_of_ble_eq_true rfl) | fail)) ?_
 | refine LoadK_of rfl rfl ?_
 | refine BuildD_of ReplicaT.shp rfl rfl rfl ?_
 | refine AppD_of rfl (by and_intros <;> first | rfl | decide) (deep_app (L := (g.Reps.take k).map ReplicaT.cells) rfl rfl (by rw [List.length_map, List.length_take]; omega) (Nat.le_of_ble_eq_true rfl)) ?_
 | fail
  all_goals
    conv => whnf
    exact OutA_deep rfl rfl rfl ⟨⟨congrArg (fun e => some (AObj.mk _ _ _ e)) (full_take (by omega)), rfl⟩, trivial⟩ rfl
theorem c_spec_GoodRec (r : RecT) (rok : r.ok) (h1 : r.Reads.length ≤ 1048576) (h2 : r.Writes.length ≤ 1048576) : PC Tryz.prog false 97 [.agg r.cells] (.bool (okRec r)) [] := by
  refine pc_at Tryz.func97 rfl (by kernel_rfl) 5 [.tmp 2] rfl rfl ?_
  repeat' (conv => whnf); first
 | refine nameB_self (b := okRec r) ?_
 | refine Call0 (c_spec_l4Good r rok h2 h1) rfl rfl ?_
 | refine side_and (side_of (by first | exact Nat.le_of_ble_eq_true rfl | exact rfl | omega | fail)) ?_
 | fail
  all_goals
    conv => whnf
    exact OutA_plain rfl rfl rfl
theorem okPut_no3 {g : GroupT} {r : RecT} {y : ReplicaT} (hy : g.Reps[g.Lead.toNat]? = some y) (h3 : (y.Log.length : Int) ≥ 60) : okPut g r = false := okPut_no2 hy (.inr h3)
theorem put_ents {g : GroupT} {r : RecT} {y : ReplicaT} (hw : GB g) (hy : g.Reps[g.Lead.toNat]? = some y) (h1 : r.Reads.length ≤ 1048576) (h2 : r.Writes.length ≤ 1048576) : ∀ x ∈ y.Log ++ [(⟨g.Term, r⟩ : EntryT)], x.Rec.Reads.length ≤ 1048576 ∧ x.Rec.Writes.length ≤ 1048576 := fun x hx => by
  rcases List.mem_append.1 hx with h | h
  · exact (log_ents (rep_logS hw hy)).2 x h
  · rw [List.mem_singleton] at h
    subst h
    exact ⟨h1, h2⟩
theorem c_spec_PutEntryD (g : GroupT) (r : RecT) (hok : g.ok) (hw : GB g) (rok : r.ok) (h1r : r.Reads.length ≤ 1048576) (h2r : r.Writes.length ≤ 1048576) : PC Tryz.prog false 77 [.agg g.cells, .agg r.cells] (.tup [.agg [.own 0, .int .i64 (putR g r).Term, .int .i64 (putR g r).Lead], .bool (okPut g r)]) [⟨.deep ReplicaT.shp, 90, 3, (putR g r).Reps.map ReplicaT.cells⟩] := by
  have hl := reps_len hw
  refine pc_at Tryz.func77 rfl (by kernel_rfl) 55 [.cell 4 38, .tmp 5] rfl rfl ?_
  repeat' (conv => whnf); first
 | (show Go.Ab.drawA _ _ _ _ _; refine draw_exp (.take 0 (.take 2 (.take 4 (.take 6 (.take 11 (.late 16 [1, 3] [5, 7, 8, 9, 10, 12, 13, 14, 15] (.lend 1 (.lend 3 (.lstop (.fork 16 (.fork 17 (.fork 18 (.take 19 (.fork 20 (.done) (.stop))) (.stop)) (.stop)) (.stop))) (.lstop (.fork 3 (.fork 16 (.fork 17 (.fork 18 (.take 19 (.fork 20 (.done) (.stop))) (.stop)) (.stop)) (.stop)) (.fork 16 (.fork 3 (.fork 17 (.fork 18 (.take 19 (.fork 20 (.done) (.stop))) (.stop)) (.stop)) (.fork 17 (.fork 3 (.fork 18 (.take 19 (.fork 20 (.done) (.stop))) (.stop)) (.stop)) (.stop))) (.stop))))) (.lend 3 (.lend 1 (.lstop (.fork 16 (.fork 17 (.fork 18 (.take 19 (.fork 20 (.done) (.stop))) (.stop)) (.stop)) (.stop))) (.lstop (.fork 1 (.fork 16 (.fork 17 (.fork 18 (.take 19 (.fork 20 (.done) (.stop))) (.stop)) (.stop)) (.stop)) (.fork 16 (.fork 1 (.fork 17 (.fork 18 (.take 19 (.fork 20 (.done) (.stop))) (.stop)) (.stop)) (.fork 17 (.fork 1 (.fork 18 (.take 19 (.fork 20 (.done) (.stop))) (.stop)) (.stop)) (.stop))) (.stop))))) (.lstop (.fork 1 (.fork 3 (.fork 16 (.fork 17 (.fork 18 (.take 19 (.fork 20 (.done) (.stop))) (.stop)) (.stop)) (.stop)) (.fork 16 (.fork 3 (.fork 17 (.fork 18 (.take 19 (.fork 20 (.done) (.stop))) (.stop)) (.stop)) (.fork 17 (.fork 3 (.fork 18 (.take 19 (.fork 20 (.done) (.stop))) (.stop)) (.stop)) (.stop))) (.stop))) (.fork 3 (.fork 1 (.fork 16 (.fork 17 (.fork 18 (.take 19 (.fork 20 (.done) (.stop))) (.stop)) (.stop)) (.stop)) (.fork 16 (.fork 1 (.fork 17 (.fork 18 (.take 19 (.fork 20 (.done) (.stop))) (.stop)) (.stop)) (.fork 17 (.fork 1 (.fork 18 (.take 19 (.fork 20 (.done) (.stop))) (.stop)) (.stop)) (.stop))) (.stop))) (.fork 16 (.fork 1 (.fork 3 (.fork 17 (.fork 18 (.take 19 (.fork 20 (.done) (.stop))) (.stop)) (.stop)) (.fork 17 (.fork 3 (.fork 18 (.take 19 (.fork 20 (.done) (.stop))) (.stop)) (.stop)) (.stop))) (.fork 3 (.fork 1 (.fork 17 (.fork 18 (.take 19 (.fork 20 (.done) (.stop))) (.stop)) (.stop)) (.fork 17 (.fork 1 (.fork 18 (.take 19 (.fork 20 (.done) (.stop))) (.stop)) (.stop)) (.stop))) (.fork 17 (.fork 1 (.fork 3 (.fork 18 (.take 19 (.fork 20 (.done) (.stop))) (.stop)) (.stop)) (.fork 3 (.fork 1 (.fork 18 (.take 19 (.fork 20 (.done) (.stop))) (.stop)) (.stop)) (.stop))) (.stop)))) (.stop))))))))))))) (by kernel_rfl) (by kernel_rfl) (by kernel_rfl) ?_)
 | refine ix_setG (L := g.Reps.map ReplicaT.cells) (by rw [List.length_map]; exact (okLead_lt (by assumption) (by assumption)).2) ?_
 | refine ix_ownat (f := ReplicaT.cells) (xs := g.Reps) hy ?_
 | exact side_of (lead_side (by assumption) (by assumption))
 | refine ix_own (f := ReplicaT.cells) (xs := g.Reps) (okLead_lt (by assumption) (by assumption)).2 (fun y hy => ?_)
 | refine side_and (side_of (deep_app (L := y.Log.map EntryT.cells) rfl rfl (by rw [List.length_map]; have := lenLead_60 (by assumption) hy; omega) (Nat.le_of_ble_eq_true rfl))) ?_
 | exact side_of (by have q := lead_side (g := g) (by assumption) (by assumption); refine ⟨q.1, ?_⟩; show _ < ((List.set _ _ _).length : Int); rw [List.length_set]; exact q.2)
 | exact side_of (fun z hz => (congrArg List.length (List.mem_singleton.1 hz)).trans rfl)
 | exact side_of (by first | (and_intros <;> first | rfl | (intro e; exact absurd (AV.own.inj e) (Nat.ne_of_beq_eq_false rfl)) | fail) | fail)
 | (refine nameB_cases (b := okGroup g) (fun h => ?_) (fun h => ?_))
 | (refine nameB_cases (b := okRec r) (fun h => ?_) (fun h => ?_))
 | refine nameB_true ?_
 | refine nameB_false ?_
 | (refine nameB_dec (fun h => ?_) (fun h => ?_) <;> try simp only [lensB] at h)
 | refine splitB_true ?_
 | refine splitB_false ?_
 | refine both_intro ?_ ?_
 | exact True.intro
 | refine Call0 (c_spec_GoodGroup g hok hw) rfl rfl ?_
 | refine Call0 (c_spec_GoodRec r rok h1r h2r) rfl rfl ?_
 | refine CallF (c_spec_l9OwnD g hw) rfl rfl rfl (Nat.le_of_ble_eq_true rfl) ?_
 | refine CallF (c_spec_l9OwnLogD (y.Log ++ [(⟨g.Term, r⟩ : EntryT)]) (by have := lenLead_60 (by assumption) hy; rw [List.length_append]; simp; omega) (put_ents hw hy h1r h2r)) (congrArg (fun z => [AV.sl z]) (List.map_append (l₁ := y.Log) (l₂ := [(⟨g.Term, r⟩ : EntryT)]) (f := EntryT.cells)).symm) rfl rfl (Nat.le_of_ble_eq_true rfl) ?_
 | (refine hook_appC false rfl rfl rfl rfl rfl rfl (by rw [List.getElem?_map, hy]; rfl) ?_)
 | refine side_and (side_of (by first | exact ⟨Nat.le_of_ble_eq_true rfl, rfl⟩ | fail)) ?_
 | refine side_and (side_of (by first | exact Nat.le_of_ble_eq_true rfl | exact rfl | omega | fail)) ?_
 | refine side_and (side_of (by first | (and_intros <;> first | rfl | omega | exact Nat.le_of_ble_eq_true rfl) | fail)) ?_
 | refine side_and ?_ ?_
 | refine StoreD_of rfl rfl rfl ?_
 | refine LoadR_cel rfl rfl rfl rfl ?_
 | fail
  all_goals
    conv => whnf
    first
    | (have e := okPut_yes (by assumption) (by assumption) hy (by omega) (by assumption)
       rw [putR_yes e, e]
       exact OutA_deep rfl rfl rfl ⟨⟨congrArg (fun e => some (AObj.mk _ _ _ e)) (put_cells hy (putE_cells (by rw [List.map_append]; rfl))), rfl⟩, trivial⟩ rfl)
    | (have e : okPut g r = false := (by first | exact okPut_no1 (by first | exact .inl (by assumption) | exact .inr (.inl (by assumption)) | exact .inr (.inr (by assumption))) | exact okPut_no3 hy (by assumption))
       rw [putR_no e, e]
       refine OutA_nilB 32 1 90 3 0 rfl rfl rfl (by decide) ?_
       refine OutA_prom [(1, ReplicaT.shp)] ⟨⟨_, _, _, rfl, prom_nil⟩, trivial⟩ ?_
       conv => whnf
       exact OutA_deep rfl rfl rfl ⟨⟨rfl, rfl⟩, trivial⟩ rfl)
def logOf (g : GroupT) (r : Int) : List EntryT := match g.Reps[r.toNat]? with | some y => y.Log | none => []
def mx (a b : Int) : Int := if b > a then b else a
def mn (a b : Int) : Int := if b < a then b else a
theorem sum_le_mul {α : Type} {w : α → Nat} {B : Nat} : ∀ {xs : List α}, (∀ x ∈ xs, w x ≤ B) → (xs.map w).sum ≤ xs.length * B
  | [], _ => by simp
  | x :: xs, h => by
    have h1 := sum_le_mul (xs := xs) (fun y hy => h y (List.mem_cons_of_mem _ hy))
    have h2 := h x (List.mem_cons_self ..)
    simp only [List.map_cons, List.sum_cons, List.length_cons, Nat.succ_mul]
    omega
theorem wL_bound {α : Type} {w : α → Nat} {B : Nat} {xs : List α} (hB : ∀ x ∈ xs, w x ≤ B) (hl : xs.length ≤ 5) : wL w xs ≤ 5 + 5 * B := by
  have h1 := sum_le_mul hB
  have h2 : xs.length * B ≤ 5 * B := Nat.mul_le_mul_right B hl
  unfold wL
  omega
theorem okG_len {g : GroupT} (h : okGroup g = true) : g.Reps.length ≤ 5 := by
  simp only [okGroup, okMany, Bool.and_eq_true, Bool.or_eq_true, decide_eq_true_eq] at h
  omega
structure GroupActT where
  Kind : Int
  Rep : Int
  Rec : RecT
deriving DecidableEq
def GroupActT.cells (x : GroupActT) : List AV := [.int .i64 x.Kind, .int .i64 x.Rep, .int .i64 x.Rec.Kind, .int .i64 x.Rec.Txn, .int .i64 x.Rec.Time, .int .i64 x.Rec.Lead, .sl (x.Rec.Reads.map strC), .sl (x.Rec.Writes.map WriteT.cells), .bool x.Rec.Yes]
def GroupActT.ok (x : GroupActT) : Prop := okT x.Kind ∧ okT x.Rep ∧ RecT.ok x.Rec
def GroupActT.w (x : GroupActT) : Nat := RecT.w x.Rec
theorem GroupActT.same {x y : GroupActT} (hKind : x.Kind = y.Kind) (hRep : x.Rep = y.Rep) (hRec : x.Rec = y.Rec) : x = y := by cases x; cases y; simp_all
def GroupActT.shp : List Shp := [.leaf, .leaf, .leaf, .leaf, .leaf, .leaf, .sl 9 1 [.leaf], .sl 154 3 WriteT.shp, .leaf]
def GroupActT.mkM (x : GroupActT) (k : Int) : GroupActT := ⟨k, k + 1, ⟨k + 1 + 1, k + 1 + 1 + 1, k + 1 + 1 + 1 + 1, k + 1 + 1 + 1 + 1 + 1, mkL mkStr cnt1 x.Rec.Reads (k + 1 + 1 + 1 + 1 + 1 + 1), mkL WriteT.mkM WriteT.cnt x.Rec.Writes (k + 1 + 1 + 1 + 1 + 1 + 1 + (cntL cnt1 x.Rec.Reads : Int)), ((k + 1 + 1 + 1 + 1 + 1 + 1 + (cntL cnt1 x.Rec.Reads : Int) + (cntL WriteT.cnt x.Rec.Writes : Int)).tmod 3 == 0)⟩⟩
def GroupActT.cnt (x : GroupActT) : Nat := 1 + 1 + 1 + 1 + 1 + 1 + cntL cnt1 x.Rec.Reads + cntL WriteT.cnt x.Rec.Writes + 1
def GroupActT.mkS (x : GroupActT) (k : Int) : GroupActT := ⟨x.Kind, x.Rep, ⟨x.Rec.Kind, x.Rec.Txn, x.Rec.Time, x.Rec.Lead, mkL mkStr cnt1 x.Rec.Reads k, mkL WriteT.mkM WriteT.cnt x.Rec.Writes (k + (cntL cnt1 x.Rec.Reads : Int)), x.Rec.Yes⟩⟩
def GroupActT.cntS (x : GroupActT) (k : Int) : Int := k + (cntL cnt1 x.Rec.Reads : Int) + (cntL WriteT.cnt x.Rec.Writes : Int)
theorem GroupActT.cnt_w (x : GroupActT) : GroupActT.cnt x ≤ 100 * (1 + GroupActT.w x) := by
  have h0 := cntL_w100 (cnt := cnt1) (w := List.length) (fun _ => one_w100) x.Rec.Reads
  have h1 := cntL_w100 (cnt := WriteT.cnt) (w := WriteT.w) (fun y => WriteT.cnt_w y) x.Rec.Writes
  simp only [GroupActT.cnt, RecT.cnt, GroupActT.w, RecT.w] at *
  omega
theorem GroupActT.cntS_w (x : GroupActT) (k : Int) : GroupActT.cntS x k ≤ k + 100 * (1 + (GroupActT.w x : Int)) := by
  have h0 := cntL_w100 (cnt := cnt1) (w := List.length) (fun _ => one_w100) x.Rec.Reads
  have h1 := cntL_w100 (cnt := WriteT.cnt) (w := WriteT.w) (fun y => WriteT.cnt_w y) x.Rec.Writes
  simp only [GroupActT.cntS, GroupActT.cnt, RecT.cnt, GroupActT.w, RecT.w] at *
  omega
theorem rec_len {r : RecT} (h : r.w ≤ 1048576) : r.Reads.length ≤ 1048576 ∧ r.Writes.length ≤ 1048576 := ⟨(ent_len (e := ⟨0, r⟩) h).2, (ent_len (e := ⟨0, r⟩) h).1⟩
structure PG (M : Nat) (g : GroupT) : Prop where
  ok : g.ok
  len : g.Reps.length ≤ 5
  w : ∀ x ∈ g.Reps, x.w ≤ M
theorem PG.gb {M : Nat} {g : GroupT} (h : PG M g) (hM : M ≤ 1048576) : GB g := ⟨Nat.le_trans h.len (by decide), fun x hx => Nat.le_trans (h.w x hx) hM⟩
theorem PG.le {M N : Nat} {g : GroupT} (h : PG M g) (hM : M ≤ N) : PG N g := ⟨h.ok, h.len, fun x hx => Nat.le_trans (h.w x hx) hM⟩
theorem PG.of {g : GroupT} {M : Nat} (hok : g.ok) (hg : okGroup g = true) (hw : g.w ≤ M) : PG M g := ⟨hok, okG_len hg, fun x hx => Nat.le_trans (wL_mem hx).2 hw⟩
theorem PG.set {M N : Nat} {g : GroupT} {r T L : Int} {f : ReplicaT → ReplicaT} (h : PG M g) (hM : M ≤ N) (hf : ∀ x, g.Reps[r.toNat]? = some x → (f x).ok ∧ (f x).w ≤ N) : PG N ⟨setRep g r f, T, L⟩ := by
  unfold setRep
  split
  · rename_i y hy
    obtain ⟨h1, h2⟩ := hf y hy
    refine ⟨⟨⟨by rw [List.length_set]; exact h.ok.1.1, fun x hx => ?_⟩, trivial, trivial⟩, by rw [List.length_set]; exact h.len, fun x hx => ?_⟩
    · rcases List.mem_or_eq_of_mem_set hx with q | rfl
      · exact h.ok.1.2 x q
      · exact h1
    · rcases List.mem_or_eq_of_mem_set hx with q | rfl
      · exact Nat.le_trans (h.w x q) hM
      · exact h2
  · exact ⟨⟨h.ok.1, trivial, trivial⟩, h.len, fun x hx => Nat.le_trans (h.w x hx) hM⟩
theorem PG.rep {M : Nat} {g : GroupT} {n : Nat} {x : ReplicaT} (h : PG M g) (hx : g.Reps[n]? = some x) : x.ok ∧ x.w ≤ M := ⟨h.ok.1.2 x (List.mem_of_getElem? hx), h.w x (List.mem_of_getElem? hx)⟩
theorem PG.log {M : Nat} {g : GroupT} (h : PG M g) : okL EntryT.ok (logOf g g.Lead) ∧ wL EntryT.w (logOf g g.Lead) ≤ M := by
  unfold logOf
  split
  · rename_i y hy
    exact ⟨(h.rep hy).1.2.1, (h.rep hy).2⟩
  · exact ⟨⟨Nat.zero_le _, fun _ h => by cases h⟩, Nat.zero_le _⟩
def dskOf (ds : List DiskT) (r : Int) : DiskT := match ds[r.toNat]? with | some d => d | none => ⟨[], []⟩
theorem dskOf_of {ds : List DiskT} {r : Int} {d : DiskT} (h : ds[r.toNat]? = some d) : dskOf ds r = d := by unfold dskOf; rw [h]
def onK (d : DiskT) : List EntryT := (frames d.Kept 0).1.map outE
def zeroH : HouseT := ⟨zeroG, []⟩
def resH (b : Bool) (h : HouseT) : HouseT := match b with | true => h | false => zeroH
theorem resH_yes {b : Bool} {h : HouseT} (e : b = true) : resH b h = h := by rw [e]; rfl
theorem resH_no {b : Bool} {h : HouseT} (e : b = false) : resH b h = zeroH := by rw [e]; rfl
theorem allPre_mem {α : Type} {p : List α → α → Bool} : ∀ {l pre : List α}, allPre p pre l = true → ∀ e ∈ l, ∃ q, p q e = true
  | [], _, _, e, he => by cases he
  | x :: xs, pre, h, e, he => by
    simp only [allPre, Bool.and_eq_true] at h
    rcases List.mem_cons.1 he with rfl | he
    · exact ⟨pre, h.1⟩
    · exact allPre_mem h.2 e he
theorem okLog_mem {l : List EntryT} {t : Int} (h : okLog l t = true) : l.length ≤ 60 ∧ ∀ e ∈ l, okRec e.Rec = true ∧ (1 ≤ e.Term ∧ e.Term ≤ t) := by
  unfold okLog at h
  simp only [Bool.and_eq_true, decide_eq_true_eq] at h
  refine ⟨by omega, fun e he => ?_⟩
  obtain ⟨q, hq⟩ := allPre_mem h.1 e he
  unfold entAt at hq
  simp only [Bool.and_eq_true, inB, decide_eq_true_eq] at hq
  exact ⟨hq.1.2, hq.1.1⟩
structure OkG (g : GroupT) : Prop where
  many : okMany (g.Reps.length : Int) = true
  term : 0 ≤ g.Term ∧ g.Term ≤ 200
  lead : okLead g = true
  rep : ∀ x ∈ g.Reps, okRep g.Term x = true
theorem okG_of {g : GroupT} (h : okGroup g = true) : OkG g := by
  unfold okGroup at h
  simp only [Bool.and_eq_true, List.all_eq_true, inB, decide_eq_true_eq] at h
  exact ⟨h.1.1.1, h.1.1.2, h.1.2, h.2⟩
structure OkH (h : HouseT) : Prop where
  g : okGroup h.Group = true
  len : h.Disks.length = h.Group.Reps.length
  pair : ∀ (n : Nat) (x : ReplicaT) (d : DiskT), h.Group.Reps[n]? = some x → h.Disks[n]? = some d → fitsD h.Group.Term x d = true
theorem okH_of {h : HouseT} (e : okHouse h = true) : OkH h := by
  unfold okHouse at e
  simp only [Bool.and_eq_true, decide_eq_true_eq] at e
  obtain ⟨⟨e1, e2⟩, e3⟩ := e
  refine ⟨e1, by omega, fun n x d hx hd => ?_⟩
  rw [List.all_eq_true] at e3
  exact e3 (x, d) (List.mem_of_getElem? (zip_at hx hd))
theorem fitsD_mend {t : Int} {x : ReplicaT} {d : DiskT} (h : fitsD t x d = true) : mendB d = true ∧ (frames d.Kept 0).1.all okE = true := by
  unfold fitsD at h
  simp only [Bool.and_eq_true] at h
  exact h.1
theorem OkH.disk {h : HouseT} (o : OkH h) {n : Nat} {d : DiskT} (hd : h.Disks[n]? = some d) : mendB d = true ∧ (frames d.Kept 0).1.all okE = true := by
  have hn := (List.getElem?_eq_some_iff.1 hd).1
  exact fitsD_mend (o.pair n _ d (List.getElem?_eq_getElem (show n < h.Group.Reps.length by rw [← o.len]; exact hn)) hd)
theorem setRep_at {g : GroupT} {r : Int} {f : ReplicaT → ReplicaT} {y : ReplicaT} {T L : Int} (hy : g.Reps[r.toNat]? = some y) : (⟨setRep g r f, T, L⟩ : GroupT).Reps[r.toNat]? = some (f y) := by
  show (setRep g r f)[r.toNat]? = some (f y)
  rw [setRep_of hy]
  have := (List.getElem?_eq_some_iff.1 hy).1
  simp [this]
theorem set_dsk {ds : List DiskT} {n : Nat} {d : DiskT} {c : List AV} (hc : c = d.cells) : (ds.map DiskT.cells).set n c = (ds.set n d).map DiskT.cells := by rw [hc, List.map_set]
theorem prom_set {sh : List Shp} {xs : List (List AV)} {n : Nat} {c : List AV} (h : ∀ e ∈ xs, flatFit sh e = true) (hc : flatFit sh c = true) : ∀ e ∈ xs.set n c, flatFit sh e = true := fun e he => by
  rcases List.mem_or_eq_of_mem_set he with q | rfl
  · exact h e q
  · exact hc
theorem TinyR.w {r : RecT} (h : TinyR r) : r.w ≤ 500 := by
  have e : r.w = wL List.length r.Reads + wL WriteT.w r.Writes := rfl
  have h1 : wL List.length r.Reads = r.Reads.length + (r.Reads.map List.length).sum := rfl
  have h2 : wL WriteT.w r.Writes = r.Writes.length + (r.Writes.map WriteT.w).sum := rfl
  have h3 := sum_le (w := List.length) (n := 12) r.Reads h.rl
  have h4 := sum_le (w := WriteT.w) (n := 36) r.Writes (fun x hx => by have := h.wl x hx; show x.Key.length + x.Val.length ≤ _; omega)
  have := h.reads
  have := h.writes
  omega
theorem c_impl_PutEntryT (g : GroupT) (r : RecT) (hok : g.ok) (hw : GB g) (rok : r.ok) (h1r : r.Reads.length ≤ 1048576) (h2r : r.Writes.length ≤ 1048576) : PC Tryz.prog true 105 [.agg g.cells, .agg r.cells] (.tup [.agg (putR g r).cells, .bool (okPut g r)]) [] := by
  have hl := reps_len hw
  refine pc_at Tryz.func105 rfl (by kernel_rfl) 55 [.cell 4 38, .tmp 5] rfl rfl ?_
  repeat' (conv => whnf); first
 | (show Go.Ab.drawA _ _ _ _ _; refine draw_exp (.take 0 (.take 1 (.take 2 (.take 3 (.take 5 (.fork 4 (.fork 6 (.fork 7 (.fork 8 (.fork 9 (.fork 10 (.fork 11 (.take 12 (.take 13 (.fork 14 (.done) (.stop)))) (.stop)) (.stop)) (.stop)) (.stop)) (.stop)) (.fork 7 (.fork 6 (.fork 8 (.fork 9 (.fork 10 (.fork 11 (.take 12 (.take 13 (.fork 14 (.done) (.stop)))) (.stop)) (.stop)) (.stop)) (.stop)) (.fork 8 (.fork 6 (.fork 9 (.fork 10 (.fork 11 (.take 12 (.take 13 (.fork 14 (.done) (.stop)))) (.stop)) (.stop)) (.stop)) (.stop)) (.stop))) (.stop))) (.fork 6 (.fork 4 (.fork 7 (.fork 8 (.fork 9 (.fork 10 (.fork 11 (.take 12 (.take 13 (.fork 14 (.done) (.stop)))) (.stop)) (.stop)) (.stop)) (.stop)) (.stop)) (.fork 7 (.fork 4 (.fork 8 (.fork 9 (.fork 10 (.fork 11 (.take 12 (.take 13 (.fork 14 (.done) (.stop)))) (.stop)) (.stop)) (.stop)) (.stop)) (.fork 8 (.fork 4 (.fork 9 (.fork 10 (.fork 11 (.take 12 (.take 13 (.fork 14 (.done) (.stop)))) (.stop)) (.stop)) (.stop)) (.fork 9 (.fork 4 (.fork 10 (.fork 11 (.take 12 (.take 13 (.fork 14 (.done) (.stop)))) (.stop)) (.stop)) (.fork 10 (.fork 4 (.fork 11 (.take 12 (.take 13 (.fork 14 (.done) (.stop)))) (.stop)) (.stop)) (.stop))) (.stop))) (.stop))) (.stop))) (.fork 7 (.fork 4 (.fork 6 (.fork 8 (.fork 9 (.fork 10 (.fork 11 (.take 12 (.take 13 (.fork 14 (.done) (.stop)))) (.stop)) (.stop)) (.stop)) (.stop)) (.fork 8 (.fork 6 (.fork 9 (.fork 10 (.fork 11 (.take 12 (.take 13 (.fork 14 (.done) (.stop)))) (.stop)) (.stop)) (.stop)) (.stop)) (.stop))) (.fork 6 (.fork 4 (.fork 8 (.fork 9 (.fork 10 (.fork 11 (.take 12 (.take 13 (.fork 14 (.done) (.stop)))) (.stop)) (.stop)) (.stop)) (.stop)) (.fork 8 (.fork 4 (.fork 9 (.fork 10 (.fork 11 (.take 12 (.take 13 (.fork 14 (.done) (.stop)))) (.stop)) (.stop)) (.stop)) (.fork 9 (.fork 4 (.fork 10 (.fork 11 (.take 12 (.take 13 (.fork 14 (.done) (.stop)))) (.stop)) (.stop)) (.fork 10 (.fork 4 (.fork 11 (.take 12 (.take 13 (.fork 14 (.done) (.stop)))) (.stop)) (.stop)) (.stop))) (.stop))) (.stop))) (.fork 8 (.fork 4 (.fork 6 (.fork 9 (.fork 10 (.fork 11 (.take 12 (.take 13 (.fork 14 (.done) (.stop)))) (.stop)) (.stop)) (.stop)) (.stop)) (.fork 6 (.fork 4 (.fork 9 (.fork 10 (.fork 11 (.take 12 (.take 13 (.fork 14 (.done) (.stop)))) (.stop)) (.stop)) (.stop)) (.fork 9 (.fork 4 (.fork 10 (.fork 11 (.take 12 (.take 13 (.fork 14 (.done) (.stop)))) (.stop)) (.stop)) (.fork 10 (.fork 4 (.fork 11 (.take 12 (.take 13 (.fork 14 (.done) (.stop)))) (.stop)) (.stop)) (.stop))) (.stop))) (.stop))) (.stop)))) (.stop))))))))) (by kernel_rfl) (by kernel_rfl) (by kernel_rfl) ?_)
 | refine ix_ownat (f := ReplicaT.cells) (xs := g.Reps) hy ?_
 | refine ix_setG (L := g.Reps.map ReplicaT.cells) (by rw [List.length_map]; exact (okLead_lt (by assumption) (by assumption)).2) ?_
 | exact side_of (lead_side (by assumption) (by assumption))
 | refine ix_own (f := ReplicaT.cells) (xs := g.Reps) (okLead_lt (by assumption) (by assumption)).2 (fun y hy => ?_)
 | (refine nameB_cases (b := okGroup g) (fun h => ?_) (fun h => ?_))
 | refine nameB_true ?_
 | refine nameB_false ?_
 | (refine nameB_dec (fun h => ?_) (fun h => ?_) <;> try simp only [lensB] at h)
 | (refine nameB_cases (fun h => ?_) (fun h => ?_) <;> try simp only [nmL, lensB] at h)
 | refine splitB_true ?_
 | refine splitB_false ?_
 | refine both_intro ?_ ?_
 | exact True.intro
 | refine Call0 (c_impl_GoodGroup g hok hw) rfl rfl ?_
 | refine CallF (c_impl_copyGroup g hw) rfl rfl rfl (Nat.le_of_ble_eq_true rfl) ?_
 | refine Call0 (c_impl_GoodRec r rok h2r h1r) rfl rfl ?_
 | refine CallF (c_impl_copyRec r h1r h2r) rfl rfl rfl (Nat.le_of_ble_eq_true rfl) ?_
 | (refine hook_appC true rfl rfl rfl rfl rfl rfl (by rw [List.getElem?_map, hy]; rfl) ?_)
 | refine side_and (side_of (by first | (and_intros <;> first | exact Nat.le_of_ble_eq_true rfl | rfl | omega | (simp only [lensB, lensC]; omega) | exact bytes_ok (Nat.le_of_ble_eq_true rfl) (by omega) (by simp only [lensB, lensC]; omega) | exact bytes_okN (Nat.le_of_ble_eq_true rfl) (by simp only [lensB, lensC]; omega)) | fail)) ?_
 | refine side_and ?_ ?_
 | refine LoadD_cel rfl rfl rfl rfl ?_
 | refine StoreD_of rfl rfl rfl ?_
 | refine BuildD_of EntryT.shp rfl rfl rfl ?_
 | refine AppD_of rfl (by and_intros <;> first | rfl | decide) (deep_app (L := y.Log.map EntryT.cells) rfl rfl (by rw [List.length_map]; have := wL_len (w := EntryT.w) (xs := y.Log); have := rep_logS hw hy; omega) (Nat.le_of_ble_eq_true rfl)) ?_
 | fail
  all_goals
    conv => whnf
    first
    | (have e := okPut_yes (by assumption) (by assumption) hy (by assumption) (by assumption)
       rw [putR_yes e, e]
       refine OutA_frz [12304] ?_
       conv => whnf
       refine OutA_plain rfl rfl ?_
       exact congrArg (fun e => AV.tup [.agg [.sl e, .int .i64 g.Term, .int .i64 g.Lead], .bool true]) (put_cells hy (putE_cells rfl)))
    | (have e : okPut g r = false := (by first | exact okPut_no1 (by first | exact .inl (by assumption) | exact .inr (.inl (by assumption)) | exact .inr (.inr (by assumption))) | exact okPut_no2 hy (by first | exact .inl (by assumption) | exact .inr (by assumption)))
       rw [putR_no e, e]
       refine OutA_nilB 32 1 90 3 0 rfl rfl rfl (by decide) ?_
       refine OutA_frz [1] ?_
       conv => whnf
       exact OutA_plain rfl rfl rfl)
theorem c_impl_ifDisk (d : DiskT) (hw : d.w ≤ 1048576) (ho : okDsk d = true) : PC Tryz.prog false 152 [.agg d.cells] (.tup [.agg d.cells, .bool true]) [] := by
  refine pc_at Tryz.func152 rfl (by kernel_rfl) 9 [.cell 2 92, .tmp 3] rfl rfl ?_
  repeat' (conv => whnf); first
 | refine nameB_yes (b := okDsk d) ho ?_
 | refine nameB_false ?_
 | refine splitB_false ?_
 | refine Call0 (c_impl_GoodDisk d hw) rfl rfl ?_
 | refine side_and (side_of (by first | (and_intros <;> first | exact Nat.le_of_ble_eq_true rfl | rfl | omega | (simp only [lensB, lensC]; omega) | exact bytes_ok (Nat.le_of_ble_eq_true rfl) (by omega) (by simp only [lensB, lensC]; omega) | exact bytes_okN (Nat.le_of_ble_eq_true rfl) (by simp only [lensB, lensC]; omega)) | fail)) ?_
 | fail
  all_goals
    conv => whnf
    exact OutA_plain rfl rfl rfl
theorem c_impl_WriteDisk (d : DiskT) (s : List UInt8) (hl : d.Loose = []) (hd : d.Kept.length ≤ 49000) (hs : s.length ≤ 700) : PC Tryz.prog false 106 [.agg d.cells, .str s] (.tup [.agg (⟨d.Kept, frB s⟩ : DiskT).cells, .bool true]) [] := by
  have hf := frB_700 hs
  have hk : d.w = d.Kept.length + d.Loose.length := rfl
  rw [hl] at hk
  simp only [List.length_nil] at hk
  have o1 : okDsk d = true := by unfold okDsk; rw [hl]; exact decide_eq_true (by simp only [List.length_nil]; omega)
  have o2 : okDsk ⟨d.Kept, frB s⟩ = true := by unfold okDsk; exact decide_eq_true (by show (d.Kept.length : Int) + (frB s).length ≤ _; omega)
  have hk2 : (⟨d.Kept, frB s⟩ : DiskT).w = d.Kept.length + (frB s).length := rfl
  obtain ⟨dk, dl⟩ := d
  simp only at hl hd hk o1 o2 hk2
  subst hl
  have hif := c_impl_ifDisk ⟨dk, frB s⟩ (by omega) o2
  refine pc_at Tryz.func106 rfl (by kernel_rfl) 26 [.cell 4 92, .tmp 5] rfl rfl ?_
  repeat' (conv => whnf); first
 | refine nameB_yes (b := okDsk ⟨dk, []⟩) o1 ?_
 | refine nameB_true ?_
 | refine nameB_false ?_
 | (refine nameB_dec (fun h => ?_) (fun h => ?_) <;> try simp only [lensB] at h)
 | refine splitB_true ?_
 | refine splitB_false ?_
 | refine draw_text (by kernel_rfl) (by kernel_rfl) (by kernel_rfl) ?_
 | refine Call0 (c_impl_GoodDisk ⟨dk, []⟩ (by omega)) rfl rfl ?_
 | refine CallD0 (c_impl_frameBytes s (by omega)) rfl rfl rfl ?_
 | refine CallD0 hif (congrArg (fun z => [AV.agg [.str dk, .str z]]) (List.nil_append _)) rfl rfl ?_
 | refine side_and (side_of (by first | (and_intros <;> first | exact Nat.le_of_ble_eq_true rfl | rfl | omega | (simp only [lensB, lensC]; omega) | exact bytes_ok (Nat.le_of_ble_eq_true rfl) (by omega) (by simp only [lensB, lensC]; omega) | exact bytes_okN (Nat.le_of_ble_eq_true rfl) (by simp only [lensB, lensC]; omega)) | fail)) ?_
 | fail
  all_goals
    conv => whnf
    first
    | (exfalso; omega)
    | exact OutA_plain rfl rfl rfl
theorem c_impl_FallDisk_no (d : DiskT) (k : Int) (torn : Bool) (hw : d.w ≤ 1048576) (ho : okFall d k = false) : PC Tryz.prog false 108 [.agg d.cells, .int .i64 k, .bool torn] (.tup [.agg (⟨[], []⟩ : DiskT).cells, .bool false]) [] := by
  have hl : d.Loose.length ≤ 1048576 := by have : d.w = d.Kept.length + d.Loose.length := rfl; omega
  refine pc_at Tryz.func108 rfl (by kernel_rfl) 47 [.cell 6 92, .tmp 7] rfl rfl ?_
  repeat' (conv => whnf); first
 | (refine nameB_cases (b := okDsk d) (fun h => ?_) (fun h => ?_))
 | (refine nameB_cases (b := inB 0 k (d.Loose.length : Int)) (fun h => ?_) (fun h => ?_))
 | (exfalso; (have q : okFall d k = true := by unfold okFall; rw [(by assumption : okDsk d = true), (by assumption : inB 0 k (d.Loose.length : Int) = true)]; rfl); rw [ho] at q; cases q)
 | refine nameB_true ?_
 | refine nameB_false ?_
 | refine splitB_true ?_
 | refine splitB_false ?_
 | refine Call0 (c_impl_GoodDisk d hw) rfl rfl ?_
 | refine Call0 (c_impl_within ..) rfl rfl ?_
 | refine side_and (side_of (by first | (and_intros <;> first | exact Nat.le_of_ble_eq_true rfl | rfl | omega | (simp only [lensB, lensC]; omega) | exact bytes_ok (Nat.le_of_ble_eq_true rfl) (by omega) (by simp only [lensB, lensC]; omega) | exact bytes_okN (Nat.le_of_ble_eq_true rfl) (by simp only [lensB, lensC]; omega)) | fail)) ?_
 | fail
  all_goals
    conv => whnf
    exact OutA_plain rfl rfl rfl
def DB (d : DiskT) : Prop := d.ok ∧ d.w ≤ 6000000000
theorem ds_set {ds : List DiskT} {n : Nat} {d : DiskT} (h : ∀ x ∈ ds, DB x) (hd : DB d) : ∀ x ∈ ds.set n d, DB x := fun x hx => by
  rcases List.mem_or_eq_of_mem_set hx with q | rfl
  · exact h x q
  · exact hd
theorem sum_ds : ∀ (ds : List DiskT), (∀ x ∈ ds, DB x) → wL DiskT.w ds ≤ ds.length * 6000000001
  | [], _ => Nat.le_refl _
  | d :: ds, h => by
    have h1 := sum_ds ds fun x hx => h x (by simp [hx])
    have h2 := (h d (by simp)).2
    simp only [wL, List.map_cons, List.sum_cons, List.length_cons, Nat.succ_mul] at h1 ⊢
    omega
theorem house_db {h : HouseT} (hok : h.ok) (hb : HB h) : ∀ x ∈ h.Disks, DB x := fun x hx => ⟨hok.2.2 x hx, by have := hb.dw x hx; omega⟩
structure HG (h : HouseT) : Prop where
  g : PG 2097152 h.Group
  n : h.Disks.length ≤ 5
  d : ∀ x ∈ h.Disks, DB x
theorem HG.okw {h : HouseT} (q : HG h) : h.ok ∧ h.w ≤ 1000000000000 := by
  have h1 := sum_ds h.Disks q.d
  have h2 : h.Disks.length * 6000000001 ≤ 5 * 6000000001 := Nat.mul_le_mul_right _ q.n
  have h3 := wL_bound (w := ReplicaT.w) (B := 2097152) (xs := h.Group.Reps) (fun y hy => q.g.w y hy) q.g.len
  have e : h.w = wL ReplicaT.w h.Group.Reps + wL DiskT.w h.Disks := rfl
  refine ⟨⟨q.g.ok, ⟨by have := q.n; omega, fun x hx => (q.d x hx).1⟩⟩, ?_⟩
  omega
theorem zeroH_HG : HG zeroH := ⟨⟨zeroG_ok, Nat.zero_le _, fun x hx => (by cases hx)⟩, Nat.zero_le _, fun x hx => by cases hx⟩
def newE (g : GroupT) (r : RecT) : EntryT := ⟨g.Term, r⟩
def tearB (h : HouseT) (r : RecT) : List UInt8 := frB (entB (newE h.Group r))
def okTearI (h : HouseT) (r : RecT) (k : Int) : Bool := okPut h.Group r && inB 0 k ((tearB h r).length : Int)
def tearD (h : HouseT) (r : RecT) (k : Int) (torn : Bool) : DiskT := ⟨(dskOf h.Disks h.Group.Lead).Kept ++ tornB (tearB h r) k.toNat torn, []⟩
def tearH (h : HouseT) (r : RecT) (k : Int) (torn : Bool) : HouseT := ⟨crashR h.Group h.Group.Lead, h.Disks.set h.Group.Lead.toNat (tearD h r k torn)⟩
def tearI (h : HouseT) (r : RecT) (k : Int) (torn : Bool) : HouseT := resH (okTearI h r k) (tearH h r k torn)
structure TearOk (h : HouseT) (r : RecT) (d : DiskT) (y : ReplicaT) : Prop where
  hd : h.Disks[h.Group.Lead.toNat]? = some d
  hy : h.Group.Reps[h.Group.Lead.toNat]? = some y
  lo : 0 ≤ h.Group.Lead
  lt : h.Group.Lead.toNat < h.Disks.length
  up : okUp h.Group h.Group.Lead true = true
  loose : d.Loose = []
  kept : d.Kept.length ≤ 45000
  ent : entIn (newE h.Group r)
  e7 : (entB (newE h.Group r)).length ≤ 700
theorem put_group {g : GroupT} {r : RecT} (h : okPut g r = true) : okGroup g = true ∧ (0 ≤ g.Lead ∧ (lenLead g < 60 ∧ okRec r = true)) := by
  unfold okPut at h
  simpa only [Bool.and_eq_true, decide_eq_true_eq] using h
theorem lead_up {g : GroupT} (hg : okGroup g = true) (h0 : 0 ≤ g.Lead) : okUp g g.Lead true = true := by
  have hl := (okG_of hg).lead
  unfold okLead at hl
  simp only [Bool.or_eq_true, Bool.and_eq_true, decide_eq_true_eq] at hl
  rcases hl with hl | hl
  · omega
  · exact upI hg hl.1 hl.2
theorem fits_upD {t : Int} {x : ReplicaT} {d : DiskT} (h : fitsD t x d = true) (hu : x.Up = true) : onK d = x.Log ∧ (frames d.Kept 0).2 = d.Kept.length := by
  unfold fitsD at h
  rw [Bool.and_eq_true] at h
  have h2 := h.2
  change fitsL t x (onK d) _ _ = true at h2
  unfold fitsL at h2
  rw [hu] at h2
  simp only [Bool.and_eq_true, decide_eq_true_eq] at h2
  exact ⟨h2.1, by omega⟩
theorem kept_len {d : DiskT} (h : (frames d.Kept 0).2 = d.Kept.length) : d.Kept = ((frames d.Kept 0).1.map frB).flatten ∧ d.Kept.length ≤ 708 * (onK d).length := by
  obtain ⟨h1, h2, h3⟩ := frames_back0 d.Kept
  rw [h, List.take_length] at h1
  refine ⟨h1.symm, ?_⟩
  have h4 := flat_size h3
  rw [h1] at h4
  unfold onK
  rw [List.length_map]
  exact h4
theorem entB_7 {e : EntryT} (h : okRec e.Rec = true) (h0 : 0 ≤ e.Term) (h1 : e.Term ≤ 200) : (entB e).length ≤ 700 := by
  have a1 := recB_tiny h
  have a2 := numB_five (n := e.Term) h0 (by omega)
  unfold entB
  rw [List.length_append]; omega
theorem tear_ok {h : HouseT} {r : RecT} (o : OkH h) (hrw : r.w ≤ 1048576) (hp : okPut h.Group r = true) : ∃ d y, TearOk h r d y := by
  obtain ⟨hg, h0, hlen, hr⟩ := put_group hp
  have hlt := (okLead_lt hg (by omega)).2
  have hup := lead_up hg h0
  have hy : h.Group.Reps[h.Group.Lead.toNat]? = some h.Group.Reps[h.Group.Lead.toNat] := List.getElem?_eq_getElem hlt
  have hd : h.Disks[h.Group.Lead.toNat]? = some (h.Disks[h.Group.Lead.toNat]'(by rw [o.len]; exact hlt)) := List.getElem?_eq_getElem _
  have hf := o.pair _ _ _ hy hd
  have hyu : (h.Group.Reps[h.Group.Lead.toNat]).Up = true := by
    have q := hup
    unfold okUp at q
    simp only [Bool.and_eq_true] at q
    have q2 := q.2.2
    rw [upAt_of hy] at q2
    simpa using q2
  obtain ⟨f1, f2⟩ := fits_upD hf hyu
  have k1 := (kept_len f2).2
  have hlog := (okLog_mem (t := h.Group.Term) (l := (h.Group.Reps[h.Group.Lead.toNat]).Log) (by
    have q := (okG_of hg).rep _ (List.mem_of_getElem? hy)
    unfold okRep at q
    simp only [Bool.and_eq_true] at q
    exact q.1)).1
  have hterm := (okG_of hg).term
  refine ⟨_, _, hd, hy, h0, by rw [o.len]; exact hlt, hup, (mendB_of (fitsD_mend hf).1).2.1, ?_, ⟨hr, hterm, hrw⟩, entB_7 (e := newE h.Group r) hr hterm.1 hterm.2⟩
  rw [f1] at k1
  omega
theorem tear_fall {h : HouseT} {r : RecT} {d : DiskT} {y : ReplicaT} (t : TearOk h r d y) {k : Int} : okFall ⟨d.Kept, tearB h r⟩ k = inB 0 k ((tearB h r).length : Int) := by
  have h1 := frB_700 t.e7
  have h2 := t.kept
  have o : okDsk ⟨d.Kept, tearB h r⟩ = true := by
    unfold okDsk
    refine decide_eq_true ?_
    show (d.Kept.length : Int) + ((frB (entB (newE h.Group r))).length : Int) ≤ 50000
    omega
  unfold okFall
  rw [o]
  rfl
theorem tearI_no {h : HouseT} {r : RecT} {k : Int} {torn : Bool} (e : okPut h.Group r = false ∨ inB 0 k ((tearB h r).length : Int) = false) : okTearI h r k = false ∧ tearI h r k torn = zeroH := by
  have q : okTearI h r k = false := by unfold okTearI; rcases e with e | e <;> rw [e] <;> simp
  exact ⟨q, by unfold tearI; rw [resH_no q]⟩
theorem tearI_yes {h : HouseT} {r : RecT} {k : Int} {torn : Bool} (e1 : okPut h.Group r = true) (e2 : inB 0 k ((tearB h r).length : Int) = true) : okTearI h r k = true ∧ tearI h r k torn = tearH h r k torn := by
  have q : okTearI h r k = true := by unfold okTearI; rw [e1, e2]; rfl
  exact ⟨q, by unfold tearI; rw [resH_yes q]⟩
theorem putR_at {h : HouseT} {r : RecT} {d : DiskT} {y : ReplicaT} (t : TearOk h r d y) (hp : okPut h.Group r = true) : (putR h.Group r).Reps[h.Group.Lead.toNat]? = some (putE h.Group r y) := by
  rw [putR_yes hp]
  exact setRep_at t.hy
theorem ix_lastE {L : List EntryT} {e : EntryT} {n : Int} {Q : List AV → Prop} (hn : n = (L.length : Int)) (hQ : Q e.cells) : 0 ≤ n ∧ ∃ z, ((L ++ [e]).map EntryT.cells)[n.toNat]? = some z ∧ Q z := by
  subst hn
  exact ⟨by omega, e.cells, by simp, hQ⟩
theorem c_impl_tearHouse_no (h : HouseT) (r : RecT) (k : Int) (torn : Bool) (hok : h.ok) (hb : HB h) (rok : r.ok) (hrw : r.w ≤ 1048576) (hp : okPut h.Group r = false) :
    PC Tryz.prog false 61 [.agg h.cells, .agg r.cells, .int .i64 k, .bool torn] (.tup [.agg [.own 0, .int .i64 0, .int .i64 0, .own 1], .bool false]) [⟨.deep ReplicaT.shp, 90, 3, []⟩, ⟨.deep DiskT.shp, 92, 2, []⟩] := by
  refine pc_at Tryz.func61 rfl (by kernel_rfl) 85 [.cell 8 41, .tmp 9] rfl rfl ?_
  repeat' (conv => whnf); first
 | refine nameB_no (b := okPut h.Group r) hp ?_
 | refine nameB_true ?_
 | refine splitB_true ?_
 | refine CallT (c_impl_PutEntryT h.Group r hok.1 hb.gb rok (rec_len hrw).1 (rec_len hrw).2) rfl rfl rfl rfl (Nat.le_of_ble_eq_true rfl) ?_
 | refine side_and (side_of (by first | (and_intros <;> first | exact Nat.le_of_ble_eq_true rfl | rfl | omega | (simp only [lensB, lensC]; omega) | exact bytes_ok (Nat.le_of_ble_eq_true rfl) (by omega) (by simp only [lensB, lensC]; omega) | exact bytes_okN (Nat.le_of_ble_eq_true rfl) (by simp only [lensB, lensC]; omega)) | fail)) ?_
 | fail
  all_goals
    conv => whnf
    refine OutA_nilB 32 1 90 3 0 rfl rfl rfl (by decide) ?_
    refine OutA_nilB 32 2 92 2 3 rfl rfl rfl (by decide) ?_
    refine OutA_prom [(1, ReplicaT.shp), (2, DiskT.shp)] ⟨⟨_, _, _, rfl, prom_nil⟩, ⟨_, _, _, rfl, prom_nil⟩, trivial⟩ ?_
    conv => whnf
    exact OutA_deep rfl rfl rfl ⟨⟨rfl, rfl⟩, ⟨⟨rfl, rfl⟩, trivial⟩⟩ rfl
theorem c_impl_tearHouse_yes (h : HouseT) (r : RecT) (k : Int) (torn : Bool) (d : DiskT) (y : ReplicaT) (hok : h.ok) (hb : HB h) (rok : r.ok) (hrw : r.w ≤ 1048576) (hp : okPut h.Group r = true) (t : TearOk h r d y) :
    PC Tryz.prog false 61 [.agg h.cells, .agg r.cells, .int .i64 k, .bool torn] (.tup [.agg [.own 0, .int .i64 (tearI h r k torn).Group.Term, .int .i64 (tearI h r k torn).Group.Lead, .own 1], .bool (okTearI h r k)]) [⟨.deep ReplicaT.shp, 90, 3, (tearI h r k torn).Group.Reps.map ReplicaT.cells⟩, ⟨.deep DiskT.shp, 92, 2, (tearI h r k torn).Disks.map DiskT.cells⟩] := by
  have hpa := putR_at t hp
  have hf := tear_fall t (k := k)
  have hf7 := frB_700 t.e7
  have hdl := hb.dl
  have hyl : y.Log.length ≤ 1048575 := hb.log y (List.mem_of_getElem? t.hy)
  have hwd : (⟨d.Kept, tearB h r⟩ : DiskT).w ≤ 1048576 := by have := t.kept; show d.Kept.length + (frB (entB (newE h.Group r))).length ≤ _; omega
  have hw1 : IntKind.i64.wrap ((((y.Log ++ [newE h.Group r]).map EntryT.cells).length : Int) - 1) = (y.Log.length : Int) := by
    rw [List.length_map, List.length_append, List.length_singleton, i64w (by omega) (by omega)]; omega
  refine pc_at Tryz.func61 rfl (by kernel_rfl) 85 [.cell 8 41, .tmp 9] rfl rfl ?_
  repeat' (conv => whnf); first
 | refine nameB_yes (b := okPut h.Group r) hp ?_
 | refine nameB_yes (b := okUp h.Group h.Group.Lead true) t.up ?_
 | refine ix_re (f := ReplicaT.cells) t.lo hpa ?_
 | refine ix_re (f := DiskT.cells) t.lo t.hd ?_
 | refine ix_lastE (L := y.Log) (e := newE h.Group r) hw1 ?_
 | (refine ix_own (f := DiskT.cells) (xs := h.Disks) t.lt (fun z hz => ?_))
 | exact side_of (by rw [List.length_map]; exact ⟨t.lo, by have := t.lt; have := t.lo; omega⟩)
 | refine nameB_true ?_
 | refine nameB_false ?_
 | refine splitB_true ?_
 | refine splitB_false ?_
 | refine draw_text (by kernel_rfl) (by kernel_rfl) (by kernel_rfl) ?_
 | refine CallT (c_impl_PutEntryT h.Group r hok.1 hb.gb rok (rec_len hrw).1 (rec_len hrw).2) rfl rfl rfl rfl (Nat.le_of_ble_eq_true rfl) ?_
 | (rcases hk : inB 0 k ((tearB h r).length : Int) with _ | _ <;> first | refine Call0 (c_impl_FallDisk_no ⟨d.Kept, tearB h r⟩ k torn hwd (hf.trans hk)) rfl rfl ?_ | refine Call0 (c_impl_FallDisk_ok ⟨d.Kept, tearB h r⟩ k torn (hf.trans hk)) rfl rfl ?_)
 | refine CallF (c_Clone_Disk h.Disks hdl) rfl rfl rfl (Nat.le_of_ble_eq_true rfl) ?_
 | refine CallF (c_impl_CrashRep h.Group h.Group.Lead hok.1 hb.gb) rfl rfl rfl (Nat.le_of_ble_eq_true rfl) ?_
 | refine CallD0 (c_impl_entryBytes0 (newE h.Group r) t.ent) rfl rfl rfl ?_
 | refine CallD0 (c_impl_WriteDisk d (entB (newE h.Group r)) t.loose (by have := t.kept; omega) t.e7) rfl rfl rfl ?_
 | refine side_and (side_of (by first | (and_intros <;> first | exact Nat.le_of_ble_eq_true rfl | rfl | omega | (simp only [lensB, lensC]; omega) | exact bytes_ok (Nat.le_of_ble_eq_true rfl) (by omega) (by simp only [lensB, lensC]; omega) | exact bytes_okN (Nat.le_of_ble_eq_true rfl) (by simp only [lensB, lensC]; omega)) | fail)) ?_
 | refine side_and ?_ ?_
 | refine LoadK_of rfl rfl ?_
 | fail
  all_goals
    conv => whnf
    first
    | (obtain ⟨e1, e2⟩ := tearI_no (torn := torn) (.inr (a := okPut h.Group r = false) hk)
       rw [e1, e2]
       refine OutA_nilB 32 1 90 3 0 rfl rfl rfl (by decide) ?_
       refine OutA_nilB 32 2 92 2 3 rfl rfl rfl (by decide) ?_
       refine OutA_prom [(1, ReplicaT.shp), (2, DiskT.shp)] ⟨⟨_, _, _, rfl, prom_nil⟩, ⟨_, _, _, rfl, prom_nil⟩, trivial⟩ ?_
       conv => whnf
       exact OutA_deep rfl rfl rfl ⟨⟨rfl, rfl⟩, ⟨⟨rfl, rfl⟩, trivial⟩⟩ rfl)
    | (obtain ⟨e1, e2⟩ := tearI_yes (torn := torn) hp hk
       rw [e1, e2]
       refine OutA_prom [(40992, DiskT.shp)] ⟨⟨_, _, _, rfl, prom_set (sh := DiskT.shp) (c := (⟨d.Kept ++ tornB (tearB h r) k.toNat torn, []⟩ : DiskT).cells) (prom_map (fun _ => rfl)) rfl⟩, trivial⟩ ?_
       conv => whnf
       exact OutA_deep rfl rfl rfl ⟨⟨rfl, rfl⟩, ⟨⟨congrArg (fun e => some (AObj.mk _ _ _ e)) (set_dsk (d := tearD h r k torn) (by unfold tearD; rw [dskOf_of t.hd]; rfl)), rfl⟩, trivial⟩⟩ rfl)
theorem c_impl_tearHouse (h : HouseT) (r : RecT) (k : Int) (torn : Bool) (hok : h.ok) (hb : HB h) (rok : r.ok) (hrw : r.w ≤ 1048576) (hh : okHouse h = true) :
    PC Tryz.prog false 61 [.agg h.cells, .agg r.cells, .int .i64 k, .bool torn] (.tup [.agg [.own 0, .int .i64 (tearI h r k torn).Group.Term, .int .i64 (tearI h r k torn).Group.Lead, .own 1], .bool (okTearI h r k)]) [⟨.deep ReplicaT.shp, 90, 3, (tearI h r k torn).Group.Reps.map ReplicaT.cells⟩, ⟨.deep DiskT.shp, 92, 2, (tearI h r k torn).Disks.map DiskT.cells⟩] := by
  cases hp : okPut h.Group r with
  | false =>
    obtain ⟨e1, e2⟩ := tearI_no (k := k) (torn := torn) (.inl hp)
    rw [e1, e2]
    exact c_impl_tearHouse_no h r k torn hok hb rok hrw hp
  | true =>
    obtain ⟨d, y, t⟩ := tear_ok (okH_of hh) hrw hp
    exact c_impl_tearHouse_yes h r k torn d y hok hb rok hrw hp t
def okTear (h : HouseT) (r : RecT) (k : Int) : Bool := okHouse h && okTearI h r k
def tearA (h : HouseT) (r : RecT) (k : Int) (torn : Bool) : HouseT := resH (okTear h r k) (tearH h r k torn)
theorem tearA_yes {h : HouseT} {r : RecT} {k : Int} {torn : Bool} (hh : okHouse h = true) : okTear h r k = okTearI h r k ∧ tearA h r k torn = tearI h r k torn := by
  have e : okTear h r k = okTearI h r k := by unfold okTear; rw [hh]; rfl
  exact ⟨e, by unfold tearA tearI; rw [e]⟩
theorem tearA_no {h : HouseT} {r : RecT} {k : Int} {torn : Bool} (hh : okHouse h = false) : okTear h r k = false ∧ tearA h r k torn = zeroH := by
  have e : okTear h r k = false := by unfold okTear; rw [hh]; rfl
  exact ⟨e, by unfold tearA; rw [resH_no e]⟩
theorem c_impl_TearHouse (h : HouseT) (r : RecT) (k : Int) (torn : Bool) (hok : h.ok) (hb : HB h) (rok : r.ok) (hrw : r.w ≤ 1048576) :
    PC Tryz.prog false 41 [.agg h.cells, .agg r.cells, .int .i64 k, .bool torn] (.tup [.agg [.own 0, .int .i64 (tearA h r k torn).Group.Term, .int .i64 (tearA h r k torn).Group.Lead, .own 1], .bool (okTear h r k)]) [⟨.deep ReplicaT.shp, 90, 3, (tearA h r k torn).Group.Reps.map ReplicaT.cells⟩, ⟨.deep DiskT.shp, 92, 2, (tearA h r k torn).Disks.map DiskT.cells⟩] := by
  cases hh : okHouse h with
  | false =>
    obtain ⟨e1, e2⟩ := tearA_no (r := r) (k := k) (torn := torn) hh
    rw [e1, e2]
    refine pc_at Tryz.func41 rfl (by kernel_rfl) 21 [.cell 8 41, .tmp 9] rfl rfl ?_
    repeat' (conv => whnf); first
 | refine nameB_no (b := okHouse h) hh ?_
 | refine nameB_true ?_
 | refine splitB_true ?_
 | refine Call0 (c_impl_GoodHouse h hok hb) rfl rfl ?_
 | refine side_and (side_of (by first | (and_intros <;> first | exact Nat.le_of_ble_eq_true rfl | rfl | omega | (simp only [lensB, lensC]; omega) | exact bytes_ok (Nat.le_of_ble_eq_true rfl) (by omega) (by simp only [lensB, lensC]; omega) | exact bytes_okN (Nat.le_of_ble_eq_true rfl) (by simp only [lensB, lensC]; omega)) | fail)) ?_
 | fail
    all_goals
      conv => whnf
      refine OutA_nilB 32 1 90 3 0 rfl rfl rfl (by decide) ?_
      refine OutA_nilB 32 2 92 2 3 rfl rfl rfl (by decide) ?_
      refine OutA_prom [(1, ReplicaT.shp), (2, DiskT.shp)] ⟨⟨_, _, _, rfl, prom_nil⟩, ⟨_, _, _, rfl, prom_nil⟩, trivial⟩ ?_
      conv => whnf
      exact OutA_deep rfl rfl rfl ⟨⟨rfl, rfl⟩, ⟨⟨rfl, rfl⟩, trivial⟩⟩ rfl
  | true =>
    obtain ⟨e1, e2⟩ := tearA_yes (r := r) (k := k) (torn := torn) hh
    rw [e1, e2]
    refine pc_at Tryz.func41 rfl (by kernel_rfl) 21 [.cell 8 41, .tmp 9] rfl rfl ?_
    repeat' (conv => whnf); first
 | refine nameB_yes (b := okHouse h) hh ?_
 | refine nameB_self (b := okTearI h r k) ?_
 | refine nameB_false ?_
 | refine splitB_false ?_
 | refine Call0 (c_impl_GoodHouse h hok hb) rfl rfl ?_
 | refine CallF (c_impl_tearHouse h r k torn hok hb rok hrw hh) rfl rfl rfl (Nat.le_of_ble_eq_true rfl) ?_
 | refine side_and (side_of (by first | (and_intros <;> first | exact Nat.le_of_ble_eq_true rfl | rfl | omega | (simp only [lensB, lensC]; omega) | exact bytes_ok (Nat.le_of_ble_eq_true rfl) (by omega) (by simp only [lensB, lensC]; omega) | exact bytes_okN (Nat.le_of_ble_eq_true rfl) (by simp only [lensB, lensC]; omega)) | fail)) ?_
 | fail
    all_goals
      conv => whnf
      exact OutA_deep rfl rfl rfl ⟨⟨rfl, rfl⟩, ⟨⟨rfl, rfl⟩, trivial⟩⟩ rfl
theorem c_spec_TearHouse_no (h : HouseT) (r : RecT) (k : Int) (torn : Bool) (hok : h.ok) (hb : HB h) (rok : r.ok) (hrw : r.w ≤ 1048576) (hh : okHouse h = true) (hp : okPut h.Group r = false) :
    PC Tryz.prog true 39 [.agg h.cells, .agg r.cells, .int .i64 k, .bool torn] (.tup [.agg [.sl [], .int .i64 0, .int .i64 0, .sl []], .bool false]) [] := by
  refine pc_at Tryz.func39 rfl (by kernel_rfl) 79 [.cell 8 41, .tmp 9] rfl rfl ?_
  repeat' (conv => whnf); first
 | refine nameB_yes (b := okHouse h) hh ?_
 | refine nameB_no (b := okPut h.Group r) hp ?_
 | refine nameB_true ?_
 | refine nameB_false ?_
 | refine splitB_true ?_
 | refine splitB_false ?_
 | refine CallT (c_spec_l11Good h hok hb) rfl rfl rfl rfl (Nat.le_of_ble_eq_true rfl) ?_
 | refine CallF (c_spec_PutEntryD h.Group r hok.1 hb.gb rok (rec_len hrw).1 (rec_len hrw).2) rfl rfl rfl (Nat.le_of_ble_eq_true rfl) ?_
 | refine side_and (side_of (by first | (and_intros <;> first | exact Nat.le_of_ble_eq_true rfl | rfl | omega | (simp only [lensB, lensC]; omega) | exact bytes_ok (Nat.le_of_ble_eq_true rfl) (by omega) (by simp only [lensB, lensC]; omega) | exact bytes_okN (Nat.le_of_ble_eq_true rfl) (by simp only [lensB, lensC]; omega)) | fail)) ?_
 | fail
  all_goals
    conv => whnf
    refine OutA_nilB 32 1 90 3 0 rfl rfl rfl (by decide) ?_
    refine OutA_nilB 32 2 92 2 3 rfl rfl rfl (by decide) ?_
    refine OutA_frz [1, 2] ?_
    conv => whnf
    exact OutA_plain rfl rfl rfl
theorem c_spec_TearHouse_bad (h : HouseT) (r : RecT) (k : Int) (torn : Bool) (hok : h.ok) (hb : HB h) (hh : okHouse h = false) :
    PC Tryz.prog true 39 [.agg h.cells, .agg r.cells, .int .i64 k, .bool torn] (.tup [.agg [.sl [], .int .i64 0, .int .i64 0, .sl []], .bool false]) [] := by
  refine pc_at Tryz.func39 rfl (by kernel_rfl) 79 [.cell 8 41, .tmp 9] rfl rfl ?_
  repeat' (conv => whnf); first
 | refine nameB_no (b := okHouse h) hh ?_
 | refine nameB_true ?_
 | refine splitB_true ?_
 | refine CallT (c_spec_l11Good h hok hb) rfl rfl rfl rfl (Nat.le_of_ble_eq_true rfl) ?_
 | refine side_and (side_of (by first | (and_intros <;> first | exact Nat.le_of_ble_eq_true rfl | rfl | omega | (simp only [lensB, lensC]; omega) | exact bytes_ok (Nat.le_of_ble_eq_true rfl) (by omega) (by simp only [lensB, lensC]; omega) | exact bytes_okN (Nat.le_of_ble_eq_true rfl) (by simp only [lensB, lensC]; omega)) | fail)) ?_
 | fail
  all_goals
    conv => whnf
    refine OutA_nilB 32 1 90 3 0 rfl rfl rfl (by decide) ?_
    refine OutA_nilB 32 2 92 2 3 rfl rfl rfl (by decide) ?_
    refine OutA_frz [1, 2] ?_
    conv => whnf
    exact OutA_plain rfl rfl rfl
theorem c_spec_TearHouse_yes (h : HouseT) (r : RecT) (k : Int) (torn : Bool) (d : DiskT) (y : ReplicaT) (hok : h.ok) (hb : HB h) (rok : r.ok) (hrw : r.w ≤ 1048576) (hh : okHouse h = true) (hp : okPut h.Group r = true) (t : TearOk h r d y) :
    PC Tryz.prog true 39 [.agg h.cells, .agg r.cells, .int .i64 k, .bool torn] (.tup [.agg (tearI h r k torn).cells, .bool (okTearI h r k)]) [] := by
  have hf := tear_fall t (k := k)
  have hdl := hb.dl
  refine pc_at Tryz.func39 rfl (by kernel_rfl) 79 [.cell 8 41, .tmp 9] rfl rfl ?_
  repeat' (conv => whnf); first
 | refine nameB_yes (b := okHouse h) hh ?_
 | refine nameB_yes (b := okPut h.Group r) hp ?_
 | refine nameB_yes (b := okUp h.Group h.Group.Lead true) t.up ?_
 | (refine nameB_cases (b := inB 0 k ((tearB h r).length : Int)) (fun hk => ?_) (fun hk => ?_))
 | refine ix_re (f := DiskT.cells) t.lo t.hd ?_
 | (refine ix_own (f := DiskT.cells) (xs := h.Disks) t.lt (fun z hz => ?_))
 | exact side_of (by rw [List.length_map]; exact ⟨t.lo, by have := t.lt; have := t.lo; omega⟩)
 | refine nameB_true ?_
 | refine nameB_false ?_
 | refine splitB_true ?_
 | refine splitB_false ?_
 | refine draw_text (by kernel_rfl) (by kernel_rfl) (by kernel_rfl) ?_
 | refine CallT (c_spec_l11Good h hok hb) rfl rfl rfl rfl (Nat.le_of_ble_eq_true rfl) ?_
 | refine CallF (c_spec_PutEntryD h.Group r hok.1 hb.gb rok (rec_len hrw).1 (rec_len hrw).2) rfl rfl rfl (Nat.le_of_ble_eq_true rfl) ?_
 | refine Call0 (c_spec_l11Bytes0 (newE h.Group r) t.ent) rfl rfl ?_
 | refine Call0 (c_spec_l6FrameW (entB (newE h.Group r)) (by have := t.e7; omega)) rfl rfl ?_
 | refine Call0 (c_spec_l1In ..) rfl rfl ?_
 | refine CallT (c_spec_CrashRep h.Group h.Group.Lead hok.1 hb.gb) rfl rfl rfl rfl (Nat.le_of_ble_eq_true rfl) ?_
 | refine CallD0 (c_spec_FallDisk_ok ⟨d.Kept, tearB h r⟩ k torn (hf.trans hk)) rfl rfl rfl ?_
 | refine side_and (side_of (by first | (and_intros <;> first | exact Nat.le_of_ble_eq_true rfl | rfl | omega | (simp only [lensB, lensC]; omega) | exact bytes_ok (Nat.le_of_ble_eq_true rfl) (by omega) (by simp only [lensB, lensC]; omega) | exact bytes_okN (Nat.le_of_ble_eq_true rfl) (by simp only [lensB, lensC]; omega)) | fail)) ?_
 | refine side_and (side_of (map_len (fun _ => rfl))) ?_
 | refine side_and (side_of (map_one (fun _ => rfl) _)) ?_
 | refine side_and ?_ ?_
 | refine LoadK_of rfl rfl ?_
 | fail
  all_goals
    conv => whnf
    first
    | (obtain ⟨e1, e2⟩ := tearI_no (torn := torn) (.inr (a := okPut h.Group r = false) (by assumption))
       rw [e1, e2]
       refine OutA_nilB 32 1 90 3 0 rfl rfl rfl (by decide) ?_
       refine OutA_nilB 32 2 92 2 3 rfl rfl rfl (by decide) ?_
       refine OutA_frz [1, 2] ?_
       conv => whnf
       exact OutA_plain rfl rfl rfl)
    | (obtain ⟨e1, e2⟩ := tearI_yes (torn := torn) hp (by assumption)
       rw [e1, e2]
       refine OutA_frz [45120] ?_
       conv => whnf
       exact OutA_plain rfl rfl (congrArg (fun e => AV.tup [.agg [.sl ((crashR h.Group h.Group.Lead).Reps.map ReplicaT.cells), .int .i64 (crashR h.Group h.Group.Lead).Term, .int .i64 (crashR h.Group h.Group.Lead).Lead, .sl e], .bool true]) (set_dsk (d := tearD h r k torn) (by unfold tearD; rw [dskOf_of t.hd]; rfl))))
theorem c_spec_TearHouse (h : HouseT) (r : RecT) (k : Int) (torn : Bool) (hok : h.ok) (hb : HB h) (rok : r.ok) (hrw : r.w ≤ 1048576) :
    PC Tryz.prog true 39 [.agg h.cells, .agg r.cells, .int .i64 k, .bool torn] (.tup [.agg (tearA h r k torn).cells, .bool (okTear h r k)]) [] := by
  cases hh : okHouse h with
  | false =>
    obtain ⟨e1, e2⟩ := tearA_no (r := r) (k := k) (torn := torn) hh
    rw [e1, e2]
    exact c_spec_TearHouse_bad h r k torn hok hb hh
  | true =>
    obtain ⟨e1, e2⟩ := tearA_yes (r := r) (k := k) (torn := torn) hh
    rw [e1, e2]
    cases hp : okPut h.Group r with
    | false =>
      obtain ⟨e1, e2⟩ := tearI_no (k := k) (torn := torn) (.inl hp)
      rw [e1, e2]
      exact c_spec_TearHouse_no h r k torn hok hb rok hrw hh hp
    | true =>
      obtain ⟨d, y, t⟩ := tear_ok (okH_of hh) hrw hp
      exact c_spec_TearHouse_yes h r k torn d y hok hb rok hrw hh hp t
theorem tearD_db {h : HouseT} {r : RecT} {d : DiskT} {y : ReplicaT} (t : TearOk h r d y) {k : Int} {torn : Bool} (hk : inB 0 k ((tearB h r).length : Int) = true) : DB (tearD h r k torn) := by
  have hb := inB_le' hk
  have h1 := frB_700 t.e7
  have h2 : (tearB h r).length ≤ 708 := h1
  have h3 := tornB_len (b := tearB h r) (k := k.toNat) (torn := torn) (by omega)
  have h4 := t.kept
  have e : (tearD h r k torn).Kept.length = d.Kept.length + k.toNat := by unfold tearD; rw [dskOf_of t.hd]; show (d.Kept ++ _).length = _; rw [List.length_append, h3]
  exact ⟨⟨by show (tearD h r k torn).Kept.length ≤ 9223372036854775807; omega, Nat.zero_le _⟩, by show (tearD h r k torn).Kept.length + 0 ≤ _; omega⟩
theorem tearI_HG {h : HouseT} {r : RecT} {k : Int} {torn : Bool} (hok : h.ok) (hb : HB h) (hh : okHouse h = true) (hrw : r.w ≤ 1048576) (hgw : h.Group.w ≤ 1048576) : HG (tearI h r k torn) := by
  cases hp : okPut h.Group r with
  | false => rw [(tearI_no (h := h) (.inl hp)).2]; exact zeroH_HG
  | true =>
    cases hk : inB 0 k ((tearB h r).length : Int) with
    | false => rw [(tearI_no (h := h) (.inr hk)).2]; exact zeroH_HG
    | true =>
      have o := okH_of hh
      obtain ⟨d, y, t⟩ := tear_ok o hrw hp
      rw [(tearI_yes hp hk).2]
      have pg0 : PG h.Group.w h.Group := PG.of hok.1 o.g (Nat.le_refl _)
      have pg : PG 2097152 (crashR h.Group h.Group.Lead) := by
        rw [crashR, resG_yes t.up]
        exact pg0.set (by omega) fun x hx => ⟨⟨trivial, (pg0.rep hx).1.2.1, trivial⟩, Nat.le_trans (pg0.rep hx).2 (by omega)⟩
      exact ⟨pg, by show (List.set _ _ _).length ≤ 5; rw [List.length_set, o.len]; exact okG_len o.g, ds_set (house_db hok hb) (tearD_db t hk)⟩
theorem tearA_HG {h : HouseT} {r : RecT} {k : Int} {torn : Bool} (hok : h.ok) (hw : h.w + r.w ≤ 1048576) : (tearA h r k torn).ok ∧ (tearA h r k torn).w ≤ 1000000000000 := by
  cases hh : okHouse h with
  | false => rw [(tearA_no hh).2]; exact zeroH_HG.okw
  | true =>
    rw [(tearA_yes hh).2]
    have e : h.w = h.Group.w + wL DiskT.w h.Disks := rfl
    exact (tearI_HG hok (hb_of (by omega)) hh (by omega) (by omega)).okw
theorem law_TearHouse (a W : HouseT) (x : RecT) (k : Int) (torn : Bool) (b : Bool) (hok : a.ok) (hx : x.ok) (hW : W.ok) (hww : W.w ≤ 1000000000000)
    (hS : a.w + x.w ≤ 1048576 → PC Tryz.prog true 39 [.agg a.cells, .agg x.cells, .int .i64 k, .bool torn] (.tup [.agg W.cells, .bool b]) [])
    (hI : a.w + x.w ≤ 1048576 → PC Tryz.prog false 41 [.agg a.cells, .agg x.cells, .int .i64 k, .bool torn] (.tup [.agg [.own 0, .int .i64 W.Group.Term, .int .i64 W.Group.Lead, .own 1], .bool b]) [⟨.deep ReplicaT.shp, 90, 3, W.Group.Reps.map ReplicaT.cells⟩, ⟨.deep DiskT.shp, 92, 2, W.Disks.map DiskT.cells⟩]) :
    PC Tryz.prog false 7 [.agg a.cells, .agg x.cells, .int .i64 k, .bool torn] (.bool true) [] := by
  have hm1 := HouseT.cntS_w a 1
  have hm2 := HouseT.cntS_w W 1
  have hm0 : 1 ≤ HouseT.cntS a 1 := by unfold HouseT.cntS; omega
  have hm3 := RecT.cntS_w x (HouseT.cntS a 1)
  refine pc_at Tryz.func7 rfl (by kernel_rfl) 129 [.tmp 8] rfl rfl ?_
  repeat' (conv => whnf); first
 | refine nameB_self (b := b) ?_
 | refine nameB_no (b := !(b == b)) (by simp) ?_
 | refine nameB_dno (by omega) ?_
 | refine nameB_true ?_
 | refine nameB_false ?_
 | (refine nameB_cases (fun h => ?_) (fun h => ?_) <;> try simp only [nmL, lensB] at h)
 | refine splitB_true ?_
 | refine splitB_false ?_
 | refine draw_text (by kernel_rfl) (by kernel_rfl) (by kernel_rfl) ?_
 | (by_cases hn : (1048576 : Int) - ((HouseT.w a : Nat) : Int) < 0 <;> first | refine Call0 (pc_szneg (c_laws_szHouse a (1048576 : Int) (by omega) (by omega) hok) hn) rfl rfl ?_ | refine Call0 (pc_szpos (c_laws_szHouse a (1048576 : Int) (by omega) (by omega) hok) hn) rfl rfl ?_)
 | (by_cases hn : (1048576 - ((HouseT.w a : Nat) : Int)) - ((RecT.w x : Nat) : Int) < 0 <;> first | refine Call0 (pc_szneg (c_laws_szRec x (1048576 - ((HouseT.w a : Nat) : Int)) (by omega) (by omega) hx) hn) rfl rfl ?_ | refine Call0 (pc_szpos (c_laws_szRec x (1048576 - ((HouseT.w a : Nat) : Int)) (by omega) (by omega) hx) hn) rfl rfl ?_)
 | refine CallF (hI (by omega)) rfl rfl rfl (Nat.le_of_ble_eq_true rfl) ?_
 | refine CallF (c_laws_toHouse a (by omega)) rfl rfl rfl (Nat.le_of_ble_eq_true rfl) ?_
 | refine CallF (c_laws_toRec x (by omega)) rfl rfl rfl (Nat.le_of_ble_eq_true rfl) ?_
 | refine Call0 (pc_true (c_laws_eqHouse W W hW) rfl) rfl rfl ?_
 | refine CallMs (m_laws_markHouse a 1 (by omega) (by omega)) [] trivial rfl rfl ?_
 | refine CallMs (m_laws_markRec x (HouseT.cntS a 1) (by omega) (by omega)) [] trivial rfl rfl ?_
 | refine CallMs (m_laws_markHouse W 1 (by omega) (by omega)) [] trivial rfl rfl ?_
 | refine Call0 (c_laws_heldHouse W 1 (by omega) (by omega)) rfl rfl ?_
 | refine CallDT (hS (by omega)) rfl rfl rfl ⟨rfl, rfl⟩ ?_
 | refine CallDT (nid := 32784) (c_laws_toHouse_ro a (by omega)) rfl rfl rfl ⟨rfl, rfl⟩ ?_
 | refine CallDT (nid := 32816) (c_laws_toRec_ro x (by omega)) rfl rfl rfl ⟨rfl, rfl⟩ ?_
 | refine CallDF (hI (by omega)) rfl rfl ⟨rfl, rfl⟩ ?_
 | refine CallDF (c_laws_toHouse a (by omega)) rfl rfl ⟨rfl, rfl⟩ ?_
 | refine CallDF (c_laws_toRec x (by omega)) rfl rfl ⟨rfl, rfl⟩ ?_
 | refine CallD0 (pc_true (c_laws_eqHouse a a hok) rfl) rfl rfl rfl ?_
 | refine CallD0 (pc_true (c_laws_eqRec x x hx) rfl) rfl rfl rfl ?_
 | refine side_and (side_of (by first | (and_intros <;> first | exact Nat.le_of_ble_eq_true rfl | rfl | omega | (simp only [lensB, lensC]; omega) | exact bytes_ok (Nat.le_of_ble_eq_true rfl) (by omega) (by simp only [lensB, lensC]; omega) | exact bytes_okN (Nat.le_of_ble_eq_true rfl) (by simp only [lensB, lensC]; omega)) | fail)) ?_
 | fail
  all_goals
    conv => whnf
    refine OutA_plain rfl rfl ?_
    first | rfl | (exfalso; omega) | (exfalso; simp at * <;> omega)
theorem c_laws_FnExactTearHouse (a : HouseT) (x : RecT) (k : Int) (torn : Bool) (hok : a.ok) (hx : x.ok) : PC Tryz.prog false 7 [.agg a.cells, .agg x.cells, .int .i64 k, .bool torn] (.bool true) [] := by
  by_cases hw : a.w + x.w ≤ 1048576
  · exact law_TearHouse a (tearA a x k torn) x k torn (okTear a x k) hok hx (tearA_HG hok hw).1 (tearA_HG hok hw).2 (fun h => c_spec_TearHouse a x k torn hok (hb_of (by omega)) hx (by omega)) (fun h => c_impl_TearHouse a x k torn hok (hb_of (by omega)) hx (by omega))
  · exact law_TearHouse a zeroH x k torn false hok hx zeroH_HG.okw.1 zeroH_HG.okw.2 (fun h => absurd h hw) (fun h => absurd h hw)
end Go.Proofs.YtfpkfnfgloonhaaGreat
