/-
  Numbers read and printed by the package strconv, as contracts.
  No condition.
-/
import Derived.Test.YthbheejeloomjaaGreatDoorM5
import Derived.Test.YthbheejeloomjaaGreatDoorLays
import Derived.WalkKit
import Derived.BigCall
import Derived.Below
import Derived.Lib.AppendIntMem
namespace Go.Proofs.YthbheejeloomjaaGreatDoor
open Go.Ab Go.RowKit
set_option linter.unusedSimpArgs false
set_option maxRecDepth 100000
set_option maxHeartbeats 4000000
set_option linter.unusedVariables false

theorem g_pow : Tryz.prog.globalNamed "internal/strconv.uint64pow10" = some 0 := by kernel_rfl
theorem g_syn : Tryz.prog.globalNamed "strconv.ErrSyntax" = some 2 := by kernel_rfl
theorem g_ran : Tryz.prog.globalNamed "strconv.ErrRange" = some 3 := by kernel_rfl
def readI (l : List UInt8) (lo hi : Int) : Int × Bool := match Lib.atoiAll l with
  | .ok v => if (lo ≤ v ∧ v ≤ hi) ∧ Lib.itoa v = l then (v, true) else (0, false)
  | _ => (0, false)
theorem Itoa_calls (n : Int) (h0 : -9223372036854775808 ≤ n) (h1 : n ≤ 9223372036854775807) (w : World) (ht : Tab w fun b => w.heap.size ≤ b) : Calls Tryz.prog 77 #[.int .i64 n] w fun e w' => e = .returned (.string ⟨(Lib.itoa n).toArray⟩) ∧ Below w.heap.size w w' :=
  (Tryz.strconv_Itoa n h0 h1 w (ht.pow.var g_pow)).mono fun e w' ⟨he, k, os, hw⟩ => ⟨he, by rw [hw]; exact Go.Lib.below_grow _ _ (Nat.le_refl _) _ _⟩
theorem c_Itoa (n : Int) (h0 : -9223372036854775808 ≤ n) (h1 : n ≤ 9223372036854775807) : PC Tryz.prog false 77 [.int .i64 n] (.str (Lib.itoa n)) [] := by
  refine ⟨fun w R vals hR hl => ?_⟩
  match vals, hl with
  | [v0], hl =>
    unfold LR at hl
    obtain ⟨q0, _⟩ := hl
    unfold RR at q0
    subst q0
    rw [Ans_body Tryz.func77 rfl rfl]
    refine (Itoa_calls n h0 h1 w hR.tab).mono fun e w' ⟨he, hb⟩ => ?_
    subst he
    refine ⟨_, rfl, fun _ => ⟨undef, []⟩, hb, ⟨?_, fun o h => (by cases h), fun id o h => (by simp at h), fun i j o o' b h => (by simp at h)⟩⟩
    unfold VR; rfl
  | [], hl => unfold LR at hl; exact hl.elim
  | _ :: _ :: _, hl => unfold LR at hl; obtain ⟨_, hl⟩ := hl; unfold LR at hl; exact hl.elim
theorem Atoi_calls (s : ByteArray) (hs : s.size ≤ 281474976710656) (w : World) (ht : Tab w fun b => w.heap.size ≤ b) : Calls Tryz.prog 114 #[.string s] w fun e w' => Below w.heap.size w w' ∧ match Lib.atoiAll s.data.toList with
    | .ok v => e = .returned (.tuple #[.int .i64 v, .nilIface])
    | _ => ∃ z T p, e = .returned (.tuple #[.int .i64 z, .iface T p]) := by
  cases h : Lib.atoiAll s.data.toList
  case ok v =>
    refine (Tryz.strconv_Atoi_ok s (by omega) v h w).mono fun e w' ⟨he, hw⟩ => ⟨?_, he⟩
    rcases hw with rfl | ⟨t, rfl⟩
    · exact Below.refl _ _
    · exact Lib.bytesWorld_below _ _ _
  · obtain ⟨tp, p, hv⟩ := ht.syn
    exact (Tryz.strconv_Atoi_syntax_var s hs h tp p w (hv.var g_syn)).mono fun e w' ⟨N, he, _, _, hb⟩ => ⟨hb, _, _, _, he⟩
  · obtain ⟨tp, p, hv⟩ := ht.ran
    exact (Tryz.strconv_Atoi_range_var s hs h tp p w (hv.var g_ran)).mono fun e w' ⟨N, he, _, _, hb⟩ => ⟨hb, _, _, _, he⟩
theorem readInt_bad (s : ByteArray) (lo hi : Int) (hs : s.size ≤ 281474976710656) (w : World) (ht : Tab w fun b => w.heap.size ≤ b) (h : ∀ v, Lib.atoiAll s.data.toList ≠ .ok v) : Calls Tryz.prog 100 #[.string s, .int .i64 lo, .int .i64 hi] w fun e w' => e = .returned (.tuple #[.int .i64 0, .bool false]) ∧ Below w.heap.size w w' := by
  have hA : Calls Tryz.prog 114 #[.string s] w (fun e w' => Below w.heap.size w w' ∧ ∃ z T p, e = .returned (.tuple #[.int .i64 z, .iface T p])) := (Atoi_calls s hs w ht).mono fun e w' ⟨hb, he⟩ => ⟨hb, by
    cases hh : Lib.atoiAll s.data.toList
    case ok v => exact absurd hh (h v)
    all_goals (rw [hh] at he; exact he)⟩
  go_enter Tryz.func100, Tryz.ntmps100
  go_wp2_with (go_at_call 114; refine hA.mono ?_)
  rintro e W1 ⟨hb, z, T, p, rfl⟩
  go_wp2
  go_ret2
  exact ⟨rfl, hb⟩
theorem below_two {w W1 W2 : World} (h1 : Below w.heap.size w W1) (h2 : Below W1.heap.size W1 W2) : Below w.heap.size w W2 := ⟨h2.os.trans h1.os, h2.tape.trans h1.tape, h2.output.trans h1.output, Nat.le_trans h1.size h2.size, fun k hk => (h2.block k (Nat.lt_of_lt_of_le hk h1.size)).trans (h1.block k hk)⟩
theorem readInt_ok (s : ByteArray) (lo hi v r : Int) (q : Bool) (hs : s.size ≤ 281474976710656) (w : World) (ht : Tab w fun b => w.heap.size ≤ b) (h : Lib.atoiAll s.data.toList = .ok v)
    (h1 : lo ≤ v → v ≤ hi → (!Lib.itoa v == s.toList) = false → r = v ∧ q = true) (h2 : lo ≤ v → v ≤ hi → (!Lib.itoa v == s.toList) = true → r = 0 ∧ q = false) (h3 : ¬ (lo ≤ v ∧ v ≤ hi) → r = 0 ∧ q = false) : Calls Tryz.prog 100 #[.string s, .int .i64 lo, .int .i64 hi] w fun e w' => e = .returned (.tuple #[.int .i64 r, .bool q]) ∧ Below w.heap.size w w' := by
  have hA : Calls Tryz.prog 114 #[.string s] w (fun e w' => Below w.heap.size w w' ∧ e = .returned (.tuple #[.int .i64 v, .nilIface])) := (Atoi_calls s hs w ht).mono fun e w' ⟨hb, he⟩ => ⟨hb, by rw [h] at he; exact he⟩
  obtain ⟨b0, b1⟩ := Lib.atoiAll_bounds h
  have hI := fun w' (hb : Below w.heap.size w w') => Itoa_calls v b0 b1 w' (ht.frame (N' := fun b => w'.heap.size ≤ b) hb.size (fun k hk hn => hb.block k hk) (fun b hb' => Nat.le_trans hb.size hb'))
  clear h
  have h1 := Lib.hid h1
  have h2 := Lib.hid h2
  have h3 := Lib.hid h3
  go_enter Tryz.func100, Tryz.ntmps100
  go_wp2_with (go_at_call 114; refine hA.mono ?_)
  rintro e W1 ⟨hb, rfl⟩
  go_wp2_with (first | (go_at_call 77; refine (hI _ hb).mono ?_) | go_in)
  case isTrue =>
    rintro e W2 ⟨rfl, hb2⟩
    go_wp2
    all_goals go_ret2
    · obtain ⟨rfl, rfl⟩ := h2.out (by assumption) (by assumption) (by assumption)
      exact ⟨rfl, below_two hb hb2⟩
    · obtain ⟨rfl, rfl⟩ := h1.out (by assumption) (by assumption) (by assumption)
      exact ⟨rfl, below_two hb hb2⟩
  all_goals
    go_ret2
    first
    | exact ⟨rfl, hb⟩
    | (obtain ⟨rfl, rfl⟩ := h3.out (by omega); exact ⟨rfl, hb⟩)
theorem ba_list (l : List UInt8) : (⟨l.toArray⟩ : ByteArray).toList = l := by
  rw [ByteArray.toList_eq]
theorem c_impl_readInt (l : List UInt8) (lo hi : Int) (hl : l.length ≤ 1048576) : PC Tryz.prog false 100 [.str l, .int .i64 lo, .int .i64 hi] (.tup [.int .i64 (readI l lo hi).1, .bool (readI l lo hi).2]) [] := by
  refine ⟨fun w R vals hR hv => ?_⟩
  match vals, hv with
  | [v0, v1, v2], hv =>
    unfold LR at hv
    obtain ⟨q0, hv⟩ := hv
    unfold LR at hv
    obtain ⟨q1, hv⟩ := hv
    unfold LR at hv
    obtain ⟨q2, _⟩ := hv
    unfold RR at q0 q1 q2
    subst q0 q1 q2
    rw [Ans_body Tryz.func100 rfl rfl]
    have hsz : (⟨l.toArray⟩ : ByteArray).size ≤ 281474976710656 := by simp [ByteArray.size]; omega
    have key : Calls Tryz.prog 100 #[.string ⟨l.toArray⟩, .int .i64 lo, .int .i64 hi] w fun e w' => e = .returned (.tuple #[.int .i64 (readI l lo hi).1, .bool (readI l lo hi).2]) ∧ Below w.heap.size w w' := by
      cases h : Lib.atoiAll l
      case ok v =>
        refine readInt_ok ⟨l.toArray⟩ lo hi v _ _ hsz w hR.tab h (fun a b c => ?_) (fun a b c => ?_) (fun a => ?_)
        · rw [ba_list] at c
          have c2 : Lib.itoa v = l := by simpa using c
          unfold readI
          rw [h]
          simp only [if_pos (show (lo ≤ v ∧ v ≤ hi) ∧ Lib.itoa v = l from ⟨⟨a, b⟩, c2⟩), and_self]
        · rw [ba_list] at c
          have c2 : ¬ Lib.itoa v = l := by simpa using c
          unfold readI
          rw [h]
          simp only [if_neg (show ¬ ((lo ≤ v ∧ v ≤ hi) ∧ Lib.itoa v = l) from fun q => c2 q.2), and_self]
        · unfold readI
          rw [h]
          simp only [if_neg (show ¬ ((lo ≤ v ∧ v ≤ hi) ∧ Lib.itoa v = l) from fun q => a q.1), and_self]
      all_goals
        have e : readI l lo hi = (0, false) := by unfold readI; rw [h]
        rw [e]
        exact readInt_bad ⟨l.toArray⟩ lo hi hsz w hR.tab (fun v hv => by rw [show (⟨l.toArray⟩ : ByteArray).data.toList = l from rfl, h] at hv; cases hv)
    refine key.mono fun e w' ⟨he, hb⟩ => ?_
    subst he
    refine ⟨_, rfl, fun _ => ⟨undef, []⟩, hb, ⟨?_, fun o h => (by cases h), fun id o h => (by simp at h), fun i j o o' b h => (by simp at h)⟩⟩
    unfold VR
    refine ⟨_, rfl, ?_⟩
    unfold VL
    refine ⟨by unfold VR; rfl, ?_⟩
    unfold VL
    refine ⟨by unfold VR; rfl, ?_⟩
    unfold VL; trivial
  | [], hv => unfold LR at hv; exact hv.elim
  | [_], hv => unfold LR at hv; obtain ⟨_, hv⟩ := hv; unfold LR at hv; exact hv.elim
  | [_, _], hv => unfold LR at hv; obtain ⟨_, hv⟩ := hv; unfold LR at hv; obtain ⟨_, hv⟩ := hv; unfold LR at hv; exact hv.elim
  | _ :: _ :: _ :: _ :: _, hv => unfold LR at hv; obtain ⟨_, hv⟩ := hv; unfold LR at hv; obtain ⟨_, hv⟩ := hv; unfold LR at hv; obtain ⟨_, hv⟩ := hv; unfold LR at hv; exact hv.elim
theorem c_impl_NumberIn (l : List UInt8) (hl : l.length ≤ 1048576) : PC Tryz.prog false 76 [.str l] (.tup [.int .i64 (readI l (-999999) 999999).1, .bool (readI l (-999999) 999999).2]) [] := by
  refine pc_at Tryz.func76 rfl (by kernel_rfl) 8 [.tmp 2, .tmp 3] rfl rfl ?_
  repeat' (conv => whnf); first
 | refine nameB_self (b := (readI l (-999999) 999999).2) ?_
 | refine Call0 (c_impl_readInt l (-999999) 999999 hl) rfl rfl ?_
 | fail
  all_goals
    conv => whnf
    refine OutA_plain rfl rfl ?_
    first
    | rfl
    | (simp only [*, named, AV.sub, AV.sub.subL, Bool.and_true, Bool.and_false, Bool.true_and, Bool.false_and, Bool.or_true, Bool.or_false, Bool.true_or, Bool.false_or, Bool.not_true, Bool.not_false, if_true, if_false, decide_true, decide_false, Bool.false_eq_true, Bool.and_self]; done)
    | (simp_all [named, AV.sub, AV.sub.subL]; done)
    | (simp_all [named, AV.sub, AV.sub.subL] <;> (intros; omega))
    | (exfalso; omega)
end Go.Proofs.YthbheejeloomjaaGreatDoor
