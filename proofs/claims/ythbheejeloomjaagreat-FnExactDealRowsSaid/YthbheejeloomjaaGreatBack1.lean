/-
  A slice gone over from its end: what the iterator gives.
  No condition.
-/
import Derived.RangeFuncBox
import Derived.RangeFuncLeaves
import Derived.Shelf.Abstract
import Derived.WalkKit
import Derived.OwnWalkIn
import Derived.TacticsInMore
import Derived.LoopNIn
import Derived.LoopIn
import Derived.KernelRfl
import Derived.Test.YthbheejeloomjaaGreatProg
namespace Go.Proofs.YthbheejeloomjaaGreat
open Go.Proofs Go.RowKit Go.Shelf
set_option linter.unusedSimpArgs false
set_option linter.unusedVariables false

attribute [local go_sem] Oper.semAt_some

abbrev BkV : Type := Int × ByteArray × Bool
def bkVal (v : BkV) : Value := .agg #[.int .i64 v.1, .string v.2.1, .bool v.2.2]
def bkAt (zs : List BkV) (j : Nat) : BkV := zs[j]?.getD (0, ⟨#[]⟩, false)
def bkUp (zs : List BkV) (len k : Nat) : List (Nat × BkV) := (List.range k).map fun j => (len - 1 - j, bkAt zs (len - 1 - j))
theorem bkUp_succ (zs : List BkV) (len k : Nat) : bkUp zs len (k + 1) = bkUp zs len k ++ [(len - 1 - k, bkAt zs (len - 1 - k))] := by simp [bkUp, List.range_succ]
theorem bkUp_length (zs : List BkV) (len k : Nat) : (bkUp zs len k).length = k := by simp [bkUp]
def bkRow (W : World) (b off len : Nat) (zs : List BkV) : Prop := ∀ j, j < len → W.cell? ⟨b, off + j * 3, none⟩ = some (.int .i64 (bkAt zs j).1) ∧ W.cell? ⟨b, off + j * 3 + 1, none⟩ = some (.string (bkAt zs j).2.1) ∧ W.cell? ⟨b, off + j * 3 + 2, none⟩ = some (.bool (bkAt zs j).2.2)

set_option maxRecDepth 100000 in
set_option maxHeartbeats 2000000 in
theorem bk1_in (F : Fence) (n : Nat) (h8 : F.fn 150) (hro : F.round = none) (hn : 1 ≤ n) (l Bs n₀ b off len cap : Nat) (zs : List BkV) (hreach : len * 40 ≤ 140737488351232) (hb : b < n₀) (J Jx : List (Nat × BkV) → World → Prop)
    (hY : ∀ pre x W, J pre W → pre.length < len → YieldAt F (n - 1) Tryz.prog l #[.int .i64 (x.1 : Int), bkVal x.2] W fun e W' =>
      (e = .returned (.bool true) ∧ J (pre ++ [x]) W' ∧ Below n₀ W W') ∨ (e = .returned (.bool false) ∧ Jx (pre ++ [x]) W'))
    (W : World) (hBs : W.cell? ⟨Bs, 0, none⟩ = some (.slice (some ⟨b, off, none⟩) len cap)) (hBsn : Bs < n₀) (hc : bkRow W b off len zs) (h0 : J [] W) :
    CallsIn F n Tryz.prog 150 #[.func (.yield l) #[] #[], .pointer (some ⟨Bs, 0, none⟩)] W fun e W' => (∃ v, e = .returned v) ∧
      ((∃ ys, ys = bkUp zs len len ∧ J ys W') ∨ (∃ pre, (∃ k, k ≤ len ∧ pre = bkUp zs len k) ∧ Jx pre W')) := by
  have hw1 : wrap64 ((len : Int) - 1) = (len : Int) - 1 := by unfold wrap64; omega
  refine callsIn_of_wp Tryz.func150 rfl h8 ?_ hro
  simp only [Tryz.ntmps150, List.size_toArray, List.length_cons, List.length_nil, Nat.reduceAdd, Nat.reduceSub, Array.replicate_succ, Array.replicate_zero, List.push_toArray, List.append_toArray, List.nil_append, List.cons_append]
  gi_wp2
  gi_loopw [3] (fun i wr => ∃ k : Nat, k ≤ len ∧ i = .int .i64 ((len : Int) - 1 - k) ∧ J (bkUp zs len k) wr ∧ Below n₀ W wr)
    (fun i _ => (intOf i + 1).toNat)
  case atStart => exact ⟨0, Nat.zero_le _, by first | rfl | simp [hw1], h0, Below.refl _ _⟩
  case round =>
    obtain ⟨k, hk, rfl, hJs, hnx⟩ := hrel
    have hbs2 : wr.cell? ⟨Bs, 0, none⟩ = some (.slice (some ⟨b, off, none⟩) len cap) := (hnx.cell (p := ⟨Bs, 0, none⟩) hBsn).trans hBs
    by_cases hlt : k < len
    · have hcx := hc (len - 1 - k) (by omega)
      have hc0 := (hnx.cell (p := ⟨b, off + (len - 1 - k) * 3, none⟩) hb).trans hcx.1
      have hc1 := (hnx.cell (p := ⟨b, off + (len - 1 - k) * 3 + 1, none⟩) hb).trans hcx.2.1
      have hc2 := (hnx.cell (p := ⟨b, off + (len - 1 - k) * 3 + 2, none⟩) hb).trans hcx.2.2
      obtain ⟨fn, tmps, assign, body, hy, hR⟩ := hY _ (len - 1 - k, bkAt zs (len - 1 - k)) wr hJs (by rw [bkUp_length]; exact hlt)
      dsimp only [bkVal] at hy
      have hki : ((len : Int) - 1 - k) = ((len - 1 - k : Nat) : Int) := by omega
      rw [hki]
      gi_wp2
      refine hR.mono ?_
      rintro e W3 (⟨rfl, hJ3, hk3⟩ | ⟨rfl, hJx3⟩)
      · gi_wp2
        go_roundw
        case rel => exact ⟨k + 1, by omega, by congr 1; omega, by rw [bkUp_succ]; exact hJ3, hnx.trans hk3⟩
        case measure => first | (simp [intOf]; done) | (simp [intOf]; omega)
      · gi_wp2
        refine bodyPost_ret (results_none rfl _ _ _) rfl ?_
        exact ⟨⟨_, rfl⟩, .inr ⟨_, ⟨k + 1, by omega, (bkUp_succ _ _ _).symm⟩, hJx3⟩⟩
    · obtain rfl : k = len := by omega
      gi_wp2
      go_end0
      exact ⟨⟨_, rfl⟩, .inl ⟨_, rfl, hJs⟩⟩

set_option maxRecDepth 100000 in
set_option maxHeartbeats 1000000 in
theorem bk1_nil_in (F : Fence) (n : Nat) (h8 : F.fn 150) (hro : F.round = none) (l Bs : Nat) (a : Option Addr) (cap : Nat) (J : List (Nat × BkV) → World → Prop) (W : World) (hBs : W.cell? ⟨Bs, 0, none⟩ = some (.slice a 0 cap)) (h0 : J [] W) :
    CallsIn F n Tryz.prog 150 #[.func (.yield l) #[] #[], .pointer (some ⟨Bs, 0, none⟩)] W fun e W' => (∃ v, e = .returned v) ∧ J [] W' := by
  refine callsIn_of_wp Tryz.func150 rfl h8 ?_ hro
  simp only [Tryz.ntmps150, List.size_toArray, List.length_cons, List.length_nil, Nat.reduceAdd, Nat.reduceSub, Array.replicate_succ, Array.replicate_zero, List.push_toArray, List.append_toArray, List.nil_append, List.cons_append]
  gi_wp2
  gi_loopw [3] (fun i wr => i = .int .i64 (-1) ∧ J [] wr) (fun _ _ => 0)
  case atStart => exact ⟨rfl, h0⟩
  case round =>
    obtain ⟨rfl, hJs⟩ := hrel
    gi_wp2
    go_end0
    exact ⟨⟨_, rfl⟩, hJs⟩

set_option maxHeartbeats 1000000 in
theorem bk_in (F : Fence) (n : Nat) (h6 : F.fn 123) (hro : F.round = none) (a : Option Addr) (len cap : Nat) (w : World) :
    CallsIn F n Tryz.prog 123 #[.slice a len cap] w fun e w' => e = .returned (.func (.func 150) #[] #[.pointer (some ⟨w.heap.size, 0, none⟩)]) ∧ w' = w.alloc (.cells #[.slice a len cap] 81) := by
  refine callsIn_of_wp Tryz.func123 rfl h6 ?_ hro
  simp only [Tryz.ntmps123, List.size_toArray, List.length_cons, List.length_nil, Nat.reduceAdd, Nat.reduceSub, Array.replicate_succ, Array.replicate_zero, List.push_toArray, List.append_toArray, List.nil_append, List.cons_append]
  gi_wp2
  go_ret
  exact ⟨rfl, rfl⟩

def BkS (n₀ : Nat) (W : World) (sv : Value) (zs : List BkV) : Prop := ((∃ a cap, sv = .slice a 0 cap) ∧ zs = []) ∨ ∃ b off cap, sv = .slice (some ⟨b, off, none⟩) zs.length cap ∧ b < n₀ ∧ bkRow W b off zs.length zs
theorem BkS.below {n₀ : Nat} {A B : World} (h : Below n₀ A B) {sv : Value} {zs : List BkV} : BkS n₀ A sv zs → BkS n₀ B sv zs := by
  rintro (⟨h1, h2⟩ | ⟨b, off, cap, h1, h2, h3⟩)
  · exact .inl ⟨h1, h2⟩
  · exact .inr ⟨b, off, cap, h1, h2, fun j hj => ⟨(h.cell (p := ⟨b, _, none⟩) h2).trans (h3 j hj).1, (h.cell (p := ⟨b, _, none⟩) h2).trans (h3 j hj).2.1, (h.cell (p := ⟨b, _, none⟩) h2).trans (h3 j hj).2.2⟩⟩
theorem bk_stops (F : Fence) (n : Nat) (h8 : F.fn 150) (hro : F.round = none) (hn : 1 ≤ n) (Bs n₀ : Nat) (sv : Value) (zs : List BkV) (hreach : zs.length * 40 ≤ 140737488351232) (w : World) (hBs : Bs < w.heap.size) (hBsn : Bs < n₀) (hn₀ : n₀ ≤ w.heap.size)
    (hc : w.cell? ⟨Bs, 0, none⟩ = some sv) (hI : BkS n₀ w sv zs) :
    SeqStopsK F n Tryz.prog 150 #[.pointer (some ⟨Bs, 0, none⟩)] (fun x : Nat × BkV => #[Value.int .i64 (x.1 : Int), bkVal x.2]) (Below n₀) (fun ys => ys = bkUp zs zs.length zs.length)
      (fun pre => ∃ k, k ≤ zs.length ∧ pre = bkUp zs zs.length k) zs.length w := fun l J Jx W hW _ _ hY h0 => by
  have hc' := (hW.cell (p := ⟨Bs, 0, none⟩) hBs).trans hc
  rcases hI.below (hW.mono hn₀) with ⟨⟨a0, cap0, rfl⟩, rfl⟩ | ⟨b, off, cap, rfl, hb, hcs⟩
  · exact (bk1_nil_in F n h8 hro l Bs a0 cap0 J W hc' h0).mono fun e W' ⟨he, hj⟩ => ⟨he, .inl ⟨_, rfl, hj⟩⟩
  · exact bk1_in F n h8 hro hn l Bs n₀ b off zs.length cap zs hreach hb J Jx hY W hc' hBsn hcs h0
end Go.Proofs.YthbheejeloomjaaGreat
