/-
  Sorted lists of numbers: what the reference's l1Put makes.
  No condition.
-/
import Derived.Test.YtpbabdnbbpgejaaM4
namespace Go.Proofs.Ytpbabdnbbpgejaa
open Go.Ab
set_option linter.unusedSimpArgs false
set_option maxRecDepth 20000
set_option linter.unusedVariables false

def cntI (n : Int) (l : List Int) : Nat := (l.takeWhile fun x => decide (x < n)).length
def putI (l : List Int) (n : Int) : List Int := if l[cntI n l]? = some n then l else l.take (cntI n l) ++ [n] ++ l.drop (cntI n l)
theorem cnt_go {l : List Int} {n x : Int} {k K : Nat} (h : k + cntI n (l.drop k) = K) (hx : l[k]? = some x) (hlt : x < n) : k + 1 + cntI n (l.drop (k + 1)) = K := by
  rw [drop_get hx] at h
  unfold cntI at h ⊢
  rw [List.takeWhile_cons_of_pos (by simpa using hlt), List.length_cons] at h
  omega
theorem cnt_stop {l : List Int} {n x : Int} {k K : Nat} (h : k + cntI n (l.drop k) = K) (hx : l[k]? = some x) (hlt : ¬ x < n) : K = k := by
  rw [drop_get hx] at h
  unfold cntI at h
  rw [List.takeWhile_cons_of_neg (by simpa using hlt)] at h
  simpa using h.symm
theorem cnt_end {l : List Int} {n : Int} {k K : Nat} (h : k + cntI n (l.drop k) = K) (hk : ¬ (k : Int) < l.length) : K = k := by
  rw [List.drop_eq_nil_of_le (by omega)] at h
  simpa [cntI] using h.symm
theorem putI_same {l : List Int} {n x : Int} {k : Nat} (h : cntI n l = k) (hx : l[k]? = some x) (e : x = n) : putI l n = l := by
  unfold putI
  rw [h, if_pos (by rw [hx, e])]
theorem putI_new {l : List Int} {n : Int} {k : Nat} (h : cntI n l = k) (hx : ¬ (k : Int) < l.length ∨ ∃ x, l[k]? = some x ∧ ¬ x = n) : putI l n = l.take k ++ [n] ++ l.drop k := by
  unfold putI
  rw [h, if_neg]
  intro h2
  rcases hx with hx | ⟨x, hx, hne⟩
  · rw [List.getElem?_eq_none (by omega)] at h2; cases h2
  · rw [hx] at h2; cases h2; exact hne rfl
theorem take_cnt {l : List Int} {n : Int} : l.take (cntI n l) = l.takeWhile fun x => decide (x < n) := by
  have h := List.takeWhile_append_dropWhile (p := fun x => decide (x < n)) (l := l)
  conv => lhs; arg 2; rw [← h]
  unfold cntI
  exact List.take_left
theorem drop_cnt {l : List Int} {n : Int} : l.drop (cntI n l) = l.dropWhile fun x => decide (x < n) := by
  have h := List.takeWhile_append_dropWhile (p := fun x => decide (x < n)) (l := l)
  conv => lhs; arg 2; rw [← h]
  unfold cntI
  exact List.drop_left
theorem putI_perm {l : List Int} {n : Int} (h : n ∉ l) : (putI l n).Perm (n :: l) := by
  unfold putI
  rw [if_neg (fun e => h (List.mem_of_getElem? e))]
  have e : l.take (cntI n l) ++ l.drop (cntI n l) = l := List.take_append_drop _ _
  have p := List.perm_middle (a := n) (l₁ := l.take (cntI n l)) (l₂ := l.drop (cntI n l))
  rw [e] at p
  rw [List.append_assoc]
  exact p
theorem takeWhile_lt {l : List Int} {n : Int} : ∀ x ∈ l.takeWhile (fun x => decide (x < n)), x < n := by
  induction l with
  | nil => simp
  | cons a l ih =>
    intro x hx
    rw [List.takeWhile_cons] at hx
    split at hx
    · rename_i h
      rcases List.mem_cons.1 hx with rfl | hx
      · simpa using h
      · exact ih x hx
    · cases hx
theorem dropWhile_ge {l : List Int} {n : Int} (hs : l.Pairwise (· ≤ ·)) : ∀ x ∈ l.dropWhile (fun x => decide (x < n)), n ≤ x := by
  induction l with
  | nil => simp
  | cons a l ih =>
    intro x hx
    rw [List.dropWhile_cons] at hx
    rw [List.pairwise_cons] at hs
    split at hx
    · exact ih hs.2 x hx
    · rename_i hn
      have hn' : ¬ a < n := by simpa using hn
      rcases List.mem_cons.1 hx with rfl | hx
      · omega
      · have := hs.1 x hx; omega
theorem putI_sorted {l : List Int} {n : Int} (hs : l.Pairwise (· ≤ ·)) : (putI l n).Pairwise (· ≤ ·) := by
  unfold putI
  split
  · exact hs
  · rw [take_cnt, drop_cnt, List.append_assoc, List.pairwise_append]
    refine ⟨hs.sublist (List.takeWhile_sublist _), ?_, fun a ha b hb => ?_⟩
    · rw [List.singleton_append, List.pairwise_cons]
      exact ⟨fun x hx => dropWhile_ge hs x hx, hs.sublist (List.dropWhile_sublist _)⟩
    · have h1 := takeWhile_lt a ha
      rw [List.singleton_append] at hb
      rcases List.mem_cons.1 hb with rfl | hb
      · omega
      · have := dropWhile_ge hs b hb; omega
theorem putI_len {l : List Int} {n : Int} : (putI l n).length ≤ l.length + 1 := by
  unfold putI
  split
  · omega
  · simp only [List.length_append, List.length_take, List.length_cons, List.length_nil, List.length_drop]; omega
theorem foldI_sorted : ∀ (ys acc : List Int), acc.Pairwise (· ≤ ·) → (ys ++ acc).Nodup → (ys.foldl putI acc).Pairwise (· ≤ ·) ∧ (ys.foldl putI acc).Perm (ys ++ acc)
  | [], acc, hs, hn => ⟨hs, List.Perm.refl _⟩
  | y :: ys, acc, hs, hn => by
    rw [List.cons_append, List.nodup_cons, List.mem_append] at hn
    have hp := putI_perm (l := acc) (n := y) (fun h => hn.1 (.inr h))
    have hq : (ys ++ putI acc y).Perm (y :: (ys ++ acc)) := (hp.append_left ys).trans List.perm_middle
    have hn2 : (ys ++ putI acc y).Nodup := hq.symm.nodup (List.nodup_cons.2 ⟨fun h => hn.1 (List.mem_append.1 h), hn.2⟩)
    obtain ⟨h1, h2⟩ := foldI_sorted ys (putI acc y) (putI_sorted hs) hn2
    exact ⟨h1, h2.trans hq⟩
theorem foldI_eq {ys : List Int} (hn : ys.Nodup) : ys.foldl putI [] = sortI ys := by
  obtain ⟨h1, h2⟩ := foldI_sorted ys [] List.Pairwise.nil (by rw [List.append_nil]; exact hn)
  rw [List.append_nil] at h2
  have s1 := List.pairwise_mergeSort (le := fun x y : Int => decide (x ≤ y)) (fun a b c h h' => by simp only [decide_eq_true_eq] at *; omega) (fun a b => by simp only [Bool.or_eq_true, decide_eq_true_eq]; omega) ys
  refine List.Perm.eq_of_pairwise (le := (· ≤ ·)) (fun a b _ _ h h' => by omega) h1 ?_ (h2.trans (List.mergeSort_perm ys _).symm)
  exact s1.imp (fun h => by simpa using h)
theorem foldI_len : ∀ (ys acc : List Int), (ys.foldl putI acc).length ≤ acc.length + ys.length
  | [], acc => by simp
  | y :: ys, acc => by
    have h1 := foldI_len ys (putI acc y)
    have h2 := putI_len (l := acc) (n := y)
    simp only [List.foldl_cons, List.length_cons]
    omega
end Go.Proofs.Ytpbabdnbbpgejaa
