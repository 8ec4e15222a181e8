/-
  Writes put into a list.
  No condition.
-/
import Derived.Test.YthbheejeloomjaaGreatDoorTypesA
import Derived.Test.YthbheejeloomjaaGreatDoorFrz
import Derived.Test.YthbheejeloomjaaGreatDoorM5
namespace Go.Proofs.YthbheejeloomjaaGreatDoor
open Go.Ab
set_option linter.unusedSimpArgs false
set_option maxRecDepth 20000
set_option maxHeartbeats 4000000
set_option linter.unusedVariables false

def insW (xs : List WriteT) (i : Nat) (l : WriteT) : List WriteT := xs.take i ++ [l] ++ xs.drop i
theorem splice_cat {α : Type} {A B ys : List α} {k : Nat} (hk : k = A.length) : splice (A ++ B) k ys = A ++ ys ++ B.drop ys.length := by
  subst hk
  unfold splice
  rw [List.take_left, List.drop_append, List.drop_of_length_le (l := A) (by omega), List.nil_append, Nat.add_sub_cancel_left]
theorem insE {α : Type} {L R ys D : List α} {i k1 k2 : Nat} {e : α} (hi : i ≤ L.length) (hR : R.length = L.length + 1 - i) (h1 : k1 = i) (h2 : k2 = i + 1) (hy : ys = [e]) (hD : D = L.drop i) : splice (splice (L.take i ++ R) k1 ys) k2 D = L.take i ++ [e] ++ L.drop i := by
  subst h1 h2 hy hD
  rw [splice_cat (A := L.take k1) (by rw [List.length_take]; omega), splice_cat (A := L.take k1 ++ [e]) (by simp; omega)]
  rw [List.drop_of_length_le (l := R.drop _) (by simp; omega), List.append_nil]
theorem insF {α : Type} {L ys D : List α} {i k1 k2 n : Nat} {e : α} (hi : i < L.length) (h1 : k1 = i + 1) (h2 : k2 = i) (hy : ys = [e]) (hD : D = L.drop i) (hn : n = L.length + 1) : (splice (splice L k1 D) k2 ys).take n = L.take i ++ [e] ++ L.drop i := by
  subst h1 h2 hy hD hn
  have e1 : splice L (k2 + 1) (L.drop k2) = L.take (k2 + 1) ++ L.drop k2 := by
    have := splice_cat (A := L.take (k2 + 1)) (B := L.drop (k2 + 1)) (ys := L.drop k2) (k := k2 + 1) (by rw [List.length_take]; omega)
    rw [List.take_append_drop] at this
    rw [this, List.drop_of_length_le (l := L.drop (k2 + 1)) (by simp; omega), List.append_nil]
  have e2 : L.take (k2 + 1) = L.take k2 ++ [L[k2]] := by rw [List.take_add_one, List.getElem?_eq_getElem hi]; rfl
  rw [e1, e2, List.append_assoc, splice_cat (A := L.take k2) (by rw [List.length_take]; omega)]
  have hl : (L.drop k2).length = L.length - k2 := List.length_drop
  rw [List.take_of_length_le (by simp only [List.length_append, List.length_take, List.length_drop, List.length_cons, List.length_nil]; omega)]
  rfl
theorem subO_slcE (so : Nat → AV) (sp : Nat → Nat → Nat → AV) (sc : SC) (ty esz : Nat) (es : List (List AV)) : (subO so sp sc (⟨BK.ofB false, ty, esz, es⟩ : AObj)).elems = es := rfl
theorem subO_slcF (so : Nat → AV) (sp : Nat → Nat → Nat → AV) (sc : SC) (so' : Nat → AV) (sp' : Nat → Nat → Nat → AV) (sc' : SC) (ty esz : Nat) (es : List (List AV)) : (subO so sp sc (subO so' sp' sc' (⟨BK.ofB false, ty, esz, es⟩ : AObj))).elems = es := rfl
theorem c_Insert_Write (xs : List WriteT) (i : Nat) (l : WriteT) (hi : i ≤ xs.length) (hl : xs.length ≤ 1048576) : XC Tryz.prog 99 [⟨false, 74, 3, xs.map WriteT.cells⟩, ⟨false, 74, 3, [l.cells]⟩] [.own 0, .int .i64 (i : Nat), .own 1] (.own 0) [⟨false, 74, 3, (insW xs i l).map WriteT.cells⟩] := by
  have hw : IntKind.i64.wrap ((xs.length : Int) + (([l.cells] : List (List AV)).length : Nat)) = (xs.length : Int) + 1 := i64w (by omega) (by show (xs.length : Int) + 1 ≤ _; omega)
  have hw2 : IntKind.i64.wrap ((i : Int) + (([l.cells] : List (List AV)).length : Nat)) = (i : Int) + 1 := i64w (by omega) (by show (i : Int) + 1 ≤ _; omega)
  have hw3 : IntKind.i64.wrap ((xs.length : Int) + 1 - i) = ((xs.length + 1 - i : Nat) : Int) := by rw [i64w (by omega) (by omega)]; omega
  have hl1 : ([l.cells] : List (List AV)).length = 1 := rfl
  refine xc_at Tryz.func99 rfl (by kernel_rfl) 95 [.tmp 6] rfl rfl rfl ?_
  repeat' (conv => whnf); first
 | (show Go.Ab.drawA _ (16 + 4096 * 15) _ _ _; refine draw_exp (.take 0 (.take 1 (.take 2 (.take 3 (.take 5 (.take 6 (.fork 4 (.fork 7 (.fork 8 (.done) (.stop)) (.stop)) (.fork 7 (.fork 4 (.fork 8 (.done) (.stop)) (.stop)) (.stop))))))))) (by kernel_rfl) (by kernel_rfl) (by kernel_rfl) ?_)
 | (show Go.Ab.drawA _ (16 + 4096 * 11) _ _ _; refine draw_exp (.take 0 (.take 1 (.take 2 (.take 3 (.take 5 (.take 6 (.fork 4 (.fork 7 (.fork 8 (.done) (.stop)) (.stop)) (.fork 7 (.fork 4 (.fork 8 (.done) (.stop)) (.stop)) (.stop))))))))) (by kernel_rfl) (by kernel_rfl) (by kernel_rfl) ?_)
 | refine side_and (side_of (one_lenC rfl rfl)) ?_
 | refine side_and (side_of (by first | (and_intros <;> first | exact Nat.le_of_ble_eq_true rfl | rfl | (intro e; exact absurd (AV.own.inj e) (by decide)) | (intro e; exact AV.noConfusion e)) | fail)) ?_
 | refine side_and (side_of (app_boundC (L := xs.map WriteT.cells) rfl (by (try simp only [List.length_map, List.length_append, List.length_take, List.length_set, List.length_drop]); omega) (Nat.le_of_ble_eq_true rfl))) ?_
 | rw [hw] at h
 | refine nameB_true ?_
 | refine nameB_false ?_
 | (refine nameB_dec (fun h => ?_) (fun h => ?_) <;> try simp only [lensB] at h)
 | refine splitB_true ?_
 | refine splitB_false ?_
 | refine both_intro ?_ ?_
 | exact True.intro
 | refine CallOv rfl rfl rfl rfl rfl rfl rfl rfl rfl (by decide) ?_
 | refine hook_appZ (m := xs.length + 1 - i) rfl rfl rfl rfl rfl rfl rfl rfl rfl rfl (by (try dsimp only); simp only [List.length_map, hw, hw3]) rfl rfl rfl rfl (by (try dsimp only); simp only [List.length_map, Int.toNat_natCast]; omega) ⟨by (try dsimp only); simp only [Int.toNat_natCast]; omega, Nat.le_trans (Nat.mul_le_mul (show _ ≤ 1048577 by simp only [Int.toNat_natCast]; omega) (show _ ≤ 4096 from Nat.le_of_ble_eq_true rfl)) (Nat.le_of_ble_eq_true rfl)⟩ ?_
 | refine hook_slice rfl rfl rfl rfl rfl rfl (by (try dsimp only); simp only [List.length_map, hw, hw2, Int.toNat_natCast]; omega) ?_
 | (refine hook_sliceO rfl rfl rfl rfl rfl rfl (by (try dsimp only); simp only [List.length_map, List.length_append, List.length_take, List.length_replicate, hw, hw2, Int.toNat_natCast, splice_lenU]; omega) (fun cp hcp => ?_); try simp only [List.length_map, List.length_append, List.length_take, List.length_replicate, splice_lenU, Int.toNat_natCast] at hcp)
 | refine hook_copy rfl rfl rfl rfl rfl rfl rfl (by exact trivial) rfl (by (try dsimp only); simp only [List.length_map, hw, hw2, Int.toNat_natCast, splice_lenU, List.length_take, List.length_drop]; omega) ?_
 | refine hook_copy rfl rfl rfl rfl rfl rfl rfl (by first | exact trivial | (show _ ≤ _; (try dsimp only); simp only [subO_slcE, subO_slcF, List.length_append, List.length_replicate, List.length_map, hw, hw2, Int.toNat_natCast, splice_lenU, List.length_take, List.length_drop]; omega)) rfl (by (try dsimp only); simp only [subO_slcE, subO_slcF, List.length_append, List.length_replicate, List.length_map, hw, hw2, Int.toNat_natCast, splice_lenU, List.length_take, List.length_drop]; omega) ?_
 | refine hook_copyP rfl rfl rfl rfl rfl rfl rfl rfl rfl (by (try dsimp only); simp only [List.length_map, hw, hw2, Int.toNat_natCast]; omega) ?_
 | refine hook_slice rfl rfl rfl rfl rfl rfl (by first | (and_intros <;> first | omega | (simp only [lensB, lensC, splice_lenU, Int.toNat_natCast]; omega)) | fail) ?_
 | (refine hook_capO rfl rfl rfl rfl rfl (fun cp hcp => ?_); try simp only [lensB, lensC, splice_lenU, Int.toNat_natCast] at hcp)
 | fail
  all_goals
    conv => whnf
    first
    | (refine OutA_ids rfl rfl rfl ⟨⟨_, _, _, rfl, congrArg (AObj.mk _ _ _) ?_⟩, trivial⟩ rfl (.inr (flat_one (flat_map (fun _ => rfl) _)))
       have e : insW xs i l = xs ++ [l] := (by unfold insW; rw [show i = xs.length by omega, List.take_length, List.drop_length, List.append_nil])
       rw [e, List.map_append]; rfl)
    | (refine OutA_ids rfl rfl rfl ⟨⟨_, _, _, rfl, congrArg (AObj.mk _ _ _) ?_⟩, trivial⟩ rfl (.inr (flat_one (flat_map (fun _ => rfl) _)))
       unfold insW
       rw [List.map_append, List.map_append, List.map_take, List.map_drop]
       refine (insE (e := l.cells) (by rw [List.length_map]; omega) ?_ ?_ ?_ ?_ ?_).symm
       all_goals (try dsimp only); simp only [List.length_map, List.length_take, List.length_drop, List.length_replicate, splice_lenU, Int.toNat_natCast, hw, hw2]
       all_goals (try omega)
       all_goals (try simp only [subO_slcE, subO_slcF, List.length_append, List.length_replicate, List.length_map, hw, hw2, Int.toNat_natCast, splice_lenU, List.length_take, List.length_drop])
       all_goals (first | exact List.take_of_length_le (by omega) | (rw [List.take_take, List.take_of_length_le (by simp only [List.length_drop, List.length_map]; omega)]; congr 1; omega) | (rw [List.take_of_length_le (by simp only [List.length_drop, List.length_map]; omega)]; congr 1; omega)))
    | (refine OutA_cook 6 rfl rfl (by (try dsimp only); simp only [List.length_map, List.length_take, List.length_drop, splice_lenU, Int.toNat_natCast, hw, hw2]; omega) ?_
       conv => whnf
       refine OutA_ids rfl rfl rfl ⟨⟨_, _, _, rfl, congrArg (AObj.mk _ _ _) ?_⟩, trivial⟩ rfl (.inr (flat_one (flat_map (fun _ => rfl) _)))
       unfold insW
       rw [List.map_append, List.map_append, List.map_take, List.map_drop]
       refine (insF (e := l.cells) (by rw [List.length_map]; omega) ?_ ?_ ?_ ?_ ?_).symm
       all_goals (try dsimp only); simp only [List.length_map, List.length_take, List.length_drop, splice_lenU, Int.toNat_natCast, hw, hw2]
       all_goals (first | omega | (show List.take (min 1 _) [l.cells] = [l.cells]; rw [Nat.min_eq_left (by omega)]; rfl) | (rw [List.take_of_length_le (by simp only [List.length_drop, List.length_map]; omega)]; congr 1; omega)))
theorem c_Insert_WriteAt (xs : List WriteT) (l : WriteT) (z : Int) (i : Nat) (hz : z = (i : Nat)) (hi : i ≤ xs.length) (hl : xs.length ≤ 1048576) : XC Tryz.prog 99 [⟨false, 74, 3, xs.map WriteT.cells⟩, ⟨false, 74, 3, [l.cells]⟩] [.own 0, .int .i64 z, .own 1] (.own 0) [⟨false, 74, 3, (insW xs i l).map WriteT.cells⟩] := by
  subst hz
  exact c_Insert_Write xs i l hi hl
end Go.Proofs.YthbheejeloomjaaGreatDoor
