/-
  Deals whose groups agree: what AgreeDeal gives.
  No condition.
-/
import Derived.Test.YtgkghkcahepicaaGreatDeal1
import Derived.Test.YtgkghkcahepicaaGreatPartsM
import Derived.Test.YtgkghkcahepicaaGreatHeldx
namespace Go.Proofs.YtgkghkcahepicaaGreat
open Go.Ab
set_option linter.unusedSimpArgs false
set_option maxRecDepth 20000
set_option maxHeartbeats 4000000
set_option linter.unusedVariables false

def zeroS : StateT := ⟨0, [], [], []⟩
def stAt (d : DealT) (p : Int) : StateT := match d.States[p.toNat]? with | some s => s | none => zeroS
def isTd (t : Int) (s : StateT) : Bool := (s.Told.find? (tEq t)).isSome
def isHd (t : Int) (s : StateT) : Bool := (s.Held.find? (hEq t)).isSome
def tellsS (t : Int) (ss : List StateT) : List ToldT := (ss.filter (isTd t)).map (fun s => toldS s t)
def isOp (t : Int) (s : StateT) : Bool := !isTd t s && !isHd t s
def openN (t : Int) (ss : List StateT) : Nat := (ss.filter (isOp t)).length
def heldN (t : Int) (ss : List StateT) : Nat := (ss.filter (isHd t)).length
def toldE (x y : ToldT) : Bool := (x.Txn == y.Txn) && ((x.Yes == y.Yes) && (x.Time == y.Time))
def firstT (l : List ToldT) : ToldT := match l with | [] => ⟨0, false, 0⟩ | x :: _ => x
def badT (l : List ToldT) (o : Bool) (x : ToldT) : Bool := !toldE x (firstT l) || (x.Yes && o)
def agB (t : Int) (ss : List StateT) : Bool := !(tellsS t ss).any (badT (tellsS t ss) (decide ((openN t ss : Int) > 0)))
theorem first_of {l : List ToldT} {y : ToldT} (h : l[0]? = some y) : firstT l = y := by
  cases l with
  | nil => cases h
  | cons x l => exact Option.some.inj h
theorem bad_ne {l : List ToldT} {o : Bool} {x y : ToldT} (h0 : l[0]? = some y) (h : toldE x y = false) : badT l o x = true := by
  unfold badT; rw [first_of h0, h]; rfl
theorem bad_eq {l : List ToldT} {o : Bool} {x y : ToldT} (h0 : l[0]? = some y) (h : toldE x y = true) : badT l o x = (x.Yes && o) := by
  unfold badT; rw [first_of h0, h]; rfl
theorem told_hitS {s : StateT} {t : Int} (h : okStateS s = true) : bsHit (tK t) s.Told = isTd t s := by
  have h1 := (out_eq s t).2
  rw [okState_eq, h] at h1
  exact h1
theorem told_atS {s : StateT} {t : Int} {y : ToldT} (h : okStateS s = true) (hb : bsHit (tK t) s.Told = true) (hy : s.Told[bsPos (tK t) s.Told]? = some y) : toldS s t = y := by
  have h1 := out_eq s t
  rw [okState_eq, h, hb] at h1
  have h2 := h1.1
  unfold outT at h2
  simp only [Bool.true_and, if_true] at h2
  rw [← h2]
  exact toldAt_yes hb hy
theorem held_hitS {s : StateT} {t : Int} (h : okStateS s = true) : bsHit (hK t) s.Held = isHd t s := by
  unfold isHd
  cases hb : bsHit (hK t) s.Held with
  | true =>
    obtain ⟨g, hg⟩ : ∃ g, s.Held[bsPos (hK t) s.Held]? = some g := ⟨_, List.getElem?_eq_getElem (bsHit_lt hb)⟩
    rw [held_hit h hb hg]
    rfl
  | false =>
    rw [held_miss h hb]
    rfl
theorem told_notheld {s : StateT} {t : Int} (h : okStateS s = true) (ht : isTd t s = true) : isHd t s = false := by
  unfold isTd at ht
  obtain ⟨x, hx⟩ := Option.isSome_iff_exists.1 ht
  have hm := List.mem_of_find?_eq_some hx
  have hk : x.Txn = t := by
    have := List.find?_some hx
    unfold tEq at this
    simpa using this
  unfold okStateS at h
  simp only [Bool.and_eq_true] at h
  obtain ⟨q, hq⟩ := allPre_mem h.2.2 hm
  unfold tolS at hq
  simp only [Bool.and_eq_true] at hq
  unfold isHd
  rw [← hk]
  rw [Option.isNone_iff_eq_none.1 hq.2]
  rfl
theorem fil_step {α : Type} {p : α → Bool} {xs : List α} {k : Nat} {x : α} (hx : xs[k]? = some x) : ((xs.take (k + 1)).filter p).length = ((xs.take k).filter p).length + (if p x = true then 1 else 0) := by
  rw [take_get hx, List.filter_append, List.length_append]
  congr 1
  cases hp : p x <;> simp [hp]
theorem open_yes {t : Int} {ss : List StateT} {k : Nat} {s : StateT} (hx : ss[k]? = some s) (h : isOp t s = true) : openN t (ss.take (k + 1)) = openN t (ss.take k) + 1 := by
  unfold openN; rw [fil_step hx, if_pos h]
theorem open_no {t : Int} {ss : List StateT} {k : Nat} {s : StateT} (hx : ss[k]? = some s) (h : isOp t s = false) : openN t (ss.take (k + 1)) = openN t (ss.take k) := by
  unfold openN; rw [fil_step hx, if_neg (by rw [h]; simp)]; rfl
theorem heldN_yes {t : Int} {ss : List StateT} {k : Nat} {s : StateT} (hx : ss[k]? = some s) (h : isHd t s = true) : heldN t (ss.take (k + 1)) = heldN t (ss.take k) + 1 := by
  unfold heldN; rw [fil_step hx, if_pos h]
theorem heldN_no {t : Int} {ss : List StateT} {k : Nat} {s : StateT} (hx : ss[k]? = some s) (h : isHd t s = false) : heldN t (ss.take (k + 1)) = heldN t (ss.take k) := by
  unfold heldN; rw [fil_step hx, if_neg (by rw [h]; simp)]; rfl
theorem openN_le (t : Int) (ss : List StateT) : openN t ss ≤ ss.length := List.length_filter_le _ _
theorem heldN_le (t : Int) (ss : List StateT) : heldN t ss ≤ ss.length := List.length_filter_le _ _
theorem tells_len (t : Int) (ss : List StateT) : (tellsS t ss).length ≤ ss.length := by unfold tellsS; rw [List.length_map]; exact List.length_filter_le _ _
theorem all_three {t : Int} : ∀ {ss : List StateT}, (∀ s ∈ ss, okStateS s = true) → (tellsS t ss).length + heldN t ss + openN t ss = ss.length
  | [], _ => rfl
  | s :: ss, h => by
    have ih := all_three (t := t) (ss := ss) fun x hx => h x (by simp [hx])
    have hs := told_notheld (t := t) (h s (by simp))
    unfold tellsS heldN openN at ih ⊢
    rw [List.length_map] at ih ⊢
    simp only [List.filter_cons, List.length_cons]
    unfold isOp at ih ⊢
    cases h1 : isTd t s with
    | true => rw [hs h1]; simp; omega
    | false =>
      cases h2 : isHd t s with
      | true => simp; omega
      | false => simp; omega
theorem c_impl_agrees_1 (l : List ToldT) (n : Int) (x : ToldT) (hx : x ∈ l) : PC Tryz.prog false 94 [.agg x.cells, .rp [.sl (l.map ToldT.cells)], .rp [.int .i64 n]] (.bool (badT l (decide (n > 0)) x)) [] := by
  have hl : 0 < l.length := List.length_pos_of_mem hx
  clear hx
  rcases x with ⟨xt, xy, xm⟩
  refine pc_at Tryz.func94 rfl (by kernel_rfl) 18 [.tmp 4] rfl rfl ?_
  repeat' (conv => whnf); first
    | (refine ix_as (f := ToldT.cells) (m := 0) rfl hl (fun y hy => ?_))
    | (refine nameB_cases (b := toldE ⟨xt, xy, xm⟩ y) (fun h => ?_) (fun h => ?_))
    | refine nameB_true ?_
    | refine nameB_false ?_
    | refine nameB_yes (by assumption) ?_
    | refine nameB_no (by assumption) ?_
    | refine nameB_dyes (by assumption) ?_
    | refine nameB_dno (by assumption) ?_
    | (refine nameB_dec (fun h => ?_) (fun h => ?_) <;> try simp only [lensB, midL_len, mkL_length, Int.toNat_natCast, fact_byte] at h)
    | (refine nameB_cases (fun h => ?_) (fun h => ?_) <;> try simp only [bne_iff_ne, ne_eq, bne_eq_false_iff_eq, beq_iff_eq, beq_eq_false_iff_ne, Bool.not_eq_true', Bool.not_eq_false', Bool.or_eq_true, Bool.or_eq_false_iff, lensB, midL_len, mkL_length, Int.toNat_natCast, fact_byte] at h)
    | refine splitB_true ?_
    | refine splitB_false ?_
    | (refine splitB_intro (fun h => ?_) (fun h => ?_) <;> subst h)
    | refine draw_text (by kernel_rfl) (by kernel_rfl) (by kernel_rfl) ?_
    | refine both_intro ?_ ?_
    | refine eitherB_l ?_
    | exact True.intro
    | refine ix_map_at hx ?_
    | refine ix_map_at hy ?_
    | refine sl_pre (by omega) (fun _ => rfl) ?_
    | refine sl_suf (by omega) (fun _ => rfl) ?_
    | (refine ix_map2 hx (by omega) (by (try simp only [List.length_take]); omega) (fun y hy => ?_); try simp only [Int.toNat_natCast] at hy)
    | (refine ix_map (by omega) (by (try simp only [List.length_take]); omega) (fun x hx => ?_); try simp only [Int.toNat_natCast] at hx)
    | refine side_and (side_of (by first | (and_intros <;> first | exact Nat.le_of_ble_eq_true rfl | rfl | omega | (simp only [lensB, lensC, List.length_replicate, midL_len, mkL_length]; omega) | exact bytes_ok (Nat.le_of_ble_eq_true rfl) (by omega) (by simp only [lensB, lensC, List.length_replicate, midL_len, mkL_length]; omega) | exact bytes_okN (Nat.le_of_ble_eq_true rfl) (by simp only [lensB, lensC, List.length_replicate, midL_len, mkL_length]; omega)) | fail)) ?_
    | refine nilB_intro (fun h => ?_) ?_
    | refine side_and (side_of (show Go.Ab.structOk _ _ = true by kernel_rfl)) ?_
    | refine side_and (side_of (map_len (fun _ => rfl))) ?_
    | refine side_and (side_of (map_one (fun _ => rfl) _)) ?_
    | refine side_and ?_ ?_
    | refine LoadK_of rfl rfl ?_
    | refine LoadD_cel rfl rfl rfl rfl ?_
    | refine LoadD_of rfl ?_
    | refine StoreD_of rfl rfl rfl ?_
    | refine AppD_of rfl (by and_intros <;> first | rfl | decide) (by simp only [lensC]; first | (refine ⟨by omega, ?_⟩; refine Nat.le_trans (Nat.mul_le_mul_left _ (show _ ≤ 512 by decide)) ?_; omega) | fail) ?_
    | refine AppN_of rfl rfl (by and_intros <;> rfl) (by simp only [lensC]; first | (refine ⟨by omega, ?_⟩; refine Nat.le_trans (Nat.mul_le_mul_left _ (show _ ≤ 512 by decide)) ?_; omega) | fail) ?_
    | (show False; omega)
  all_goals
    conv => whnf
    refine OutA_plain rfl rfl ?_
    first
    | exact congrArg AV.bool (bad_ne hy (by assumption)).symm
    | (show AV.bool _ = AV.bool _; have hb := bad_eq (o := decide (n > 0)) (x := ⟨xt, xy, xm⟩) hy (by assumption); refine congrArg AV.bool (Eq.trans ?_ hb.symm); simp_all; done)
end Go.Proofs.YtgkghkcahepicaaGreat
