/-
  What a run of a group gives: its groups stay small.
  No condition.
-/
import Derived.Test.YtfpkfnfgloonhaaGreatGroup20
import Derived.Test.YtfpkfnfgloonhaaGreatGroup7
namespace Go.Proofs.YtfpkfnfgloonhaaGreat
open Go.Ab
set_option linter.unusedSimpArgs false
set_option maxRecDepth 20000
set_option maxHeartbeats 4000000
set_option linter.unusedVariables false

def stepG (g : GroupT) (a : GroupActT) : GroupT := match okAct g a with | true => actG g a | false => g
theorem stepG_yes {g : GroupT} {a : GroupActT} (h : okAct g a = true) : stepG g a = actG g a := by unfold stepG; rw [h]
theorem stepG_no {g : GroupT} {a : GroupActT} (h : okAct g a = false) : stepG g a = g := by unfold stepG; rw [h]
def playG (g : GroupT) (acts : List GroupActT) : GroupT := acts.foldl stepG g
theorem playG_next {g : GroupT} {acts : List GroupActT} {k : Nat} {y : GroupActT} (hy : acts[k]? = some y) : playG g (acts.take (k + 1)) = stepG (playG g (acts.take k)) y := by
  unfold playG
  rw [List.take_add_one, hy, Option.toList_some, List.foldl_append, List.foldl_cons, List.foldl_nil]
theorem playG_yes {g : GroupT} {acts : List GroupActT} {k : Nat} {y : GroupActT} (hy : acts[k]? = some y) (h : okAct (playG g (acts.take k)) y = true) : actG (playG g (acts.take k)) y = playG g (acts.take (k + 1)) := by rw [playG_next hy, stepG_yes h]
theorem playG_no {g : GroupT} {acts : List GroupActT} {k : Nat} {y : GroupActT} (hy : acts[k]? = some y) (h : okAct (playG g (acts.take k)) y = false) : playG g (acts.take k) = playG g (acts.take (k + 1)) := by rw [playG_next hy, stepG_no h]
/-- A group with a few replicas, each of which weighs at most M. -/
structure PG (M : Nat) (g : GroupT) : Prop where
  ok : g.ok
  len : g.Reps.length ≤ 5
  w : ∀ x ∈ g.Reps, x.w ≤ M
theorem PG.gb {M : Nat} {g : GroupT} (h : PG M g) (hM : M ≤ 1048576) : GB g := ⟨Nat.le_trans h.len (by decide), fun x hx => Nat.le_trans (h.w x hx) hM⟩
theorem PG.le {M N : Nat} {g : GroupT} (h : PG M g) (hM : M ≤ N) : PG N g := ⟨h.ok, h.len, fun x hx => Nat.le_trans (h.w x hx) hM⟩
theorem PG.wt {M : Nat} {g : GroupT} (h : PG M g) (hM : M ≤ 1048576) : g.w ≤ 5242885 := by
  have := wL_bound (w := ReplicaT.w) (B := 1048576) (xs := g.Reps) (fun y hy => Nat.le_trans (h.w y hy) hM) h.len
  have e : g.w = wL ReplicaT.w g.Reps := rfl
  omega
theorem PG.of {g : GroupT} {M : Nat} (hok : g.ok) (hg : okGroup g = true) (hw : g.w ≤ M) : PG M g := ⟨hok, okG_len hg, fun x hx => Nat.le_trans (wL_mem hx).2 hw⟩
theorem PG.set {M N : Nat} {g : GroupT} {r T L : Int} {f : ReplicaT → ReplicaT} (h : PG M g) (hM : M ≤ N) (hf : ∀ x, g.Reps[r.toNat]? = some x → (f x).ok ∧ (f x).w ≤ N) : PG N ⟨setRep g r f, T, L⟩ := by
  unfold setRep
  split
  · rename_i y hy
    obtain ⟨h1, h2⟩ := hf y hy
    refine ⟨⟨⟨by rw [List.length_set]; exact h.ok.1.1, fun x hx => ?_⟩, trivial, trivial⟩, by rw [List.length_set]; exact h.len, fun x hx => ?_⟩
    · rcases List.mem_or_eq_of_mem_set hx with q | rfl
      · exact h.ok.1.2 x q
      · exact h1
    · rcases List.mem_or_eq_of_mem_set hx with q | rfl
      · exact Nat.le_trans (h.w x q) hM
      · exact h2
  · exact ⟨⟨h.ok.1, trivial, trivial⟩, h.len, fun x hx => Nat.le_trans (h.w x hx) hM⟩
theorem PG.rep {M : Nat} {g : GroupT} {n : Nat} {x : ReplicaT} (h : PG M g) (hx : g.Reps[n]? = some x) : x.ok ∧ x.w ≤ M := ⟨h.ok.1.2 x (List.mem_of_getElem? hx), h.w x (List.mem_of_getElem? hx)⟩
theorem PG.log {M : Nat} {g : GroupT} (h : PG M g) : okL EntryT.ok (logOf g g.Lead) ∧ wL EntryT.w (logOf g g.Lead) ≤ M := by
  unfold logOf
  split
  · rename_i y hy
    exact ⟨(h.rep hy).1.2.1, (h.rep hy).2⟩
  · exact ⟨⟨Nat.zero_le _, fun _ h => by cases h⟩, Nat.zero_le _⟩
theorem wL_snoc {α : Type} {w : α → Nat} {xs : List α} {x : α} : wL w (xs ++ [x]) = wL w xs + w x + 1 := by
  unfold wL
  simp only [List.length_append, List.map_append, List.map_cons, List.map_nil, List.sum_append, List.sum_cons, List.sum_nil, List.length_cons, List.length_nil]
  omega
theorem PG.step {M : Nat} {g : GroupT} {a : GroupActT} (h : PG M g) (ha : a.ok) (hM : M ≤ 1048576) : PG (M + a.w + 1) (stepG g a) := by
  cases hk : okAct g a with
  | false => rw [stepG_no hk]; exact h.le (by omega)
  | true =>
    rw [stepG_yes hk]
    by_cases h1 : a.Kind = 1
    · rw [(act1 h1).2] at hk
      rw [(act1 h1).1, crashR, resG_yes hk]
      exact h.set (by omega) fun x hx => ⟨⟨trivial, (h.rep hx).1.2.1, trivial⟩, Nat.le_trans (h.rep hx).2 (by omega)⟩
    by_cases h2 : a.Kind = 2
    · rw [(act2 h2).2] at hk
      rw [(act2 h2).1, startR_yes hk]
      exact h.set (by omega) fun x hx => ⟨⟨trivial, (h.rep hx).1.2.1, trivial⟩, Nat.le_trans (h.rep hx).2 (by omega)⟩
    by_cases h3 : a.Kind = 3
    · rw [(act3 h3).2] at hk
      rw [(act3 h3).1, electR_yes hk]
      exact ⟨⟨h.ok.1, trivial, trivial⟩, h.len, fun x hx => Nat.le_trans (h.w x hx) (by omega)⟩
    by_cases h4 : a.Kind = 4
    · rw [(act4 h4).2] at hk
      rw [(act4 h4).1, putR_yes hk]
      refine h.set (by omega) fun x hx => ⟨⟨trivial, ?_, trivial⟩, ?_⟩
      · have q := (h.rep hx).1.2.1
        have hl : x.Log.length ≤ wL EntryT.w x.Log := wL_len
        have hw2 : wL EntryT.w x.Log ≤ M := (h.rep hx).2
        refine ⟨?_, fun z hz => ?_⟩
        · show (x.Log ++ [_]).length ≤ _
          rw [List.length_append, List.length_singleton]
          omega
        · rcases List.mem_append.1 hz with p | p
          · exact q.2 z p
          · rw [List.mem_singleton] at p
            subst p
            exact ⟨trivial, ha.2.2⟩
      · show wL EntryT.w (x.Log ++ [_]) ≤ _
        rw [wL_snoc]
        have hw2 : wL EntryT.w x.Log ≤ M := (h.rep hx).2
        have e : a.w = EntryT.w ⟨g.Term, a.Rec⟩ := rfl
        omega
    by_cases h5 : a.Kind = 5
    · rw [(act5 h5).2] at hk
      rw [(act5 h5).1, copyR_yes hk]
      refine h.set (by omega) fun x hx => ⟨⟨trivial, h.log.1, trivial⟩, ?_⟩
      exact Nat.le_trans h.log.2 (by omega)
    by_cases h6 : a.Kind = 6
    · rw [(act6 h6).2] at hk
      rw [(act6 h6).1, advR_yes hk]
      exact h.set (by omega) fun x hx => ⟨⟨trivial, (h.rep hx).1.2.1, trivial⟩, Nat.le_trans (h.rep hx).2 (by omega)⟩
    rw [(act0 h1 h2 h3 h4 h5 h6).2] at hk
    cases hk
theorem PG.play {g : GroupT} {acts : List GroupActT} (hg : PG g.w g) (ha : okL GroupActT.ok acts) (hw : g.w + wL GroupActT.w acts ≤ 1048576) : ∀ k, k ≤ acts.length → PG (g.w + wL GroupActT.w (acts.take k)) (playG g (acts.take k))
  | 0, _ => hg.le (by omega)
  | k + 1, hk => by
    have ih := PG.play hg ha hw k (by omega)
    have hx : acts[k]? = some acts[k] := by simp
    rw [playG_next hx]
    have e : acts.take (k + 1) = acts.take k ++ [acts[k]] := by rw [List.take_add_one, hx]; rfl
    have hle : wL GroupActT.w (acts.take k) ≤ wL GroupActT.w acts := by
      have e2 : acts = acts.take k ++ acts.drop k := (List.take_append_drop k acts).symm
      conv => rhs; rw [e2]
      unfold wL
      simp only [List.length_append, List.map_append, List.sum_append]
      omega
    have := ih.step (a := acts[k]) (ha.2 _ (List.getElem_mem _)) (by omega)
    exact this.le (by rw [e, wL_snoc]; omega)
theorem wL_take {α : Type} {w : α → Nat} {xs : List α} {k : Nat} : wL w (xs.take k) ≤ wL w xs := by
  have e2 : xs = xs.take k ++ xs.drop k := (List.take_append_drop k xs).symm
  conv => rhs; rw [e2]
  unfold wL
  simp only [List.length_append, List.map_append, List.sum_append]
  omega
end Go.Proofs.YtfpkfnfgloonhaaGreat
