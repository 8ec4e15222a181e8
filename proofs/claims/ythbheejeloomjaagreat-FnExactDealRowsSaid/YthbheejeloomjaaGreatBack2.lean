/-
  The value of a cell at a time: the caller of the iterator.
  No condition.
-/
import Derived.RangeFuncNested
import Derived.Test.YthbheejeloomjaaGreatBack1
namespace Go.Proofs.YthbheejeloomjaaGreat
open Go.Proofs Go.RowKit Go.Shelf
set_option linter.unusedSimpArgs false
set_option linter.unusedVariables false

attribute [local go_sem] Oper.semAt_some

theorem BkS.up {n₀ n₁ : Nat} (h : n₀ ≤ n₁) {A : World} {sv : Value} {zs : List BkV} : BkS n₀ A sv zs → BkS n₁ A sv zs := by
  rintro (⟨h1, h2⟩ | ⟨b, off, cap, h1, h2, h3⟩)
  · exact .inl ⟨h1, h2⟩
  · exact .inr ⟨b, off, cap, h1, Nat.lt_of_lt_of_le h2 h, h3⟩

set_option maxRecDepth 100000 in
set_option maxHeartbeats 4000000 in
theorem at_in (F : Fence) (n : Nat) (h4 : F.fn 85) (h6 : F.fn 123) (h8 : F.fn 150) (hro : F.round = none) (hn : 4 ≤ n) (key : ByteArray) (a : Option Addr) (len cap : Nat) (t : Int) (zs : List BkV) (hreach : zs.length * 40 ≤ 140737488351232) (w : World) (hI : BkS w.heap.size w (.slice a len cap) zs) :
    CallsIn F n Tryz.prog 85 #[.agg #[.string key, .slice a len cap], .int .i64 t] w fun e W' =>
      ((e = .returned (.tuple #[.string ⟨#[]⟩, .bool false]) ∧ ∀ p ∈ bkUp zs zs.length zs.length, t < p.2.1) ∨ (∃ ini last, (∃ k, k ≤ zs.length ∧ bkUp zs zs.length k = ini ++ [last]) ∧ (∀ p ∈ ini, t < p.2.1) ∧ last.2.1 ≤ t ∧ e = .returned (.tuple #[.string last.2.2.1, .bool (!last.2.2.2)]))) ∧ Below w.heap.size w W' := by
  have h1 : 1 ≤ n := by omega
  refine callsIn_of_wp_marks Tryz.func85 rfl h4 ?_ hro
  simp only [Tryz.ntmps85, List.size_toArray, List.length_cons, List.length_nil, Nat.reduceAdd, Nat.reduceSub, Array.replicate_succ, Array.replicate_zero, List.push_toArray, List.append_toArray, List.nil_append, List.cons_append]
  gi_wp2_with (gi_at_call 123; refine (bk_in F (n - 1) h6 hro _ _ _ _).mono ?_; rintro e w' ⟨rfl, rfl⟩)
  have bT := ((((Boxed.new (w.alloc (.cells #[.string key, .slice a len cap] 83)) 3 (.int .i64 t)).alloc (.cells #[.string ⟨#[]⟩] 9)).alloc (.cells #[.bool false] 4)).alloc (.cells #[.slice a len cap] 81))
  have b4 := (((Boxed.new ((w.alloc (.cells #[.string key, .slice a len cap] 83)).alloc (.cells #[.int .i64 t] 3)) 9 (.string ⟨#[]⟩)).alloc (.cells #[.bool false] 4)).alloc (.cells #[.slice a len cap] 81))
  have b5 := ((Boxed.new (((w.alloc (.cells #[.string key, .slice a len cap] 83)).alloc (.cells #[.int .i64 t] 3)).alloc (.cells #[.string ⟨#[]⟩] 9)) 4 (.bool false)).alloc (.cells #[.slice a len cap] 81))
  have bN := Boxed.new ((((w.alloc (.cells #[.string key, .slice a len cap] 83)).alloc (.cells #[.int .i64 t] 3)).alloc (.cells #[.string ⟨#[]⟩] 9)).alloc (.cells #[.bool false] 4)) 81 (.slice a len cap)
  simp only [World.size_alloc] at bT b4 b5 bN
  have hB0 : Below w.heap.size w (((((w.alloc (.cells #[.string key, .slice a len cap] 83)).alloc (.cells #[.int .i64 t] 3)).alloc (.cells #[.string ⟨#[]⟩] 9)).alloc (.cells #[.bool false] 4)).alloc (.cells #[.slice a len cap] 81)) := (((((Below.refl _ w).alloc (Nat.le_refl _) _).alloc (by simp) _).alloc (by simp; omega) _).alloc (by simp; omega) _).alloc (by simp; omega) _
  have hsz : (((((w.alloc (.cells #[.string key, .slice a len cap] 83)).alloc (.cells #[.int .i64 t] 3)).alloc (.cells #[.string ⟨#[]⟩] 9)).alloc (.cells #[.bool false] 4)).alloc (.cells #[.slice a len cap] 81)).heap.size = w.heap.size + 5 := by simp
  obtain ⟨W0, hW0⟩ : ∃ W0, (((((w.alloc (.cells #[.string key, .slice a len cap] 83)).alloc (.cells #[.int .i64 t] 3)).alloc (.cells #[.string ⟨#[]⟩] 9)).alloc (.cells #[.bool false] 4)).alloc (.cells #[.slice a len cap] 81)) = W0 := ⟨_, rfl⟩
  rw [hW0] at bT b4 b5 bN hB0 hsz ⊢
  clear hW0
  refine wpIn_rangeFunc_ownH hro h1 (gf := 150) (lb := #[.pointer (some ⟨w.heap.size + 1 + 1 + 1 + 1, 0, none⟩)]) rfl h8 (enters_of Tryz.func150 (by kernel_rfl) rfl)
    (bk_stops F (n - 1) h8 hro (by omega) (w.heap.size + 1 + 1 + 1 + 1) (w.heap.size + 5) (.slice a len cap) zs hreach W0 (by omega) (by omega) (by omega) bN.cell ((hI.below hB0).up (by omega))) belowK_t (belowK_b (by omega)) (Below.refl _ _) (fun _ => rfl)
    (fun pre W => ((((Boxed W (w.heap.size + 1) 3 (.int .i64 t) ∧ Boxed W (w.heap.size + 1 + 1) 9 (.string ⟨#[]⟩)) ∧ Boxed W (w.heap.size + 1 + 1 + 1) 4 (.bool false)) ∧ Boxed W (w.heap.size + 1 + 1 + 1 + 1) 81 (.slice a len cap)) ∧ (∀ p ∈ pre, t < p.2.1)) ∧ Below w.heap.size w W)
    (fun c pre W => (c = .ret ∧ ∃ ini last, pre = ini ++ [last] ∧ (∀ p ∈ ini, t < p.2.1) ∧ last.2.1 ≤ t ∧ W.cell? ⟨w.heap.size + 1 + 1, 0, none⟩ = some (.string last.2.2.1) ∧ W.cell? ⟨w.heap.size + 1 + 1 + 1, 0, none⟩ = some (.bool (!last.2.2.2))) ∧ Below w.heap.size w W)
    (OwnFrom.and (OwnFrom.and (OwnFrom.and (OwnFrom.and (OwnFrom.and (Own.from (boxed_own _ _ _) _) (Own.from (boxed_own _ _ _) _)) (Own.from (boxed_own _ _ _) _)) (Own.from (boxed_own _ _ _) _)) (Own.from (fun s A B row hs _ _ => hs) _)) (ownFrom_below (Nat.le_refl _) (by omega)))
    (fun c => OwnFrom.and (Own.from (fun s A B row hs hg hr => by obtain ⟨hc, ini, last, e1, e2, e3, e4, e5⟩ := hs; exact ⟨hc, ini, last, e1, e2, e3, cell_kept e4 hg hr, cell_kept e5 hg hr⟩) _) (ownFrom_below (Nat.le_refl _) (by omega)))
    ⟨⟨⟨⟨⟨bT, b4⟩, b5⟩, bN⟩, fun p hp => (by cases hp)⟩, hB0⟩
    (fun x a' W => ∃ Bx, w.heap.size + 1 + 1 + 1 < Bx ∧ (W.cell? ⟨Bx, 0, none⟩ = some (.int .i64 x.2.1) ∧ W.cell? ⟨Bx, 1, none⟩ = some (.string x.2.2.1) ∧ W.cell? ⟨Bx, 2, none⟩ = some (.bool x.2.2.2)) ∧ a' = { tmps := #[.agg #[.string key, .slice a len cap], .int .i64 t, .pointer (some ⟨w.heap.size, 0, none⟩), .pointer (some ⟨w.heap.size + 1, 0, none⟩), .pointer (some ⟨w.heap.size + 1 + 1, 0, none⟩), .pointer (some ⟨w.heap.size + 1 + 1 + 1, 0, none⟩), undef, .pointer (some ⟨Bx, 0, none⟩), .pointer (some ⟨w.heap.size, 1, none⟩), .slice a len cap, .func (.func 150) #[] #[.pointer (some ⟨w.heap.size + 1 + 1 + 1 + 1, 0, none⟩)], .int .i64 (x.1 : Int), bkVal x.2, undef, undef, undef, undef, undef, undef, undef, undef, undef], defers := [] })
    (fun x a' _ X Y row hs hg hr => by obtain ⟨Bx, g1, ⟨g2, g3, g4⟩, g5⟩ := hs; exact ⟨Bx, g1, ⟨cell_kept g2 hg (fun r e => (hr r e).2), cell_kept g3 hg (fun r e => (hr r e).2), cell_kept g4 hg (fun r e => (hr r e).2)⟩, g5⟩)
    ?assign ?body ?done ?stop
  case assign =>
    rintro l pre x W K ⟨⟨⟨⟨⟨cT, c4⟩, c5⟩, cN⟩, hp⟩, hB⟩ hK
    simp only [bkVal]
    gi_wp2
    have hlN := cN.lt
    exact hK _ _ ((KeepsOthers.alloc _ _).from _) ((Below.refl _ W).alloc (by omega) _) ⟨⟨⟨⟨⟨cT.alloc _, c4.alloc _⟩, c5.alloc _⟩, cN.alloc _⟩, hp⟩, hB.alloc hB.size _⟩ ⟨W.heap.size, by omega, ⟨by simp, by simp, by simp⟩, rfl⟩
  case body =>
    rintro l pre x a' W hl ⟨r, hr⟩ ⟨⟨⟨⟨⟨cT, c4⟩, c5⟩, cN⟩, hp⟩, hB⟩ ⟨Bx, hBx, ⟨x0, x1, x2⟩, rfl⟩ hlt
    have dT := cT.cell
    have d4 := c4.cell
    have f4 := c4.frozen
    have d5 := c5.cell
    have f5 := c5.frozen
    gi_wp2
    · have hx : x.2.1 ≤ t := by assumption
      have hb1 : (W.setCell ⟨w.heap.size + 1 + 1, 0, none⟩ (.string x.2.2.1)).cell? ⟨w.heap.size + 1 + 1 + 1, 0, none⟩ = some (.bool false) := (World.cell?_of_block (Below.heap_setCell W ⟨w.heap.size + 1 + 1, 0, none⟩ _ (w.heap.size + 1 + 1 + 1) (by show w.heap.size + 1 + 1 + 1 ≠ w.heap.size + 1 + 1; omega))).trans d5
      have hk5 : ((W.setCell ⟨w.heap.size + 1 + 1, 0, none⟩ (.string x.2.2.1)).setCell ⟨w.heap.size + 1 + 1 + 1, 0, none⟩ (.bool (!x.2.2.2))).cell? ⟨w.heap.size + 1 + 1, 0, none⟩ = some (.string x.2.2.1) := (World.cell?_of_block (Below.heap_setCell (W.setCell ⟨w.heap.size + 1 + 1, 0, none⟩ (.string x.2.2.1)) ⟨w.heap.size + 1 + 1 + 1, 0, none⟩ (.bool (!x.2.2.2)) (w.heap.size + 1 + 1) (by show w.heap.size + 1 + 1 ≠ w.heap.size + 1 + 1 + 1; omega))).trans (World.cell?_setCell_same' W ⟨w.heap.size + 1 + 1, 0, none⟩ (.string x.2.2.1) (by rw [d4]; rfl))
      have hb5 : ((W.setCell ⟨w.heap.size + 1 + 1, 0, none⟩ (.string x.2.2.1)).setCell ⟨w.heap.size + 1 + 1 + 1, 0, none⟩ (.bool (!x.2.2.2))).cell? ⟨w.heap.size + 1 + 1 + 1, 0, none⟩ = some (.bool (!x.2.2.2)) := World.cell?_setCell_same' (W.setCell ⟨w.heap.size + 1 + 1, 0, none⟩ (.string x.2.2.1)) ⟨w.heap.size + 1 + 1 + 1, 0, none⟩ (.bool (!x.2.2.2)) (by rw [hb1]; rfl)
      have hB5 : Below w.heap.size w ((W.setCell ⟨w.heap.size + 1 + 1, 0, none⟩ (.string x.2.2.1)).setCell ⟨w.heap.size + 1 + 1 + 1, 0, none⟩ (.bool (!x.2.2.2))) := (hB.setCell (p := ⟨w.heap.size + 1 + 1, 0, none⟩) (by simp; omega) _).setCell (p := ⟨w.heap.size + 1 + 1 + 1, 0, none⟩) (by simp; omega) _
      gi_region
      all_goals gi_wp2
      all_goals exact ⟨(((KeepsOthers.setCell _ _ _).trans (KeepsOthers.setCell _ _ _)).trans (KeepsOthers.drew _)).from _, ⟨rfl, pre, x, rfl, hp, hx, hk5, hb5⟩, hB5.drew⟩
    · have hx : t < x.2.1 := by assumption
      exact ⟨KeepsFrom.refl _ _, Below.refl _ _, ⟨⟨⟨⟨cT, c4⟩, c5⟩, cN⟩, fun p hp' => (List.mem_append.1 hp').elim (hp p) (fun e => by simp at e; subst e; exact hx)⟩, hB⟩
  case done =>
    rintro D ys W hD rfl ⟨⟨⟨⟨⟨cT, c4⟩, c5⟩, cN⟩, hp⟩, hB⟩ hK
    have d4 := c4.cell
    have f4 := c4.frozen
    have d5 := c5.cell
    have f5 := c5.frozen
    gi_wp2
    have hb1 : (W.setCell ⟨w.heap.size + 1 + 1, 0, none⟩ (.string { data := #[] })).cell? ⟨w.heap.size + 1 + 1 + 1, 0, none⟩ = some (.bool false) := (World.cell?_of_block (Below.heap_setCell W ⟨w.heap.size + 1 + 1, 0, none⟩ _ (w.heap.size + 1 + 1 + 1) (by show w.heap.size + 1 + 1 + 1 ≠ w.heap.size + 1 + 1; omega))).trans d5
    have hK' := ((KeepsOthers.setCell W ⟨w.heap.size + 1 + 1, 0, none⟩ (.string { data := #[] })).trans (KeepsOthers.setCell _ ⟨w.heap.size + 1 + 1 + 1, 0, none⟩ (.bool false))).same D _ hK rfl
    refine ⟨by simp, .inl ⟨_, _, rfl, run_takeDeferred hK', ?_⟩⟩
    have hk5 := cell_kept ((World.cell?_of_block (Below.heap_setCell (W.setCell ⟨w.heap.size + 1 + 1, 0, none⟩ (.string { data := #[] })) ⟨w.heap.size + 1 + 1 + 1, 0, none⟩ (.bool false) (w.heap.size + 1 + 1) (by show w.heap.size + 1 + 1 ≠ w.heap.size + 1 + 1 + 1; omega))).trans (World.cell?_setCell_same' W ⟨w.heap.size + 1 + 1, 0, none⟩ (.string { data := #[] }) (by rw [d4]; rfl))) (grownBy_putObj' _ D (.deferred none)) (fun r e => by cases e; exact ⟨_, hK', rfl⟩)
    have hb5 := cell_kept (World.cell?_setCell_same' (W.setCell ⟨w.heap.size + 1 + 1, 0, none⟩ (.string { data := #[] })) ⟨w.heap.size + 1 + 1 + 1, 0, none⟩ (.bool false) (by rw [hb1]; rfl)) (grownBy_putObj' _ D (.deferred none)) (fun r e => by cases e; exact ⟨_, hK', rfl⟩)
    refine ⟨.tuple #[.string ⟨#[]⟩, .bool false], ?_, .inl ⟨rfl, hp⟩, ((hB.setCell (p := ⟨w.heap.size + 1 + 1, 0, none⟩) (by simp; omega) _).setCell (p := ⟨w.heap.size + 1 + 1 + 1, 0, none⟩) (by simp; omega) _).trans (belowK_b (w := w) (Nat.le_refl _) _ D _ _ (by omega) hK' rfl rfl)⟩
    simp [results, Tryz.f85, go_sem, hk5, hb5]
  case stop =>
    rintro D c pre W hD ⟨k, hk, rfl⟩ ⟨⟨rfl, ini, last, e1, e2, e3, e4, e5⟩, hB⟩ hK
    gi_wp2
    refine ⟨by simp, .inl ⟨_, _, rfl, run_takeDeferred hK, ?_⟩⟩
    have hk5 := cell_kept e4 (grownBy_putObj' _ D (.deferred none)) (fun r e => by cases e; exact ⟨_, hK, rfl⟩)
    have hb5 := cell_kept e5 (grownBy_putObj' _ D (.deferred none)) (fun r e => by cases e; exact ⟨_, hK, rfl⟩)
    refine ⟨.tuple #[.string last.2.2.1, .bool (!last.2.2.2)], ?_, .inr ⟨ini, last, ⟨k, hk, e1⟩, e2, e3, rfl⟩, hB.trans (belowK_b (w := w) (Nat.le_refl _) W D _ _ (by omega) hK rfl rfl)⟩
    simp [results, Tryz.f85, go_sem, hk5, hb5]
end Go.Proofs.YthbheejeloomjaaGreat
