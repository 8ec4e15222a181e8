/-
  Regions that draw their order are sound on abstract states.
  No condition: lemmas over any program.
-/
import Derived.Test.YtgeoghlgpnedfaaAb13
namespace Go.Ab
open Go.RowKit

section
variable {P : Program} {L : List Oper}

theorem opW_opA {o : Oper} {nid : Nat} {s : St} {K : St → Prop} (h : opW P o.op nid s fun u => Fits o nid s u ∧ K (u.to nid o.dst s)) : opA P o nid s K := by
  cases hst : isStore o.op with
  | false =>
    rw [opW_of hst] at h
    obtain ⟨v, os, ⟨⟨f1, f2, f3, f4⟩, hk⟩, h2, _, _⟩ := opR_some h
    exact opR_opA (h2 (fun v os => GiveOk nid o.dst os s ∧ K (laidS nid o.dst v os s)) ⟨⟨f1, f2, f3⟩, hk⟩)
  | true =>
    obtain ⟨dst, op, type, pos, after, guard⟩ := o
    cases op <;> simp [isStore] at hst
    case store T x y =>
      simp only [opW] at h
      simp only [opA]
      split at h
      · rename_i id idx off hx
        simp only [hx]
        split at h
        · rename_i ob ho
          simp only [ho]
          split at h
          · rename_i cs hc
            split at h
            · rename_i n hn
              split at h
              · exact h.elim
              · rename_i hb
                split at h
                · rename_i e he
                  obtain ⟨h1, ⟨f1, f2, f3, f4⟩, hk⟩ := h
                  have hd : dst = none := f4 rfl
                  subst hd
                  simp only [hc, hn, hb, he, storeK_eq]
                  refine ⟨h1, ?_⟩
                  simp only [Out.to, Out.objs, St.put, hb] at hk
                  exact hk
                · exact h.elim
              · rename_i hb
                obtain ⟨e, he, ⟨h1, h2, h3, h4⟩, ⟨f1, f2, f3, f4⟩, hk⟩ := h
                have hd : dst = none := f4 rfl
                subst hd
                have hr : frzL s cs = (s, cs) := by
                  unfold frzL
                  rw [h4]
                  simp only [frzIds, Prod.mk.injEq, true_and]
                  rw [List.all_eq_true] at h3
                  exact (List.map_congr_left fun a ha => plain_rf0 (h3 a ha)).trans (List.map_id' cs)
                simp only [hc, hn, hb, hr, ho, forceS_eq]
                refine ⟨e, he, ⟨trivial, h1, h2, h3⟩, ?_⟩
                simp only [Out.to, Out.objs, St.put, hb] at hk
                exact hk
            · exact h.elim
          · exact h.elim
        · exact h.elim
      · exact h.elim

theorem dstVal_eq (s : St) (j : Nat) : oneW.dstV L s j = dstVal L s j := rfl

theorem oneW_oneA {o : Oper} {nid : Nat} {s : St} {K : St → Prop} (h : oneW P L o nid s fun u => Fits o nid s u ∧ K (u.to nid o.dst s)) : oneA P L o nid s K := by
  unfold oneW at h
  unfold oneA
  cases hg : o.guard with
  | none =>
    rw [hg] at h
    exact opW_opA h
  | some jw =>
    obtain ⟨j, want⟩ := jw
    rw [hg] at h
    simp only [dstVal_eq] at h ⊢
    have skip : (Fits o nid s ⟨.tup [], [], none⟩ ∧ K (Out.to ⟨.tup [], [], none⟩ nid o.dst s)) → s.putK o.dst (.tup []) K := fun h => putK_of h.1.1 (by simpa [Out.to, Out.objs, addObjs] using h.2)
    split at h
    · rename_i b hb
      simp only [hb]
      cases want with
      | true => exact splitB_mono h opW_opA skip
      | false => exact splitB_mono h skip opW_opA
    · rename_i l hb
      try simp only [hb]
      split at h
      · exact skip h
      · exact h.elim
    · exact h.elim

theorem Sim.WF {F : Nat → Prop} {w0 : Base} {gv : List Value} {s : St} {a : Act} {w : World} {hdr : Nat → Hdr} (h : Sim F w0 gv s a w hdr) : WF s := by
  refine ⟨fun t => VR.clo (c := s.ctx F w hdr) _ _ (h.env t), fun id o ho hb => ?_⟩
  obtain ⟨_, _, _, cs, _, _, k6⟩ := h.objs id o ho
  exact VL.clo (c := s.ctx F w hdr) _ _ (k6.box (box_kind hb)).1

theorem SimE.WF {F : Nat → Prop} {w0 : Base} {gv : List Value} {s : St} {a : Act} {w : World} (h : SimE F w0 gv s a w) : WF s := by
  obtain ⟨_, h⟩ := h
  exact h.WF

theorem wpAny_of_W {base : Nat} {Q : St → Prop} {Q' : Exit → Act → World → Prop} {F : Nat → Prop} {w0 : Base} {gv : List Value} (hq : ∀ s a w, Q s → SimE F w0 gv s a w → Q' .normal a w) :
    ∀ (fuel : Nat) (listed : Array Bool) (s : St) (a : Act) (w : World), SimE F w0 gv s a w → wpAnyW P L base Q fuel listed s → wpAny P .any L.toArray Q' fuel listed a w
  | 0, _, _, _, _, hs, h => ⟨h.1, hq _ _ _ h.2 hs⟩
  | fuel + 1, listed, s, a, w, hs, h => by
    refine ⟨fun h0 => hq _ _ _ (h.1 h0) hs, fun i hi => ?_⟩
    have hst := h.2 i hi
    unfold stepW at hst
    unfold wpOp
    cases hL : L[i]? with
    | none =>
      simp only [hL] at hst
      simp only [List.getElem?_toArray, hL]
      exact wpAny_of_W hq fuel _ _ _ _ hs hst
    | some o =>
      simp only [hL] at hst
      simp only [List.getElem?_toArray, hL]
      rcases wanted_of hs (oneW_oneA hst) with ⟨hw, ho⟩ | ⟨hw, hp⟩
      · rw [if_pos hw]
        exact .inl (opA_ok ho F w0 gv a w hs _ _ fun s' a' w' hk hs' => wpAny_of_W hq fuel _ _ _ _ hs' hk)
      · rw [if_neg (by rw [hw]; simp)]
        obtain ⟨s', hk, hs'⟩ := skip_ok hp hs
        exact wpAny_of_W hq fuel _ _ _ _ hs' hk

theorem SimE.drew {F : Nat → Prop} {w0 : Base} {gv : List Value} {s : St} {a : Act} {w : World} (h : SimE F w0 gv s a w) : SimE F w0 gv s a { w with drawn := w.drawn + 1 } := by
  obtain ⟨hdr, h⟩ := h
  refine ⟨hdr, ?_⟩
  have := h.grow (w' := { w with drawn := w.drawn + 1 }) (hdr' := hdr) (objs' := s.objs) ⟨rfl, rfl, rfl, Nat.le_refl _, fun _ _ => rfl⟩ (fun id o ho => ⟨ho, rfl⟩) (fun id o ho hn => by rw [hn] at ho; cases ho) (fun i j o o' b hi hj ni => by rw [ni] at hi; cases hi)
  exact this

theorem drawA_ok {base : Nat} {ops : Array Oper} {id : Nat} {s : St} {K : St → Prop} (h : drawA P base ops.toList s K) {F : Nat → Prop} {w0 : Base} {gv : List Value} {a : Act} {w : World} (hs : SimE F w0 gv s a w) {Q : Exit → Act → World → Prop}
    (hq : ∀ s' a' w', K s' → SimE F w0 gv s' a' w' → Q .normal a' w') : (Code.region id ops true).wp P Q a w := by
  obtain ⟨⟨h1, h2, h3⟩, h4⟩ := h
  simp only [Bool.and_eq_true] at h3
  simp only [Region.lexB, Bool.and_eq_true] at h2
  refine wp_region_any h1 ?_
  have hlex := wpAnyW_lex (P := P) (base := base) (memOne_spec h3.1) h3.2 ops.toList 0 (Array.replicate ops.size false) s (by simp) (fun j hj _ => by omega) (by simpa using h2.2) (by simp) hs.WF h4
  have := wpAny_of_W (P := P) (L := ops.toList) (base := base) (Q := K) (Q' := Q) hq _ _ _ _ _ hs.drew hlex
  simpa using this

end
end Go.Ab
