/-
  A call that may share, with an object that is given up.
  No condition.
-/
import Derived.Test.YtkalobhgonaibaaM4
namespace Go.Ab
set_option linter.unusedVariables false

theorem Ans_mono {P : Program} {f : Nat} {args : Array Value} {w : World} {R S : Value → World → Prop} (h : Ans P f args w R) (hrs : ∀ v w', R v w' → S v w') : Ans P f args w S := by
  unfold Ans at h ⊢
  split at h
  · exact hrs _ _ h
  · exact h.mono fun e w' ⟨v, e1, e2⟩ => ⟨v, e1, hrs _ _ e2⟩
  · exact h.elim
theorem CallTo {P : Program} {f : Nat} {x : AV} {id nid : Nat} {s : St} {d : Option Nat} {K : St → Prop} {r : AV} {ob : AObj} {args' : List AV} (hpc : PC P true f args' r []) (ho : s.objs id = some ob) (hb : ob.box = false) (he : [rf s x, .sl ob.elems] = args') (hx : x.ro2 = true)
    (h : (frzIds s [id]).putN d (r.shift nid) K) : CallA P f [x, .own id] s nid d K := by
  subst he
  unfold CallA
  refine .inl fun F w0 gv a w hdr hs vals hargs => ?_
  obtain ⟨v1, v2, rfl, hv1, hv2⟩ : ∃ v1 v2, vals = [v1, v2] ∧ VR (s.ctx F w hdr) x v1 ∧ VL (s.ctx F w hdr) [.own id] [v2] := by
    match vals, hargs with
    | [v, u], h => unfold VL at h; exact ⟨v, u, rfl, h.1, h.2⟩
    | [], h => unfold VL at h; exact h.elim
    | [_], h => unfold VL at h; have := h.2; unfold VL at this; exact this.elim
    | _ :: _ :: _ :: _, h => unfold VL at h; have := h.2; unfold VL at this; have := this.2; unfold VL at this; exact this.elim
  obtain ⟨hs', h2⟩ := frzIds_ok [id] s hs
  have hro : ∀ b, roOf F w hdr s.objs b → roOf F w hdr (frzIds s [id]).objs b := by
    intro b ⟨k0, k1, k2⟩
    refine ⟨k0, k1, fun i oi hi => ?_⟩
    obtain ⟨o, q1, _⟩ := h2 i oi hi
    exact k2 i o q1
  have hf := frz_vals hs [id] [.own id] [v2] (by simp) (fun q hq hm => by rw [List.mem_singleton.1 hm] at hq; cases hq) hv2
  have hrf : rf0 s (.own id) = .sl ob.elems := by simp only [rf0, ho, hb]; rfl
  simp only [List.map_cons, List.map_nil, hrf] at hf
  unfold VL at hf
  have h1 := ro2s_ok (s := s) (c := s.ctx F w hdr) (VL.cons hv1 VL.nil) (show [x].all AV.ro2 = true by simp [hx])
  obtain ⟨k1, k2⟩ := putK_elim (putN_elim h)
  have hc := hpc.run w (roOf F w hdr (frzIds s [id]).objs) [v1, v2] (fun b hb => hb.2.1) (by
    unfold LR
    refine ⟨?_, ?_⟩
    · have := LR.mono (fun _ _ _ => rfl) hro _ _ h1
      unfold LR at this
      exact this.1
    · unfold LR
      exact ⟨hf.1.readOnly rfl, by unfold LR; trivial⟩)
  refine Ans_mono hc fun v w' hq => ?_
  obtain ⟨hdr1, hb', hres⟩ := hq
  obtain ⟨hdr', q1, q2⟩ := hs'.called (nid := nid) (fun _ b hb => hb) hb' hres rfl
  exact ⟨_, k2, hdr', q1.put k1 q2⟩
end Go.Ab
