/-
  Abstract values and states for the walks of this claim, and how they stand to the model's values and worlds.
  No condition: definitions and lemmas over any program.
-/
import Derived.Laws.AppendOwn
import Derived.Laws.OwnMore
import Derived.Laws.MakeOwn
import Derived.Below
import Derived.Calls
namespace Go.Ab
open Go.RowKit

/-- The block that a header may write to. -/
def _root_.Go.Value.blk : Value → Option Nat
  | .slice (some a) _ cap => if cap = 0 then none else some a.block
  | _ => none

/-- Abstract values. 'sl': a slice that is only read, as a tree; 'own', 'ptr': into an object of the state; 'rp': a pointer to memory that is only read. -/
inductive AV where
  | any
  | int (k : IntKind) (n : Int)
  | bool (b : Bool)
  | str (l : List UInt8)
  | nil
  | sl (xs : List (List AV))
  | rp (cs : List AV)
  | own (id : Nat)
  | ptr (id idx off : Nat)
  | agg (cs : List AV)
  | tup (cs : List AV)
  | fn (f : Nat) (caps : List AV)

structure AObj where
  box : Bool
  ty : Nat
  esz : Nat
  elems : List (List AV)

mutual
def RR (w : World) (ro : Nat → Prop) : AV → Value → Prop
  | .any, _ => True
  | .int k n, v => v = .int k n
  | .bool b, v => v = .bool b
  | .str l, v => v = .string ⟨l.toArray⟩
  | .nil, v => ∃ base, v = .slice base 0 0
  | .sl xs, v => ∃ base cap, v = .slice base xs.length cap ∧ xs.length ≤ cap ∧ (xs = [] ∨ ∃ b o esz, base = some ⟨b, o, none⟩ ∧ ro b ∧ EsR w ro esz xs (fun j => w.cell? ⟨b, o + j, none⟩))
  | .rp cs, v => ∃ b o, v = .pointer (some ⟨b, o, none⟩) ∧ ro b ∧ CsR w ro cs (fun j => w.cell? ⟨b, o + j, none⟩)
  | .own _, _ => False
  | .ptr _ _ _, _ => False
  | .agg cs, v => ∃ vs, v = .agg vs ∧ LR w ro cs vs.toList
  | .tup cs, v => ∃ vs, v = .tuple vs ∧ LR w ro cs vs.toList
  | .fn f caps, v => ∃ vs, v = .func (.func f) #[] vs ∧ LR w ro caps vs.toList
def LR (w : World) (ro : Nat → Prop) : List AV → List Value → Prop
  | [], [] => True
  | a :: as, v :: vs => RR w ro a v ∧ LR w ro as vs
  | [], _ :: _ => False
  | _ :: _, [] => False
def CsR (w : World) (ro : Nat → Prop) : List AV → (Nat → Option Value) → Prop
  | [], _ => True
  | a :: as, rd => (∃ v, rd 0 = some v ∧ RR w ro a v) ∧ CsR w ro as (fun j => rd (j + 1))
def EsR (w : World) (ro : Nat → Prop) (esz : Nat) : List (List AV) → (Nat → Option Value) → Prop
  | [], _ => True
  | x :: xs, rd => x.length = esz ∧ CsR w ro x rd ∧ EsR w ro esz xs (fun j => rd (j + esz))
end

structure Ctx where
  w : World
  ro : Nat → Prop
  hdr : Nat → Value
  objs : Nat → Option AObj

mutual
def VR (c : Ctx) : AV → Value → Prop
  | .own id, v => (c.objs id).isSome = true ∧ v = c.hdr id
  | .ptr id idx off, v => ∃ o b, c.objs id = some o ∧ (c.hdr id).blk = some b ∧ v = .pointer (some ⟨b, idx * o.esz + off, none⟩)
  | .agg cs, v => ∃ vs, v = .agg vs ∧ VL c cs vs.toList
  | .tup cs, v => ∃ vs, v = .tuple vs ∧ VL c cs vs.toList
  | .fn f caps, v => ∃ vs, v = .func (.func f) #[] vs ∧ VL c caps vs.toList
  | .any, _ => True
  | .int k n, v => v = .int k n
  | .bool b, v => v = .bool b
  | .str l, v => v = .string ⟨l.toArray⟩
  | .nil, v => ∃ base, v = .slice base 0 0
  | .sl xs, v => RR c.w c.ro (.sl xs) v
  | .rp cs, v => RR c.w c.ro (.rp cs) v
def VL (c : Ctx) : List AV → List Value → Prop
  | [], [] => True
  | a :: as, v :: vs => VR c a v ∧ VL c as vs
  | [], _ :: _ => False
  | _ :: _, [] => False
end

/-! RR under a change of the world and of what is only read. -/
section
variable {w w' : World} {ro ro' : Nat → Prop}

mutual
theorem RR.mono (hc : ∀ b o, ro b → w'.cell? ⟨b, o, none⟩ = w.cell? ⟨b, o, none⟩) (hr : ∀ b, ro b → ro' b) :
    ∀ (a : AV) (v : Value), RR w ro a v → RR w' ro' a v
  | .any, _, _ => by unfold RR; trivial
  | .int .., _, h => by unfold RR at h ⊢; exact h
  | .bool _, _, h => by unfold RR at h ⊢; exact h
  | .str _, _, h => by unfold RR at h ⊢; exact h
  | .nil, _, h => by unfold RR at h ⊢; exact h
  | .sl xs, v, h => by
    unfold RR at h ⊢
    obtain ⟨base, cap, h1, h2, h3⟩ := h
    refine ⟨base, cap, h1, h2, ?_⟩
    rcases h3 with h3 | ⟨b, o, esz, e1, e2, e3⟩
    · exact .inl h3
    · refine .inr ⟨b, o, esz, e1, hr b e2, ?_⟩
      exact EsR.mono hc hr esz xs _ _ (fun j => hc b (o + j) e2) e3
  | .rp cs, v, h => by
    unfold RR at h ⊢
    obtain ⟨b, o, h1, h2, h3⟩ := h
    exact ⟨b, o, h1, hr b h2, CsR.mono hc hr cs _ _ (fun j => hc b (o + j) h2) h3⟩
  | .own _, _, h => by unfold RR at h; exact h.elim
  | .ptr _ _ _, _, h => by unfold RR at h; exact h.elim
  | .agg cs, _, h => by
    unfold RR at h ⊢
    obtain ⟨vs, h1, h2⟩ := h
    exact ⟨vs, h1, LR.mono hc hr cs _ h2⟩
  | .tup cs, _, h => by
    unfold RR at h ⊢
    obtain ⟨vs, h1, h2⟩ := h
    exact ⟨vs, h1, LR.mono hc hr cs _ h2⟩
  | .fn _ cs, _, h => by
    unfold RR at h ⊢
    obtain ⟨vs, h1, h2⟩ := h
    exact ⟨vs, h1, LR.mono hc hr cs _ h2⟩
theorem LR.mono (hc : ∀ b o, ro b → w'.cell? ⟨b, o, none⟩ = w.cell? ⟨b, o, none⟩) (hr : ∀ b, ro b → ro' b) :
    ∀ (as : List AV) (vs : List Value), LR w ro as vs → LR w' ro' as vs
  | [], [], _ => by unfold LR; trivial
  | a :: as, v :: vs, h => by
    unfold LR at h ⊢
    exact ⟨RR.mono hc hr a v h.1, LR.mono hc hr as vs h.2⟩
  | [], _ :: _, h => by unfold LR at h; exact h.elim
  | _ :: _, [], h => by unfold LR at h; exact h.elim
theorem CsR.mono (hc : ∀ b o, ro b → w'.cell? ⟨b, o, none⟩ = w.cell? ⟨b, o, none⟩) (hr : ∀ b, ro b → ro' b) :
    ∀ (as : List AV) (rd rd' : Nat → Option Value), (∀ j, rd' j = rd j) → CsR w ro as rd → CsR w' ro' as rd'
  | [], _, _, _, _ => by unfold CsR; trivial
  | a :: as, rd, rd', hj, h => by
    unfold CsR at h ⊢
    obtain ⟨⟨v, h1, h2⟩, h3⟩ := h
    exact ⟨⟨v, by rw [hj]; exact h1, RR.mono hc hr a v h2⟩, CsR.mono hc hr as _ _ (fun j => hj (j + 1)) h3⟩
theorem EsR.mono (hc : ∀ b o, ro b → w'.cell? ⟨b, o, none⟩ = w.cell? ⟨b, o, none⟩) (hr : ∀ b, ro b → ro' b) (esz : Nat) :
    ∀ (xs : List (List AV)) (rd rd' : Nat → Option Value), (∀ j, rd' j = rd j) → EsR w ro esz xs rd → EsR w' ro' esz xs rd'
  | [], _, _, _, _ => by unfold EsR; trivial
  | x :: xs, rd, rd', hj, h => by
    unfold EsR at h ⊢
    exact ⟨h.1, CsR.mono hc hr x _ _ hj h.2.1, EsR.mono hc hr esz xs _ _ (fun j => hj (j + esz)) h.2.2⟩
end
end

/-! VR under a change of the context. -/
section
variable {c c' : Ctx}
mutual
theorem VR.mono (hR : ∀ a v, RR c.w c.ro a v → RR c'.w c'.ro a v)
    (ho : ∀ id o, c.objs id = some o → ∃ o', c'.objs id = some o' ∧ o'.esz = o.esz ∧ c'.hdr id = c.hdr id) :
    ∀ (a : AV) (v : Value), VR c a v → VR c' a v
  | .own id, v, h => by
    unfold VR at h ⊢
    obtain ⟨h1, h2⟩ := h
    obtain ⟨o, ho1⟩ := Option.isSome_iff_exists.1 h1
    obtain ⟨o', e1, _, e3⟩ := ho id o ho1
    exact ⟨by simp [e1], by rw [e3]; exact h2⟩
  | .ptr id idx off, v, h => by
    unfold VR at h ⊢
    obtain ⟨o, b, h1, h2, h3⟩ := h
    obtain ⟨o', e1, e2, e3⟩ := ho id o h1
    exact ⟨o', b, e1, by rw [e3]; exact h2, by rw [e2]; exact h3⟩
  | .agg cs, _, h => by
    unfold VR at h ⊢
    obtain ⟨vs, h1, h2⟩ := h
    exact ⟨vs, h1, VL.mono hR ho cs _ h2⟩
  | .tup cs, _, h => by
    unfold VR at h ⊢
    obtain ⟨vs, h1, h2⟩ := h
    exact ⟨vs, h1, VL.mono hR ho cs _ h2⟩
  | .fn _ cs, _, h => by
    unfold VR at h ⊢
    obtain ⟨vs, h1, h2⟩ := h
    exact ⟨vs, h1, VL.mono hR ho cs _ h2⟩
  | .any, _, _ => by unfold VR; trivial
  | .int .., _, h => by unfold VR at h ⊢; exact h
  | .bool _, _, h => by unfold VR at h ⊢; exact h
  | .str _, _, h => by unfold VR at h ⊢; exact h
  | .nil, _, h => by unfold VR at h ⊢; exact h
  | .sl _, _, h => by unfold VR at h ⊢; exact hR _ _ h
  | .rp _, _, h => by unfold VR at h ⊢; exact hR _ _ h
theorem VL.mono (hR : ∀ a v, RR c.w c.ro a v → RR c'.w c'.ro a v)
    (ho : ∀ id o, c.objs id = some o → ∃ o', c'.objs id = some o' ∧ o'.esz = o.esz ∧ c'.hdr id = c.hdr id) :
    ∀ (as : List AV) (vs : List Value), VL c as vs → VL c' as vs
  | [], [], _ => by unfold VL; trivial
  | a :: as, v :: vs, h => by
    unfold VL at h ⊢
    exact ⟨VR.mono hR ho a v h.1, VL.mono hR ho as vs h.2⟩
  | [], _ :: _, h => by unfold VL at h; exact h.elim
  | _ :: _, [], h => by unfold VL at h; exact h.elim
end

/-- A change of the context with what becomes of the values that name an object. -/
def AV.sub (so : Nat → AV) (sp : Nat → Nat → Nat → AV) : AV → AV
  | .own id => so id
  | .ptr id idx off => sp id idx off
  | .agg cs => .agg (subL cs)
  | .tup cs => .tup (subL cs)
  | .fn f cs => .fn f (subL cs)
  | a => a
where subL : List AV → List AV
  | [] => []
  | a :: as => AV.sub so sp a :: subL as

mutual
theorem VR.sub {so : Nat → AV} {sp : Nat → Nat → Nat → AV} (hR : ∀ a v, RR c.w c.ro a v → RR c'.w c'.ro a v)
    (hso : ∀ id v, VR c (.own id) v → VR c' (so id) v) (hsp : ∀ id idx off v, VR c (.ptr id idx off) v → VR c' (sp id idx off) v) :
    ∀ (a : AV) (v : Value), VR c a v → VR c' (a.sub so sp) v
  | .own id, v, h => by unfold AV.sub; exact hso id v h
  | .ptr id idx off, v, h => by unfold AV.sub; exact hsp id idx off v h
  | .agg cs, _, h => by
    unfold AV.sub
    unfold VR at h ⊢
    obtain ⟨vs, h1, h2⟩ := h
    exact ⟨vs, h1, VL.sub hR hso hsp cs _ h2⟩
  | .tup cs, _, h => by
    unfold AV.sub
    unfold VR at h ⊢
    obtain ⟨vs, h1, h2⟩ := h
    exact ⟨vs, h1, VL.sub hR hso hsp cs _ h2⟩
  | .fn _ cs, _, h => by
    unfold AV.sub
    unfold VR at h ⊢
    obtain ⟨vs, h1, h2⟩ := h
    exact ⟨vs, h1, VL.sub hR hso hsp cs _ h2⟩
  | .any, _, _ => by unfold AV.sub VR; trivial
  | .int .., _, h => by unfold AV.sub; unfold VR at h ⊢; exact h
  | .bool _, _, h => by unfold AV.sub; unfold VR at h ⊢; exact h
  | .str _, _, h => by unfold AV.sub; unfold VR at h ⊢; exact h
  | .nil, _, h => by unfold AV.sub; unfold VR at h ⊢; exact h
  | .sl _, _, h => by unfold AV.sub; unfold VR at h ⊢; exact hR _ _ h
  | .rp _, _, h => by unfold AV.sub; unfold VR at h ⊢; exact hR _ _ h
theorem VL.sub {so : Nat → AV} {sp : Nat → Nat → Nat → AV} (hR : ∀ a v, RR c.w c.ro a v → RR c'.w c'.ro a v)
    (hso : ∀ id v, VR c (.own id) v → VR c' (so id) v) (hsp : ∀ id idx off v, VR c (.ptr id idx off) v → VR c' (sp id idx off) v) :
    ∀ (as : List AV) (vs : List Value), VL c as vs → VL c' (AV.sub.subL so sp as) vs
  | [], [], _ => by unfold AV.sub.subL VL; trivial
  | a :: as, v :: vs, h => by
    unfold VL at h
    unfold AV.sub.subL VL
    exact ⟨VR.sub hR hso hsp a v h.1, VL.sub hR hso hsp as vs h.2⟩
  | [], _ :: _, h => by unfold VL at h; exact h.elim
  | _ :: _, [], h => by unfold VL at h; exact h.elim
end
end

end Go.Ab
