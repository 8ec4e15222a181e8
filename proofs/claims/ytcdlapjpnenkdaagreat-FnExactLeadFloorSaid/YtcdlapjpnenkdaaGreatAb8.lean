/-
  That each operation does what is said of it: those that make no memory, and those that lay an object.
  No condition: lemmas over any program.
-/
import Derived.Test.YtcdlapjpnenkdaaGreatAb7
namespace Go.Ab
open Go.RowKit

def OpOk (P : Program) (o : Oper) (s : St) (K : St → Prop) : Prop :=
  ∀ F w0 gv a w, SimE F w0 gv s a w → ∀ (next : Act → World → Prop) Q, (∀ s' a' w', K s' → SimE F w0 gv s' a' w' → next a' w') → o.wp P a w next Q

theorem ok_value {P : Program} {o : Oper} {s s1 : St} {av : AV} {K : St → Prop} (hk : s1.putK o.dst av K)
    (h : ∀ F w0 gv a w hdr, Sim F w0 gv s a w hdr → ∃ v w' hdr', (execOp a.eval o).run P w = .ok (.value v) w' ∧ Sim F w0 gv s1 a w' hdr' ∧ VR (s1.ctx F w' hdr') av v) : OpOk P o s K := by
  intro F w0 gv a w ⟨hdr, hs⟩ next Q hn
  obtain ⟨v, w', hdr', h1, h2, h3⟩ := h F w0 gv a w hdr hs
  obtain ⟨k1, k2⟩ := putK_elim hk
  unfold Oper.wp
  rw [h1]
  exact hn _ _ _ k2 ⟨hdr', h2.put k1 h3⟩

theorem ok_skip {P : Program} {o : Oper} {s s1 : St} {K : St → Prop} (hd : o.dst = none) (hk : K s1)
    (h : ∀ F w0 gv a w hdr, Sim F w0 gv s a w hdr → ∃ w' hdr', (execOp a.eval o).run P w = .ok .skip w' ∧ Sim F w0 gv s1 a w' hdr') : OpOk P o s K := by
  intro F w0 gv a w ⟨hdr, hs⟩ next Q hn
  obtain ⟨w', hdr', h1, h2⟩ := h F w0 gv a w hdr hs
  unfold Oper.wp
  rw [h1]
  have : a.put o.dst undef = a := by rw [hd]; rfl
  show next (a.put o.dst undef) w'
  rw [this]
  exact hn _ _ _ hk ⟨hdr', h2⟩

section
variable {P : Program} {s : St} {K : St → Prop} {dst : Option Tmp} {type : TypeId} {pos : String} {after : Array Edge} {guard : Option (Nat × Bool)}

/-- An operation that gives a value and leaves the world alone. -/
theorem ok_pure {op : Op} {av : AV} (hk : s.putK dst av K)
    (h : ∀ F w0 gv a w hdr, Sim F w0 gv s a w hdr → ∃ v, (execOp a.eval ⟨dst, op, type, pos, after, guard⟩).run P w = .ok (.value v) w ∧ VR (s.ctx F w hdr) av v) : OpOk P ⟨dst, op, type, pos, after, guard⟩ s K :=
  ok_value (s1 := s) hk fun F w0 gv a w hdr hs => by
    obtain ⟨v, h1, h2⟩ := h F w0 gv a w hdr hs
    exact ⟨v, w, hdr, h1, hs, h2⟩

theorem ok_move {x : Operand} (h : s.putK dst (s.val x) K) : OpOk P ⟨dst, .move x, type, pos, after, guard⟩ s K :=
  ok_pure h fun F w0 gv a w hdr hs => ⟨a.eval x, by simp [execOp], hs.val x⟩

theorem ok_assign {x : Operand} (h : s.putK dst (s.val x) K) : OpOk P ⟨dst, .assign x, type, pos, after, guard⟩ s K :=
  ok_pure h fun F w0 gv a w hdr hs => ⟨a.eval x, by simp [execOp], hs.val x⟩

theorem ok_pick {c x y : Operand} {t : Bool} (hc : s.val c = .bool t) (h : splitB t (s.putK dst (s.val x) K) (s.putK dst (s.val y) K)) : OpOk P ⟨dst, .pick c x y, type, pos, after, guard⟩ s K := by
  have h := splitB_elim h
  have hv : ∀ F w0 gv a w hdr, Sim F w0 gv s a w hdr → a.eval c = .bool t := fun F w0 gv a w hdr hs => by
    have := hs.val c
    rw [hc] at this
    unfold VR at this
    exact this
  cases t with
  | true => exact ok_pure (h.1 rfl) fun F w0 gv a w hdr hs => ⟨a.eval x, by simp [execOp, hv F w0 gv a w hdr hs, asBool], hs.val x⟩
  | false => exact ok_pure (h.2 rfl) fun F w0 gv a w hdr hs => ⟨a.eval y, by simp [execOp, hv F w0 gv a w hdr hs, asBool], hs.val y⟩

theorem ok_load {T : TypeId} {x : Operand} {cs : List AV} {v : AV} (hc : s.cellsAt (s.val x) = some cs) (ht : takeA P T cs = some v) (h : s.putK dst v K) : OpOk P ⟨dst, .load T x, type, pos, after, guard⟩ s K :=
  ok_pure h fun F w0 gv a w hdr hs => by
    obtain ⟨u, h1, h2⟩ := hs.load (hs.val x) hc ht
    exact ⟨u, by simp [execOp, h1], h2⟩

theorem ok_fieldAddr {T : TypeId} {x : Operand} {f off : Nat} {t : TypeId} {p : AV} (hf : fieldOff P T f = some (off, t)) (hm : moveP (s.val x) off = some p) (h : s.putK dst p K) : OpOk P ⟨dst, .fieldAddr T x f, type, pos, after, guard⟩ s K :=
  ok_pure h fun F w0 gv a w hdr hs => by
    obtain ⟨b, o, h1, h2⟩ := moveP_ok (hs.val x) hm
    exact ⟨_, by simp [execOp, h1, run_fieldAt hf], h2⟩

theorem run_part {c : Ctx} {P : Program} {t : TypeId} {cs : List AV} {vs : Array Value} {off : Nat} {v : AV} (hL : VL c cs vs.toList) (ht : takeA P t (cs.drop off) = some v) (w : World) : ∃ u, (part t vs off).run P w = .ok u w ∧ VR c v u := by
  have hd := hL.drop off
  unfold takeA at ht
  cases hi : P.info? t with
  | none => simp [hi] at ht
  | some i =>
    cases hu : P.underlying t with
    | none => simp [hi, hu] at ht
    | some d =>
      simp only [hi, hu] at ht
      by_cases hg : isAggD d = true
      · simp only [hg, if_true] at ht
        split at ht
        · simp only [Option.some.injEq] at ht
          subst ht
          refine ⟨.agg (vs.extract off (off + i.size)), ?_, ?_⟩
          · simp [part, run_isAgg hu, hg, sizeOf, typeInfo, hi]
          · unfold VR
            refine ⟨_, rfl, ?_⟩
            have := hd.take i.size
            have e : (vs.extract off (off + i.size)).toList = (vs.toList.drop off).take i.size := by
              simp [List.extract_eq_take_drop]
            rw [e]
            exact this
        · cases ht
      · simp only [hg] at ht
        have hg' : isAggD d = false := by simpa using hg
        have ht' : (cs.drop off)[0]? = some v := by
          cases hcd : cs.drop off with
          | nil => rw [hcd] at ht; simp at ht
          | cons a as => rw [hcd] at ht; simpa using ht
        obtain ⟨u, h1, h2⟩ := hd.get 0 v ht'
        refine ⟨u, ?_, h2⟩
        have h1' : vs[off]? = some u := by
          rw [List.getElem?_drop] at h1
          simpa using h1
        simp [part, run_isAgg hu, hg', h1']

theorem ok_field {T : TypeId} {x : Operand} {f off : Nat} {t : TypeId} {cs : List AV} {v : AV} (hf : fieldOff P T f = some (off, t)) (hx : s.val x = .agg cs) (ht : takeA P t (cs.drop off) = some v) (h : s.putK dst v K) : OpOk P ⟨dst, .field T x f, type, pos, after, guard⟩ s K :=
  ok_pure h fun F w0 gv a w hdr hs => by
    have hv := hs.val x
    rw [hx] at hv
    unfold VR at hv
    obtain ⟨vs, e1, e2⟩ := hv
    obtain ⟨u, h1, h2⟩ := run_part (P := P) e2 ht w
    refine ⟨u, ?_, h2⟩
    unfold fieldOff at hf
    split at hf
    · rename_i fs hu
      split at hf
      · rename_i fd hfd
        split at hf
        · split at hf
          · cases hf
          · cases hf
            simp [execOp, e1, Instr.field, run_underlying hu, hfd, asAgg, h1]
        · cases hf
      · cases hf
    · cases hf

theorem intA_ok {c : Ctx} {x : AV} {v : Value} {k : IntKind} {n : Int} (h : VR c x v) (hx : intA x = some (k, n)) : v = .int k n := by
  cases x <;> simp [intA] at hx
  obtain ⟨rfl, rfl⟩ := hx
  unfold VR at h
  exact h

theorem ok_indexAddr {T e : TypeId} {x i : Operand} {esz len : Nat} {k : IntKind} {n : Int} {p : AV} (he : elemOf? P T = some e) (hs0 : sizeOf? P e = some esz) (hi : intA (s.val i) = some (k, n))
    (hp : indexP s (s.val x) n esz = some (len, p)) (hb : 0 ≤ n ∧ n < len) (hx : ∀ xs y, s.val x = .sl xs → xs[n.toNat]? = some y → y.length = esz) (h : s.putK dst p K) : OpOk P ⟨dst, .indexAddr T x i, type, pos, after, guard⟩ s K :=
  ok_pure h fun F w0 gv a w hdr hs => by
    obtain ⟨u, h1, h2⟩ := hs.indexAt he hs0 (hs.val x) (k := k) hp hb.1 hb.2 hx
    exact ⟨u, by simp [execOp, intA_ok (hs.val i) hi, h1], h2⟩

theorem ok_extract {x : Operand} {i : Nat} {vs : List AV} {v : AV} (hx : s.val x = .tup vs) (hi : vs[i]? = some v) (h : s.putK dst v K) : OpOk P ⟨dst, .extract x i, type, pos, after, guard⟩ s K :=
  ok_pure h fun F w0 gv a w hdr hs => by
    have h1 := hs.val x
    rw [hx] at h1
    unfold VR at h1
    obtain ⟨us, e1, e2⟩ := h1
    obtain ⟨u, e3, e4⟩ := e2.get i v hi
    have e5 : us[i]? = some u := by simpa using e3
    exact ⟨u, by simp [execOp, e1, Instr.extract, e5], e4⟩

theorem run_part1 {c : Ctx} {t : TypeId} {d : TypeDesc} {off : Nat} {xs : List AV} {us : Array Value} {x : AV} (hd : P.underlying t = some d) (hg : isAggD d = false) (hv : VL c xs us.toList) (hx : xs[off]? = some x) (w : World) :
    ∃ u, (part t us off).run P w = .ok u w ∧ VR c x u := by
  obtain ⟨u, h1, h2⟩ := hv.get off x hx
  have h3 : us[off]? = some u := by simpa using h1
  exact ⟨u, by simp [part, run_isAgg hd, hg, h3], h2⟩

theorem leafB_ok {c : Ctx} {t : TypeId} {off : Nat} {xs ys : List AV} {us vs : Array Value} {x y : AV} {b : Bool} (h : leafB P t x y = some b) (hu : VL c xs us.toList) (hv : VL c ys vs.toList) (hx : xs[off]? = some x) (hy : ys[off]? = some y) (d : Nat) (w : World) (K : Bool → Sem Bool) :
    (do let a ← part t us off
        let b ← part t vs off
        let r ← Op.equalIn (d + 1) t a b
        K r).run P w = (K b).run P w := by
  cases x <;> simp only [leafB] at h <;> try (cases h; done)
  all_goals
    cases y <;> simp only at h <;> try (cases h; done)
    split at h
    · rename_i hd
      (try split at h) <;> cases h
      (try (rename_i hk; subst hk))
      obtain ⟨u, h1, h2⟩ := run_part1 hd rfl hu hx w
      obtain ⟨v, h3, h4⟩ := run_part1 hd rfl hv hy w
      unfold VR at h2 h4
      subst h2
      subst h4
      simp only [Sem.run_bind, h1, h3, Result.andThen_ok]
      first
      | rw [run_equalIn_int w d t _ _ _ _ hd]; rfl
      | rw [run_equalIn_bool' w d t _ _ hd]; rfl
      | (rw [run_equalIn_string w d t _ _ hd]; simp [ByteArray.toList_eq])
    · cases h

theorem eqF_ok {c : Ctx} {xs ys : List AV} {us vs : Array Value} (hu : VL c xs us.toList) (hv : VL c ys vs.toList) (d : Nat) (w : World) : ∀ (fs : List Field) (b : Bool), fs.all (fun f => f.name != "_") = true → eqF P xs ys fs = some b → (Op.eqFields (d + 1) us vs fs).run P w = .ok b w
  | [], b, _, h => by
    simp only [eqF] at h
    cases h
    simp [Op.eqFields]
  | f :: fs, b, hn, h => by
    simp only [List.all_cons, Bool.and_eq_true, bne_iff_ne, ne_eq] at hn
    have ih := eqF_ok hu hv d w fs
    simp only [eqF] at h
    split at h
    · rename_i x hx
      split at h
      · rename_i y hy
        split at h
        · rename_i b1 hb
          rw [Op.eqFields, if_pos hn.1, leafB_ok hb hu hv hx hy]
          split at h
          · cases h
            cases b <;> simp [Op.eqFields]
          · split at h
            · rename_i r hr
              cases h
              cases b1
              · simp
              · simp [ih r hn.2 hr]
            · cases h
        · cases h
      · cases h
    · cases h

theorem binA_ok {op : BinOp} {T : TypeId} {x y : AV} {c : Option Prop} {v : AV} (h : binA P op T x y = some (c, v)) (hc0 : ∀ p, c = some p → p) {cx : Ctx} {u u' : Value} (h1 : VR cx x u) (h2 : VR cx y u') (w : World) (X Y : Operand) :
    ∃ r, (do eqGuard op T X Y u u'; binOp op T u u').run P w = .ok r w ∧ VR cx v r := by
  cases x <;> simp only [binA] at h <;> try (cases h; done)
  case int k a =>
    cases y <;> simp only at h <;> try (cases h; done)
    case int k' b =>
      unfold VR at h1 h2
      subst h1
      subst h2
      cases op
      case shl =>
        simp only at h
        cases h
        have hc := hc0 _ rfl
        refine ⟨.int k (k.wrap (a * 2 ^ min b.toNat k.bits)), ?_, by unfold VR; rfl⟩
        simp [eqGuard, binOp, Op.shift, show ¬ b < 0 by omega]
      case shr =>
        simp only at h
        cases h
        have hc := hc0 _ rfl
        refine ⟨.int k (a.fdiv (2 ^ min b.toNat k.bits)), ?_, by unfold VR; rfl⟩
        simp [eqGuard, binOp, Op.shift, show ¬ b < 0 by omega]
      all_goals
        simp only at h
        split at h
        · rename_i hk
          subst hk
          simp only [intBin] at h
          cases h
          try
            refine ⟨_, ?_, by unfold VR; rfl⟩
            first
              | (simp [eqGuard, binOp, Op.intArith, Op.intDiv, Op.intBits, Op.intCmp]; done)
              | (simp [eqGuard, binOp, Op.intDiv, hc0 _ rfl]; done)
        · cases h
  case str l =>
    cases y <;> simp only at h <;> try (cases h; done)
    case str l' =>
      unfold VR at h1 h2
      subst h1
      subst h2
      cases op <;> simp only [strBin] at h <;> cases h
      case add =>
        have hc := hc0 _ rfl
        refine ⟨.string ⟨(l ++ l').toArray⟩, ?_, by unfold VR; rfl⟩
        have hr := run_string_add_sum (P := P) (w := w) ⟨l.toArray⟩ ⟨l'.toArray⟩ (by simp [ByteArray.size]; omega)
        have he : (⟨l.toArray⟩ : ByteArray) ++ ⟨l'.toArray⟩ = ⟨(l ++ l').toArray⟩ := by
          apply ByteArray.ext
          simp
        rw [he] at hr
        simp [eqGuard, binOp, hr]
      all_goals
        refine ⟨_, ?_, by unfold VR; rfl⟩
        simp [eqGuard, binOp, Op.stringOp]
  case bool b =>
    cases y <;> simp only at h <;> try (cases h; done)
    case bool b' =>
      unfold VR at h1 h2
      subst h1
      subst h2
      split at h
      · rename_i hb
        have hu : P.underlying T = some .bool := by
          unfold isBoolT at hb
          split at hb
          · assumption
          · cases hb
        cases op <;> simp only at h <;> cases h
        · exact ⟨.bool (b == b'), by simp [eqGuard, binOp, run_equal_bool w T b b' hu], by unfold VR; rfl⟩
        · exact ⟨.bool (!(b == b')), by simp [eqGuard, binOp, run_equal_bool w T b b' hu], by unfold VR; rfl⟩
      · cases h
  case agg xs =>
    cases y <;> simp only at h <;> try (cases h; done)
    case agg ys =>
      unfold VR at h1 h2
      obtain ⟨us, rfl, h1⟩ := h1
      obtain ⟨vs, rfl, h2⟩ := h2
      split at h
      · rename_i fs hT
        split at h
        · rename_i b hb
          have hok : structOk P T = true → (binOp .eql T (.agg us) (.agg vs)).run P w = .ok (.bool b) w ∧ (binOp .neq T (.agg us) (.agg vs)).run P w = .ok (.bool (!b)) w ∧ ∀ op X Y, (eqGuard op T X Y (.agg us) (.agg vs)).run P w = .ok () w := by
            intro ho
            simp only [structOk, hT, Bool.and_eq_true, Bool.not_eq_true'] at ho
            have hf : P.fieldsOf T = fs := by simp [Program.fieldsOf, hT]
            have hr := run_equalIn_agg (P := P) w 9999 T us vs (by rw [hf]; exact hT) ho.2.1
            rw [hf, eqF_ok h1 h2 9998 w fs.toList b ho.1 hb] at hr
            refine ⟨?_, ?_, fun op X Y => run_eqGuard_agg w op T X Y us vs ho.2.2⟩
            · rw [run_eql_struct, hr]; rfl
            · rw [run_neq_struct, hr]; rfl
          cases op <;> simp only at h <;> try (cases h; done)
          · cases h
            obtain ⟨k1, k2, k3⟩ := hok (hc0 _ rfl)
            exact ⟨.bool b, by rw [Sem.run_bind, k3]; exact k1, by unfold VR; rfl⟩
          · cases h
            obtain ⟨k1, k2, k3⟩ := hok (hc0 _ rfl)
            exact ⟨.bool (!b), by rw [Sem.run_bind, k3]; exact k2, by unfold VR; rfl⟩
        · cases h
      · cases h

theorem ok_binOp {op : BinOp} {T t : TypeId} {x y : Operand} {c : Option Prop} {v : AV} (hb : binA P op T (s.val x) (s.val y) = some (c, v)) (hc : ∀ p, c = some p → p) (h : s.putK dst v K) : OpOk P ⟨dst, .binOp op T x y t, type, pos, after, guard⟩ s K :=
  ok_pure h fun F w0 gv a w hdr hs => by
    obtain ⟨r, h1, h2⟩ := binA_ok hb hc (hs.val x) (hs.val y) w x y
    exact ⟨r, by simp only [execOp, Sem.run_bind] at h1 ⊢; rw [h1]; rfl, h2⟩

theorem ok_not {T : TypeId} {x : Operand} {b : Bool} (hx : s.val x = .bool b) (h : s.putK dst (.bool (!b)) K) : OpOk P ⟨dst, .unOp .not T x, type, pos, after, guard⟩ s K :=
  ok_pure h fun F w0 gv a w hdr hs => by
    have h1 := hs.val x
    rw [hx] at h1
    unfold VR at h1
    exact ⟨.bool (!b), by simp [execOp, h1, Op.unary], by unfold VR; rfl⟩

theorem ok_neg {T : TypeId} {x : Operand} {k : IntKind} {n : Int} (hx : s.val x = .int k n) (h : s.putK dst (.int k (k.wrap (0 - n))) K) : OpOk P ⟨dst, .unOp .neg T x, type, pos, after, guard⟩ s K :=
  ok_pure h fun F w0 gv a w hdr hs => by
    have h1 := hs.val x
    rw [hx] at h1
    unfold VR at h1
    exact ⟨_, by simp [execOp, h1, Op.unary, Op.intArith]; rfl, by unfold VR; simp⟩

theorem ok_nilCheck {x : Operand} {p : AV} (hx : s.val x = p) (hp : (∃ a b c, p = .ptr a b c) ∨ (∃ cs, p = .rp cs) ∨ ∃ f cs, p = .fn f cs) (h : s.putK dst p K) : OpOk P ⟨dst, .nilCheck x, type, pos, after, guard⟩ s K :=
  ok_pure h fun F w0 gv a w hdr hs => by
    have h1 := hs.val x
    rw [hx] at h1
    refine ⟨a.eval x, ?_, h1⟩
    rcases hp with ⟨i, b, c, rfl⟩ | ⟨cs, rfl⟩ | ⟨f, cs, rfl⟩
    · unfold VR at h1
      obtain ⟨_, _, _, _, e⟩ := h1
      simp [execOp, e]
    · unfold VR RR at h1
      obtain ⟨_, _, e, _⟩ := h1
      simp [execOp, e]
    · unfold VR at h1
      obtain ⟨_, e, _⟩ := h1
      simp [execOp, e]

theorem vals_ok {F : Nat → Prop} {w0 : World} {gv : List Value} {a : Act} {w : World} {hdr : Nat → Value} (hs : Sim F w0 gv s a w hdr) : ∀ l : List Operand, VL (s.ctx F w hdr) (l.map s.val) (l.map a.eval)
  | [] => VL.nil
  | x :: l => VL.cons (hs.val x) (vals_ok hs l)

theorem ok_makeFunc {f : FuncId} {first captured : Array Operand} (hf : first.toList = []) (h : s.putK dst (.fn f (captured.toList.map s.val)) K) : OpOk P ⟨dst, .makeFunc (.func f) first captured, type, pos, after, guard⟩ s K :=
  ok_pure h fun F w0 gv a w hdr hs => by
    have hf' : first = #[] := by simpa using hf
    subst hf'
    refine ⟨_, by simp [execOp, Instr.makeFunc]; rfl, ?_⟩
    unfold VR
    exact ⟨_, rfl, by simpa using vals_ok hs captured.toList⟩

theorem ok_build {T : TypeId} {parts : Array (Nat × Operand)} {cs : List AV} (hb : buildA P T (parts.toList.map fun p => (p.1, s.val p.2)) = some cs) (h : s.putK dst (.agg cs) K) : OpOk P ⟨dst, .build T parts, type, pos, after, guard⟩ s K :=
  ok_pure h fun F w0 gv a w hdr hs => by
    obtain ⟨r, h1, h2⟩ := buildA_ok (c := s.ctx F w hdr) (hs.hdrOne) (parts' := parts.toList.map fun p => (p.1, a.eval p.2)) (by simp) (fun j p q hp hq => by
      simp only [List.getElem?_map, Option.map_eq_some_iff] at hp hq
      obtain ⟨x, e1, rfl⟩ := hp
      obtain ⟨y, e2, rfl⟩ := hq
      rw [e1] at e2
      cases e2
      exact ⟨rfl, hs.val x.2⟩) hb
    have hr := run_build (P := P) w T (parts.map fun (i, x) => (i, a.eval x)) r (by simpa using h1)
    exact ⟨.agg r, by simp [execOp, hr], by unfold VR; exact ⟨r, rfl, h2⟩⟩

/-! Objects laid. -/
theorem Sim.laid {F : Nat → Prop} {w0 : World} {gv : List Value} {a : Act} {w : World} {hdr : Nat → Value} (hs : Sim F w0 gv s a w hdr) {id : Nat} (hid : s.objs id = none) {o : AObj} {w' : World} {v : Value}
    (hb : Below w.heap.size w w') (ho : ObjR w.heap.size ⟨w', roOf F w' (fun i => if i = id then v else hdr i) (fun i => if i = id then some o else s.objs i), fun i => if i = id then v else hdr i, fun i => if i = id then some o else s.objs i⟩ o v) :
    Sim F w0 gv { s with objs := fun i => if i = id then some o else s.objs i } a w' (fun i => if i = id then v else hdr i) := by
  refine hs.grow hb ?_ ?_ ?_
  · intro i oi hi
    have : i ≠ id := fun e => by rw [e, hid] at hi; cases hi
    exact ⟨by simp [this, hi], by simp [this]⟩
  · intro i oi hi hn
    by_cases hx : i = id
    · subst hx
      simp at hi
      subst hi
      simpa using ho
    · simp [hx, hn] at hi
  · intro i j oi oj b hi hj ni nj _ _
    have e1 : i = id := by
      by_cases hx : i = id
      · exact hx
      · simp [hx, ni] at hi
    have e2 : j = id := by
      by_cases hx : j = id
      · exact hx
      · simp [hx, nj] at hj
    rw [e1, e2]

theorem Below.alloc' (w : World) (o : Obj) : Below w.heap.size w (w.alloc o) := (Below.refl _ _).alloc (Nat.le_refl _) o

/-- A new block of cells is an object. -/
theorem Sim.newBlock {F : Nat → Prop} {w0 : World} {gv : List Value} {a : Act} {w : World} {hdr : Nat → Value} (hs : Sim F w0 gv s a w hdr) {id : Nat} (hid : s.objs id = none) {box : Bool} {ty esz : Nat} {es : List (List AV)} {vs : List Value}
    (hpos : 0 < esz) (hlens : ∀ e ∈ es, e.length = esz) (hv : VL (s.ctx F w hdr) es.flatten vs) (h1 : ∀ u ∈ vs, u.oneCell' = true) (hp : box = false → es.flatten.all AV.plain = true) (hmax : es.length ≤ maxLen) :
    Sim F w0 gv { s with objs := fun i => if i = id then some ⟨box, ty, esz, es⟩ else s.objs i } a (w.alloc (.cells vs.toArray ty)) (fun i => if i = id then .slice (some ⟨w.heap.size, 0, none⟩) es.length es.length else hdr i) := by
  have hne : ∀ i oi, s.objs i = some oi → i ≠ id := fun i oi hi e => by rw [e, hid] at hi; cases hi
  have hro : ∀ b, roOf F w hdr s.objs b → roOf F (w.alloc (.cells vs.toArray ty)) (fun i => if i = id then Value.slice (some ⟨w.heap.size, 0, none⟩) es.length es.length else hdr i) (fun i => if i = id then some ⟨box, ty, esz, es⟩ else s.objs i) b := by
    intro b ⟨f1, f2, f3⟩
    refine ⟨f1, by simp; omega, fun i oi hi e => ?_⟩
    by_cases hx : i = id
    · simp only [hx, if_true, Value.blk] at e
      split at e
      · cases e
      · cases e; omega
    · simp only [hx, if_false] at hi e
      exact f3 i oi hi e
  have hcell : ∀ k j, roOf F w hdr s.objs k → (w.alloc (.cells vs.toArray ty)).cell? ⟨k, j, none⟩ = w.cell? ⟨k, j, none⟩ := fun k j hk => (Below.alloc' w _).cell (p := ⟨k, j, none⟩) hk.2.1
  have hlen : vs.length = es.length * esz := by rw [← hv.length, flatten_length esz es hlens]
  refine hs.laid hid (Below.alloc' w _) ⟨hpos, hlens, vs, ?_, h1, ?_, ?_⟩
  · exact OwnR.of_row (World.ownsRow_lit w vs.toArray es.length (Nat.le_refl _) hmax (by simpa using hlen)) |> fun h => by simpa using h
  · refine VL.mono (c := s.ctx F w hdr) ?_ ?_ _ _ hv
    · exact fun x v => RR.mono hcell hro x v
    · exact fun i oi hi => ⟨oi, by simp [hne i oi hi]; exact hi, rfl, by simp [hne i oi hi]; rfl⟩
  · intro hbx
    exact LR.mono hcell hro _ _ (hv.readOnly (hp hbx))

theorem ok_alloc {T : TypeId} {nid : Nat} {cs : List AV} (hz : zeroA P T = some cs) (hid : s.objs nid = none) (hpos : 0 < cs.length) (hone : cs.all AV.one = true)
    (h : (addBox s nid T cs).putK dst (.ptr nid 0 0) K) : OpOk P ⟨dst, .alloc T, type, pos, after, guard⟩ s K :=
  ok_value (s1 := addBox s nid T cs) h fun F w0 gv a w hdr hs => by
    obtain ⟨i, v, e1, e2, e3⟩ := zeroA_ok hz
    have hb := hs.newBlock (box := true) (ty := T) (esz := cs.length) (es := [cs]) (vs := v.cells.toList) hid hpos (by simp) (by simpa using e3 (s.ctx F w hdr)) (VL.ones (c := s.ctx F w hdr) hs.hdrOne (e3 _) hone) (by simp) (by simp [maxLen])
    refine ⟨.pointer (some ⟨w.heap.size, 0, none⟩), _, _, ?_, hb, ?_⟩
    · simp [execOp, Instr.alloc, zeroValue, typeInfo, e1, e2, newVar, newRow]
    · unfold VR
      exact ⟨⟨true, T, cs.length, [cs]⟩, w.heap.size, by simp [addBox, St.ctx], by simp [St.ctx, Value.blk], by simp⟩

theorem ok_box {T : TypeId} {x : Operand} {nid : Nat} {cs : List AV} (hc : (s.val x).cells? = some cs) (hid : s.objs nid = none) (hpos : 0 < cs.length)
    (h : (addBox s nid T cs).putK dst (.ptr nid 0 0) K) : OpOk P ⟨dst, .box T x, type, pos, after, guard⟩ s K :=
  ok_value (s1 := addBox s nid T cs) h fun F w0 gv a w hdr hs => by
    obtain ⟨e1, e2⟩ := cells?_ok hs.hdrOne (hs.val x) hc
    have hb := hs.newBlock (box := true) (ty := T) (esz := cs.length) (es := [cs]) (vs := (a.eval x).cells.toList) hid hpos (by simp) (by simpa using e1) e2 (by simp) (by simp [maxLen])
    refine ⟨.pointer (some ⟨w.heap.size, 0, none⟩), _, _, ?_, hb, ?_⟩
    · simp [execOp, Instr.box, newVar, newRow]
    · unfold VR
      exact ⟨⟨true, T, cs.length, [cs]⟩, w.heap.size, by simp [addBox, St.ctx], by simp [St.ctx, Value.blk], by simp⟩

end
end Go.Ab
