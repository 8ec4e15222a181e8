/-
  Deals whose groups agree: AgreeDeal.
  No condition.
-/
import Derived.Test.YtgkghkcahepicaaGreatAgree2
namespace Go.Proofs.YtgkghkcahepicaaGreat
open Go.Ab
set_option linter.unusedSimpArgs false
set_option maxRecDepth 20000
set_option maxHeartbeats 4000000
set_option linter.unusedVariables false

theorem big_appS {L M : List (List AV)} {b : Nat} (hM : M.length = 1) (hL : L.length ≤ 1048576) (hb : b ≤ 4096) : L.length + M.length ≤ 70368744177664 ∧ (L.length + M.length) * b ≤ 140737488355328 := by
  rw [hM]
  exact ⟨by omega, Nat.le_trans (Nat.mul_le_mul (Nat.succ_le_succ hL) hb) (Nat.le_of_ble_eq_true rfl)⟩
theorem putI_sub {acc : List Int} {y x : Int} (h : x ∈ putI acc y) : x ∈ acc ∨ x = y := by
  unfold putI at h
  split at h
  · exact .inl h
  · simp only [List.mem_append, List.mem_singleton] at h
    rcases h with (h | h) | h
    · exact .inl (List.mem_of_mem_take h)
    · exact .inr h
    · exact .inl (List.mem_of_mem_drop h)
theorem putI_fold_sub : ∀ (ys acc : List Int) {x : Int}, x ∈ ys.foldl putI acc → x ∈ acc ∨ x ∈ ys
  | [], acc, x, h => .inl h
  | y :: ys, acc, x, h => by
    rcases putI_fold_sub ys (putI acc y) h with h | h
    · rcases putI_sub h with h | h
      · exact .inl h
      · exact .inr (by simp [h])
    · exact .inr (by simp [h])
theorem takeN_le (key : List UInt8) : ∀ xs : List (List UInt8), takeN key xs ≤ xs.length
  | [] => Nat.le_refl _
  | x :: xs => by
    unfold takeN
    split
    · have := takeN_le key xs; simp only [List.length_cons]; omega
    · exact Nat.zero_le _
def psOf (d : DealT) (o : OrderT) : List Int := partsS d.Cuts o.Reads o.Writes
theorem ps_in {d : DealT} {o : OrderT} {p : Int} (h : p ∈ psOf d o) : 0 ≤ p ∧ p.toNat ≤ d.Cuts.length := by
  rcases putI_fold_sub _ _ h with h | h
  · cases h
  · obtain ⟨k, _, rfl⟩ := List.mem_map.1 h
    unfold pS
    have := takeN_le k d.Cuts
    exact ⟨by omega, by rw [Int.toNat_natCast]; exact this⟩
structure OkD (d : DealT) : Prop where
  cuts : okCuts d.Cuts = true
  len : d.States.length = d.Cuts.length + 1
  st : ∀ s ∈ d.States, okStateS s = true
theorem okD_of {d : DealT} (h : okDeal d = true) : OkD d := by
  unfold okDeal at h
  simp only [Bool.and_eq_true, decide_eq_true_eq] at h
  exact ⟨h.1.1.1, by omega, fun s hs => List.all_eq_true.1 h.1.2 s hs⟩
theorem OkD.at {d : DealT} (o : OkD d) {p : Int} (h : 0 ≤ p ∧ p.toNat ≤ d.Cuts.length) : d.States[p.toNat]? = some (stAt d p) ∧ stAt d p ∈ d.States := by
  have hlt : p.toNat < d.States.length := by rw [o.len]; omega
  have e : d.States[p.toNat]? = some d.States[p.toNat] := List.getElem?_eq_getElem hlt
  have e2 : stAt d p = d.States[p.toNat] := by unfold stAt; rw [e]
  rw [e2]
  exact ⟨e, List.getElem_mem _⟩
def ssOf (d : DealT) (o : OrderT) : List StateT := (psOf d o).map (stAt d)
theorem OkD.ss {d : DealT} (o : OkD d) (hok : d.ok) (x : OrderT) : ∀ s ∈ ssOf d x, s.ok ∧ okStateS s = true := by
  intro s hs
  unfold ssOf at hs
  obtain ⟨p, hp, rfl⟩ := List.mem_map.1 hs
  have := (o.at (ps_in hp)).2
  exact ⟨hok.2.1.2 _ this, o.st _ this⟩
theorem ps_len {d : DealT} {o : OrderT} (h : o.w ≤ 1048576) : (psOf d o).length ≤ 1048576 := by
  have h1 := foldI_len ((kO o.Reads o.Writes).map (pS d.Cuts)) []
  rw [List.length_map, List.length_nil] at h1
  have h3 := compS_le (sortS (keysO o.Reads o.Writes))
  rw [sortS_len] at h3
  have h4 : (keysO o.Reads o.Writes).length = o.Reads.length + o.Writes.length := by unfold keysO; simp
  have := ord_sum h
  unfold kO at h1
  show (List.foldl putI [] ((compS (sortS (keysO o.Reads o.Writes))).map (pS d.Cuts))).length ≤ _
  omega
theorem snocS {d : DealT} {ps : List Int} {k : Nat} {y : Int} {L : List (List AV)} (hy : ps[k]? = some y) (hL : L = [(stAt d y).cells]) : ((ps.take k).map (stAt d)).map StateT.cells ++ L = ((ps.take (k + 1)).map (stAt d)).map StateT.cells := by
  rw [take_get hy, hL]; simp
def agO (d : DealT) (o : OrderT) : Bool := agB o.Txn (ssOf d o)
def agD (d : DealT) : Bool := okDeal d && d.Orders.all (agO d)
theorem c_impl_Deal_parts (d : DealT) (o : OrderT) (hok : d.ok) (hc : okCuts d.Cuts = true) (hw : o.w ≤ 1048576) : PC Tryz.prog false 54 [.agg d.cells, .agg o.cells] (.own 0) [⟨false, 3, 1, (psOf d o).map intC⟩] := by
  have hl := ord_len hw
  have h := c_impl_partsOf d.Cuts o.Reads o.Writes hok.1 hl.1 hl.2
  rw [parts_eq hc] at h
  refine pc_at Tryz.func54 rfl (by kernel_rfl) 12 [.tmp 4] rfl rfl ?_
  repeat' (conv => whnf); first
    | (show Go.Ab.CallA _ _ _ _ _ _ _; refine CallF (h) rfl rfl rfl (Nat.le_of_ble_eq_true rfl) ?_)
    | refine side_and (side_of (by first | (and_intros <;> first | exact Nat.le_of_ble_eq_true rfl | rfl | omega | (simp only [lensB, lensC, List.length_replicate, midL_len, mkL_length]; omega) | exact bytes_ok (Nat.le_of_ble_eq_true rfl) (by omega) (by simp only [lensB, lensC, List.length_replicate, midL_len, mkL_length]; omega) | exact bytes_okN (Nat.le_of_ble_eq_true rfl) (by simp only [lensB, lensC, List.length_replicate, midL_len, mkL_length]; omega)) | fail)) ?_
  all_goals
    conv => whnf
    exact OutA_ids rfl rfl rfl ⟨⟨_, _, _, rfl, rfl⟩, trivial⟩ rfl (.inr (flat_one (flat_map (fun _ => rfl) _)))
theorem c_impl_AgreeDeal (d : DealT) (hok : d.ok) (hw : d.w ≤ 1048576) : PC Tryz.prog false 27 [.agg d.cells] (.tup [.bool (agD d), .bool (okDeal d)]) [] := by
  have hdl := deal_len hw
  have hol : d.Orders.length ≤ 1048576 := by have h : d.w = wL List.length d.Cuts + wL StateT.w d.States + wL OrderT.w d.Orders := rfl; have := wL_len (w := OrderT.w) (xs := d.Orders); omega
  have hss : ∀ (x : OrderT) (k : Nat), okDeal d = true → ∀ s ∈ ((psOf d x).take k).map (stAt d), s.ok ∧ okStateS s = true := fun x k hg s hs => by
    rw [List.map_take] at hs
    exact (okD_of hg).ss hok x s (List.mem_of_mem_take hs)
  refine pc_at Tryz.func27 rfl (by kernel_rfl) 43 [.tmp 2, .tmp 3] rfl rfl ?_
  repeat' (conv => whnf); first
    | (refine nameB_cases (b := okDeal d) (fun h => ?_) (fun h => ?_))
    | (refine ix_as (f := OrderT.cells) (m := i) rfl (by omega) (fun x hx => ?_))
    | (refine ix_own (f := intC) (by omega) (fun y hy => ?_); try simp only [Int.toNat_natCast] at hy)
    | refine ix_re (f := StateT.cells) (ps_in (List.mem_of_getElem? hy)).1 ((okD_of (by assumption)).at (ps_in (List.mem_of_getElem? hy))).1 ?_
    | (refine nameB_cases (b := agB x.Txn ((List.take k (psOf d x)).map (stAt d))) (fun h => ?_) (fun h => ?_) <;> (have hke : k = (psOf d x).length := by omega) <;> subst hke <;> rw [List.take_length] at h)
    | refine side_and (side_of (big_appS (L := (((psOf d x).take k).map (stAt d)).map StateT.cells) rfl (by have hq := ps_len (d := d) (hdl.2.2.2 x (List.mem_of_getElem? hx)); simp only [List.length_map, List.length_take]; omega) (Nat.le_of_ble_eq_true rfl))) ?_
    | refine side_and (side_of (one_lenC rfl rfl)) ?_
    | refine side_and (side_of (by first | (and_intros <;> first | exact Nat.le_of_ble_eq_true rfl | rfl | (intro e; exact absurd (AV.own.inj e) (by decide)) | (intro e; exact AV.noConfusion e)) | fail)) ?_
    | refine nameB_true ?_
    | refine nameB_false ?_
    | (refine nameB_dec (fun h => ?_) (fun h => ?_) <;> try simp only [lensB, midL_len, mkL_length, Int.toNat_natCast, fact_byte] at h)
    | refine splitB_true ?_
    | refine splitB_false ?_
    | (show Go.Ab.Loop _ _ _; first
        | (refine Loop_at [1, 13, 14] [0] (Nat) (fun i => (d.Orders.drop i).all (agO d) = d.Orders.all (agO d) ∧ i ≤ d.Orders.length) (fun i => [(15, .int .i64 (i : Nat))]) (fun i => []) (fun i => d.Orders.length - i) 0 ⟨by first | (simp_all <;> fail) | rfl | fail, trivial⟩ trivial (by (try dsimp only); first | (exact ⟨rfl, Nat.zero_le _⟩) | fail) ?_; (conv => whnf); refine side_and (side_of (by first | exact fun i => rfl | exact fun i => by simp [headOk, closedE, closedO, closedL, AV.closed, hcap.closed, hasId, AObj.box, BK.ofB])) ?_; rintro i hT; try dsimp only at hT)
        | (refine Loop_nil 6 1 61 4 rfl rfl (by decide) ?_; refine Loop_at [1, 5, 13, 14, 15, 22, 23] [0, 20512] (Nat) (fun k => k ≤ (psOf d x).length ∧ (psOf d x).length ≤ 1048576) (fun k => [(24, .int .i64 (k : Nat)), (6, .own 1)]) (fun k => [(1, ⟨false, 61, 4, (((psOf d x).take k).map (stAt d)).map StateT.cells⟩), (28704, ⟨false, 3, 1, (psOf d x).map intC⟩)]) (fun k => (psOf d x).length - k) 0 ⟨by first | (simp_all <;> fail) | rfl | fail, by first | rfl | (simp_all <;> fail) | fail, trivial⟩ ⟨by first | rfl | first | rfl | exact congrArg (fun e => some (AObj.mk _ _ _ e)) (snocS hy rfl) | fail | fail, by first | rfl | first | rfl | exact congrArg (fun e => some (AObj.mk _ _ _ e)) (snocS hy rfl) | fail | fail, trivial⟩ (by (try dsimp only); first | (exact ⟨Nat.zero_le _, ps_len (hdl.2.2.2 x (List.mem_of_getElem? hx))⟩) | fail) ?_; (conv => whnf); refine side_and (side_of (by first | exact fun k => rfl | exact fun k => by simp [headOk, closedE, closedO, closedL, AV.closed, hcap.closed, hasId, AObj.box, BK.ofB])) ?_; rintro k hK; try dsimp only at hK))
    | (show Go.Ab.Again _ _ _ _ _ _ _ _ _ _ _; first
        | refine Again_of (i + 1) ⟨by first | rfl | exact i64_next (by omega) | (simp_all <;> fail) | fail, trivial⟩ trivial (by first | (and_intros <;> first | rfl | trivial) | fail) (by first | (and_intros <;> first | rfl | trivial) | fail) rfl rfl rfl (by (try dsimp only); first | (exact ⟨all_go hT.1 hx (by assumption), by omega⟩) | fail) (show _ < _ by (try dsimp only); omega)
        | refine Again_of (k + 1) ⟨by first | rfl | exact i64_next (by omega) | (simp_all <;> fail) | fail, by first | rfl | (simp_all <;> fail) | fail, trivial⟩ ⟨by first | rfl | first | rfl | exact congrArg (fun e => some (AObj.mk _ _ _ e)) (snocS hy rfl) | fail | fail, by first | rfl | first | rfl | exact congrArg (fun e => some (AObj.mk _ _ _ e)) (snocS hy rfl) | fail | fail, trivial⟩ (by first | (and_intros <;> first | rfl | trivial) | fail) (by first | (and_intros <;> first | rfl | trivial) | fail) rfl rfl rfl (by (try dsimp only); first | (exact ⟨by omega, hK.2⟩) | fail) (show _ < _ by (try dsimp only); omega))
    | (show Go.Ab.CallA _ _ _ _ _ _ _; first
        | refine Call0 (c_impl_GoodDeal d hok hw) rfl rfl ?_
        | refine CallF (c_impl_Deal_parts d x hok (okD_of (by assumption)).cuts (hdl.2.2.2 x (List.mem_of_getElem? hx))) rfl rfl rfl (Nat.le_of_ble_eq_true rfl) ?_
        | refine Call0 (c_impl_agrees (((psOf d x).take k).map (stAt d)) x.Txn (by have := ps_len (d := d) (hdl.2.2.2 x (List.mem_of_getElem? hx)); rw [List.length_map, List.length_take]; omega) (hss x k (by assumption))) rfl rfl ?_)
    | refine side_and (side_of (by first | (and_intros <;> first | exact Nat.le_of_ble_eq_true rfl | rfl | omega | (simp only [lensB, lensC, List.length_replicate, midL_len, mkL_length]; omega) | exact bytes_ok (Nat.le_of_ble_eq_true rfl) (by omega) (by simp only [lensB, lensC, List.length_replicate, midL_len, mkL_length]; omega) | exact bytes_okN (Nat.le_of_ble_eq_true rfl) (by simp only [lensB, lensC, List.length_replicate, midL_len, mkL_length]; omega)) | fail)) ?_
    | refine LoadK_of rfl rfl ?_
  all_goals
    conv => whnf
    refine OutA_plain rfl rfl ?_
    first
    | (have hb := all_bad hT.1 hx (q := agO d) (show agB x.Txn ((psOf d x).map (stAt d)) = false by assumption); unfold agD; rw [(by assumption : okDeal d = true), hb]; rfl)
    | (have hb := all_end hT.1 (by assumption); unfold agD; rw [(by assumption : okDeal d = true), hb]; rfl)
    | (unfold agD; rw [(by assumption : okDeal d = false)]; rfl)
theorem ss_at {d : DealT} {o : OrderT} {k : Nat} {y : Int} (hy : (psOf d o)[k]? = some y) : (ssOf d o)[k]? = some (stAt d y) := by unfold ssOf; rw [List.getElem?_map, hy]; rfl
theorem ss_len {d : DealT} {o : OrderT} : (ssOf d o).length = (psOf d o).length := by unfold ssOf; rw [List.length_map]
def badS (l : List ToldT) (held n : Int) (x : ToldT) : Bool := !toldE x (firstT l) || (x.Yes && decide (IntKind.i64.wrap ((l.length : Int) + held) < n))
theorem badS_eq {t : Int} {ss : List StateT} (h : ∀ s ∈ ss, okStateS s = true) (hl : ss.length ≤ 1048576) : badS (tellsS t ss) (heldN t ss : Nat) (ss.length : Nat) = badT (tellsS t ss) (decide ((openN t ss : Int) > 0)) := by
  funext x
  have h3 := all_three (t := t) h
  unfold badS badT
  rw [i64_wrap (by omega) (by omega)]
  congr 2
  by_cases ho : (openN t ss : Int) > 0
  · rw [decide_eq_true ho, decide_eq_true (by omega)]
  · rw [decide_eq_false ho, decide_eq_false (by omega)]
theorem badS_ne {l : List ToldT} {a n : Int} {x y : ToldT} (h0 : l[0]? = some y) (h : toldE x y = false) : badS l a n x = true := by
  unfold badS; rw [first_of h0, h]; rfl
theorem badS_e {l : List ToldT} {a n : Int} {x y : ToldT} (h0 : l[0]? = some y) (h : toldE x y = true) : badS l a n x = (x.Yes && decide (IntKind.i64.wrap ((l.length : Int) + a) < n)) := by
  unfold badS; rw [first_of h0, h]; rfl
theorem badS_no {l : List ToldT} {a n : Int} {x y : ToldT} (h0 : l[0]? = some y) (h : toldE x y = true) (h2 : x.Yes = false ∨ ¬ IntKind.i64.wrap ((l.length : Int) + a) < n) : badS l a n x = false := by
  rw [badS_e h0 h]
  rcases h2 with h2 | h2
  · rw [h2]; rfl
  · rw [decide_eq_false h2]; simp
theorem badS_yes {l : List ToldT} {a n : Int} {x y : ToldT} (h0 : l[0]? = some y) (h : toldE x y = true) (h2 : x.Yes = true) (h3 : IntKind.i64.wrap ((l.length : Int) + a) < n) : badS l a n x = true := by
  rw [badS_e h0 h, h2, decide_eq_true h3]; rfl
theorem ix_first {α : Type} {f : α → List AV} {xs : List α} {Q : List AV → Prop} (h : 0 < xs.length) (hQ : ∀ x, xs[0]? = some x → Q (f x)) : ∃ e, (xs.map f)[Int.toNat 0]? = some e ∧ Q e :=
  ⟨f xs[0], by simp [h], hQ _ (by simp [h])⟩
theorem agO_of {d : DealT} {o : OrderT} (h : ∀ s ∈ ssOf d o, okStateS s = true) (hl : (psOf d o).length ≤ 1048576) : agO d o = !(tellsS o.Txn (ssOf d o)).any (badS (tellsS o.Txn (ssOf d o)) (heldN o.Txn (ssOf d o) : Nat) ((psOf d o).length : Nat)) := by
  have e := badS_eq (t := o.Txn) h (by rw [ss_len]; exact hl)
  rw [ss_len] at e
  rw [e]
  rfl
theorem c_spec_l15Agree (d : DealT) (o : OrderT) (hok : d.ok) (hd : OkD d) (hcl : d.Cuts.length ≤ 1048576) (hw : o.w ≤ 1048576) : PC Tryz.prog true 53 [.agg d.cells, .agg o.cells] (.bool (agO d o)) [] := by
  have hpl := ps_len (d := d) hw
  have hss := hd.ss hok o
  have hsl : (ssOf d o).length = (psOf d o).length := ss_len
  have htl := tells_len o.Txn (ssOf d o)
  have hst : ∀ {k : Nat} {y : Int}, (psOf d o)[k]? = some y → (stAt d y).ok := fun h => (hss _ (List.mem_of_getElem? (ss_at h))).1
  have hps : PC Tryz.prog true 87 [.sl (d.Cuts.map strC), .agg o.cells] (.sl ((psOf d o).map intC)) [] := c_spec_l15Of d.Cuts o hok.1 (ord_sum hw)
  refine pc_at Tryz.func53 rfl (by kernel_rfl) 82 [.tmp 4] rfl rfl ?_
  repeat' (conv => whnf); first
    | (refine ix_as (f := intC) (m := k) rfl (by omega) (fun y hy => ?_))
    | refine ix_re (f := StateT.cells) (ps_in (List.mem_of_getElem? hy)).1 (hd.at (ps_in (List.mem_of_getElem? hy))).1 ?_
    | (refine nameB_cases (b := ((stAt d y).Told.find? (tEq o.Txn)).isSome) (fun h => ?_) (fun h => ?_) <;> change isTd o.Txn (stAt d y) = _ at h)
    | refine ix_first (f := ToldT.cells) (by omega) (fun y hy => ?_)
    | (refine ix_own (f := ToldT.cells) (by omega) (fun x hx => ?_); try simp only [Int.toNat_natCast] at hx)
    | refine side_and (side_of (one_lenC rfl rfl)) ?_
    | refine side_and (side_of (by first | (and_intros <;> first | exact Nat.le_of_ble_eq_true rfl | rfl | (intro e; exact absurd (AV.own.inj e) (by decide)) | (intro e; exact AV.noConfusion e)) | fail)) ?_
    | refine side_and (side_of (app_boundC (L := (tellsS o.Txn ((ssOf d o).take k)).map ToldT.cells) rfl (by (have hq := tells_len o.Txn ((ssOf d o).take k); rw [List.length_take] at hq; simp only [List.length_map]; omega)) (Nat.le_of_ble_eq_true rfl))) ?_
    | (show Go.Ab.Loop _ _ _; (have hke : k = (psOf d o).length := by omega); subst hke; rw [show List.take (psOf d o).length (ssOf d o) = ssOf d o from List.take_of_length_le (by rw [hsl]; exact Nat.le_refl _)])
    | refine nameB_true ?_
    | refine nameB_false ?_
    | (refine nameB_dec (fun h => ?_) (fun h => ?_) <;> try simp only [lensB, midL_len, mkL_length, Int.toNat_natCast, fact_byte] at h)
    | (refine nameB_cases (fun h => ?_) (fun h => ?_) <;> try simp only [bne_iff_ne, ne_eq, bne_eq_false_iff_eq, beq_iff_eq, beq_eq_false_iff_ne, Bool.not_eq_true', Bool.not_eq_false', Bool.or_eq_true, Bool.or_eq_false_iff, lensB, midL_len, mkL_length, Int.toNat_natCast, fact_byte] at h)
    | refine splitB_true ?_
    | refine splitB_false ?_
    | refine draw_text (by kernel_rfl) (by kernel_rfl) (by kernel_rfl) ?_
    | (show Go.Ab.Loop _ _ _; first
        | (refine Loop_nil 5 1 121 3 rfl rfl (by decide) ?_; refine Loop_at [2, 3, 7, 20, 21] [0, 16] (Nat) (fun k => k ≤ (psOf d o).length) (fun k => [(5, .own 1), (6, .int .i64 (heldN o.Txn ((ssOf d o).take k) : Nat)), (22, .int .i64 (k : Nat))]) (fun k => [(1, ⟨false, 121, 3, (tellsS o.Txn ((ssOf d o).take k)).map ToldT.cells⟩)]) (fun k => (psOf d o).length - k) 0 ⟨by first | rfl | first | rfl | exact congrArg (fun n : Nat => AV.int .i64 (n : Int)) (heldN_no (ss_at hy) (by assumption)).symm | exact congrArg (AV.int .i64) (i64_up (by have hq := heldN_le o.Txn ((ssOf d o).take k); rw [List.length_take] at hq; omega) (heldN_yes (ss_at hy) (by assumption))) | fail, by first | first | rfl | exact congrArg (fun n : Nat => AV.int .i64 (n : Int)) (heldN_no (ss_at hy) (by assumption)).symm | exact congrArg (AV.int .i64) (i64_up (by have hq := heldN_le o.Txn ((ssOf d o).take k); rw [List.length_take] at hq; omega) (heldN_yes (ss_at hy) (by assumption))) | rfl | fail, by first | first | rfl | exact congrArg (fun n : Nat => AV.int .i64 (n : Int)) (heldN_no (ss_at hy) (by assumption)).symm | exact congrArg (AV.int .i64) (i64_up (by have hq := heldN_le o.Txn ((ssOf d o).take k); rw [List.length_take] at hq; omega) (heldN_yes (ss_at hy) (by assumption))) | rfl | fail, trivial⟩ ⟨by first | rfl | first | rfl | exact congrArg (fun e => some (AObj.mk _ _ _ e)) (tells_yes (ss_at hy) (by assumption) rfl) | exact congrArg (fun e => some (AObj.mk _ _ _ e)) (tells_no (ss_at hy) (by assumption)) | fail | fail, trivial⟩ (by (try dsimp only); first | (exact Nat.zero_le _) | fail) ?_; (conv => whnf); refine side_and (side_of (by first | exact fun k => rfl | exact fun k => by simp [headOk, closedE, closedO, closedL, AV.closed, hcap.closed, hasId, AObj.box, BK.ofB])) ?_; rintro k hT; try dsimp only at hT)
        | (refine Loop_at [5, 6, 7, 57, 58] [] (Nat) (fun i => ((tellsS o.Txn (ssOf d o)).drop i).any (badS (tellsS o.Txn (ssOf d o)) (heldN o.Txn (ssOf d o) : Nat) ((psOf d o).length : Nat)) = (tellsS o.Txn (ssOf d o)).any (badS (tellsS o.Txn (ssOf d o)) (heldN o.Txn (ssOf d o) : Nat) ((psOf d o).length : Nat)) ∧ i ≤ (tellsS o.Txn (ssOf d o)).length) (fun i => [(59, .int .i64 (i : Nat))]) (fun i => [(1, ⟨false, 121, 3, (tellsS o.Txn (ssOf d o)).map ToldT.cells⟩)]) (fun i => (tellsS o.Txn (ssOf d o)).length - i) 0 ⟨by first | (simp_all <;> fail) | rfl | fail, trivial⟩ ⟨by first | rfl | exact congrArg (fun e => some (AObj.mk _ _ _ e)) (set_rep hx) | exact congrArg (fun e => some (AObj.mk _ _ _ e)) start_rep | fail | fail, trivial⟩ (by (try dsimp only); first | (exact ⟨rfl, Nat.zero_le _⟩) | fail) ?_; (conv => whnf); refine side_and (side_of (by first | exact fun i => rfl | exact fun i => by simp [headOk, closedE, closedO, closedL, AV.closed, hcap.closed, hasId, AObj.box, BK.ofB])) ?_; rintro i hI; try dsimp only at hI))
    | (show Go.Ab.Again _ _ _ _ _ _ _ _ _ _ _; first
        | refine Again_of (k + 1) ⟨by first | rfl | first | rfl | exact congrArg (fun n : Nat => AV.int .i64 (n : Int)) (heldN_no (ss_at hy) (by assumption)).symm | exact congrArg (AV.int .i64) (i64_up (by have hq := heldN_le o.Txn ((ssOf d o).take k); rw [List.length_take] at hq; omega) (heldN_yes (ss_at hy) (by assumption))) | fail, by first | first | rfl | exact congrArg (fun n : Nat => AV.int .i64 (n : Int)) (heldN_no (ss_at hy) (by assumption)).symm | exact congrArg (AV.int .i64) (i64_up (by have hq := heldN_le o.Txn ((ssOf d o).take k); rw [List.length_take] at hq; omega) (heldN_yes (ss_at hy) (by assumption))) | rfl | fail, by first | rfl | exact i64_next (by omega) | first | rfl | exact congrArg (fun n : Nat => AV.int .i64 (n : Int)) (heldN_no (ss_at hy) (by assumption)).symm | exact congrArg (AV.int .i64) (i64_up (by have hq := heldN_le o.Txn ((ssOf d o).take k); rw [List.length_take] at hq; omega) (heldN_yes (ss_at hy) (by assumption))) | fail, trivial⟩ ⟨by first | rfl | first | rfl | exact congrArg (fun e => some (AObj.mk _ _ _ e)) (tells_yes (ss_at hy) (by assumption) rfl) | exact congrArg (fun e => some (AObj.mk _ _ _ e)) (tells_no (ss_at hy) (by assumption)) | fail | fail, trivial⟩ (by first | (and_intros <;> first | rfl | trivial) | fail) (by first | (and_intros <;> first | rfl | trivial) | fail) rfl rfl rfl (by (try dsimp only); first | ((show k + 1 ≤ _; omega)) | fail) (show _ < _ by (try dsimp only); omega)
        | refine Again_of (i + 1) ⟨by first | rfl | exact i64_next (by omega) | (simp_all <;> fail) | fail, trivial⟩ ⟨by first | rfl | exact congrArg (fun e => some (AObj.mk _ _ _ e)) (set_rep hx) | exact congrArg (fun e => some (AObj.mk _ _ _ e)) start_rep | fail | fail, trivial⟩ (by first | (and_intros <;> first | rfl | trivial) | fail) (by first | (and_intros <;> first | rfl | trivial) | fail) rfl rfl rfl (by (try dsimp only); first | (exact ⟨any_go hI.1 hx (by first | exact badS_no hy (by assumption) (.inl (by assumption)) | exact badS_no hy (by assumption) (.inr (by assumption))), by omega⟩) | fail) (show _ < _ by (try dsimp only); omega))
    | (show Go.Ab.CallA _ _ _ _ _ _ _; refine CallT (hps) rfl rfl rfl rfl (Nat.le_of_ble_eq_true rfl) ?_)
    | (show Go.Ab.CallD _ _ _ _ _ _ _; first
        | refine CallD0 (c_spec_l13ToldOf (stAt d y) o.Txn (hst hy)) rfl rfl rfl ?_
        | (rcases hf : (stAt d y).Held.find? (hEq o.Txn) with _ | hh <;> first | (have hz : isHd o.Txn (stAt d y) = false := (by unfold isHd; rw [hf]; rfl); refine CallDT (c_spec_l13HeldOf_no (stAt d y) o.Txn (hst hy) hf) rfl rfl rfl ⟨rfl, rfl⟩ ?_) | (have hz : isHd o.Txn (stAt d y) = true := (by unfold isHd; rw [hf]; rfl); refine CallDT (c_spec_l13HeldOf_yes (stAt d y) o.Txn hh (hst hy) hf) rfl rfl rfl ⟨rfl, rfl⟩ ?_)))
    | refine side_and (side_of (by first | (and_intros <;> first | exact Nat.le_of_ble_eq_true rfl | rfl | omega | (simp only [lensB, lensC, List.length_replicate, midL_len, mkL_length]; omega) | exact bytes_ok (Nat.le_of_ble_eq_true rfl) (by omega) (by simp only [lensB, lensC, List.length_replicate, midL_len, mkL_length]; omega) | exact bytes_okN (Nat.le_of_ble_eq_true rfl) (by simp only [lensB, lensC, List.length_replicate, midL_len, mkL_length]; omega)) | fail)) ?_
    | refine side_and (side_of (show Go.Ab.structOk _ _ = true by kernel_rfl)) ?_
    | refine LoadK_of rfl rfl ?_
  all_goals
    conv => whnf
    refine OutA_plain rfl rfl ?_
    rw [agO_of (fun s hs => (hss s hs).2) hpl]
    first
    | (have hb := any_hit hI.1 hx (badS_ne hy (by assumption)); rw [hb]; rfl)
    | (have hb := any_hit hI.1 hx (badS_yes hy (by assumption) (by assumption) (by assumption)); rw [hb]; rfl)
    | (have hb := any_end hI.1 (by assumption); rw [hb]; rfl)
theorem c_spec_AgreeDeal (d : DealT) (hok : d.ok) (hw : d.w ≤ 1048576) : PC Tryz.prog true 26 [.agg d.cells] (.tup [.bool (agD d), .bool (okDeal d)]) [] := by
  have hdl := deal_len hw
  have hol : d.Orders.length ≤ 1048576 := by have h : d.w = wL List.length d.Cuts + wL StateT.w d.States + wL OrderT.w d.Orders := rfl; have := wL_len (w := OrderT.w) (xs := d.Orders); omega
  refine pc_at Tryz.func26 rfl (by kernel_rfl) 21 [.tmp 2, .tmp 3] rfl rfl ?_
  repeat' (conv => whnf); first
    | (refine nameB_cases (b := okDeal d) (fun h => ?_) (fun h => ?_))
    | (refine ix_as (f := OrderT.cells) (m := i) rfl (by omega) (fun x hx => ?_))
    | (refine nameB_cases (b := agO d x) (fun h => ?_) (fun h => ?_))
    | refine nameB_true ?_
    | refine nameB_false ?_
    | (refine nameB_dec (fun h => ?_) (fun h => ?_) <;> try simp only [lensB, midL_len, mkL_length, Int.toNat_natCast, fact_byte] at h)
    | refine splitB_true ?_
    | refine splitB_false ?_
    | (show Go.Ab.Loop _ _ _; (refine Loop_at [1, 10, 11] [0] (Nat) (fun i => (d.Orders.drop i).all (agO d) = d.Orders.all (agO d) ∧ i ≤ d.Orders.length) (fun i => [(12, .int .i64 (i : Nat))]) (fun i => []) (fun i => d.Orders.length - i) 0 ⟨by first | (simp_all <;> fail) | rfl | fail, trivial⟩ trivial (by (try dsimp only); first | (exact ⟨rfl, Nat.zero_le _⟩) | fail) ?_; (conv => whnf); refine side_and (side_of (by first | exact fun i => rfl | exact fun i => by simp [headOk, closedE, closedO, closedL, AV.closed, hcap.closed, hasId, AObj.box, BK.ofB])) ?_; rintro i hT; try dsimp only at hT))
    | (show Go.Ab.Again _ _ _ _ _ _ _ _ _ _ _; refine Again_of (i + 1) ⟨by first | rfl | exact i64_next (by omega) | (simp_all <;> fail) | fail, trivial⟩ trivial (by first | (and_intros <;> first | rfl | trivial) | fail) (by first | (and_intros <;> first | rfl | trivial) | fail) rfl rfl rfl (by (try dsimp only); first | (exact ⟨all_go hT.1 hx (by assumption), by omega⟩) | fail) (show _ < _ by (try dsimp only); omega))
    | (show Go.Ab.CallA _ _ _ _ _ _ _; first
        | refine Call0 (c_spec_l15Good d hok hw) rfl rfl ?_
        | refine CallT (c_spec_l15Agree d x hok (okD_of (by assumption)) hdl.1 (hdl.2.2.2 x (List.mem_of_getElem? hx))) rfl rfl rfl rfl (Nat.le_of_ble_eq_true rfl) ?_)
    | refine side_and (side_of (by first | (and_intros <;> first | exact Nat.le_of_ble_eq_true rfl | rfl | omega | (simp only [lensB, lensC, List.length_replicate, midL_len, mkL_length]; omega) | exact bytes_ok (Nat.le_of_ble_eq_true rfl) (by omega) (by simp only [lensB, lensC, List.length_replicate, midL_len, mkL_length]; omega) | exact bytes_okN (Nat.le_of_ble_eq_true rfl) (by simp only [lensB, lensC, List.length_replicate, midL_len, mkL_length]; omega)) | fail)) ?_
  all_goals
    conv => whnf
    refine OutA_plain rfl rfl ?_
    first
    | (have hb := all_bad hT.1 hx (by assumption); unfold agD; rw [(by assumption : okDeal d = true), hb]; rfl)
    | (have hb := all_end hT.1 (by assumption); unfold agD; rw [(by assumption : okDeal d = true), hb]; rfl)
    | (unfold agD; rw [(by assumption : okDeal d = false)]; rfl)
theorem c_laws_FnExactAgreeDeal (a : DealT) (hok : a.ok) : PC Tryz.prog false 5 [.agg a.cells] (.bool true) [] := by
  refine pc_at Tryz.func5 rfl (by kernel_rfl) 40 [.tmp 2] rfl rfl ?_
  repeat' (conv => whnf); first
    | refine nameB_self (b := okDeal a) ?_
    | refine nameB_self (b := agD a) ?_
    | refine nameB_no (b := !(okDeal a == okDeal a)) (by simp) ?_
    | refine nameB_no (b := !(agD a == agD a)) (by simp) ?_
    | refine nameB_true ?_
    | refine nameB_false ?_
    | refine nameB_dno (by assumption) ?_
    | refine splitB_true ?_
    | refine splitB_false ?_
    | refine draw_text (by kernel_rfl) (by kernel_rfl) (by kernel_rfl) ?_
    | (show Go.Ab.CallA _ _ _ _ _ _ _; first
        | (by_cases hn : (1048576 : Int) - ((DealT.w a : Nat) : Int) < 0 <;> first | refine Call0 (pc_szneg (c_laws_szDeal a (1048576 : Int) (by omega) (by omega) hok) hn) rfl rfl ?_ | refine Call0 (pc_szpos (c_laws_szDeal a (1048576 : Int) (by omega) (by omega) hok) hn) rfl rfl ?_)
        | refine CallT (c_spec_AgreeDeal a hok (by omega)) rfl rfl rfl rfl (Nat.le_of_ble_eq_true rfl) ?_
        | refine Call0 (c_impl_AgreeDeal a hok (by omega)) rfl rfl ?_
        | refine CallT (nid := 20496) (c_laws_toDeal_ro a (by omega)) rfl rfl rfl rfl (Nat.le_of_ble_eq_true rfl) ?_
        | refine CallF (c_laws_toDeal a (by omega)) rfl rfl rfl (Nat.le_of_ble_eq_true rfl) ?_)
    | (show Go.Ab.CallD _ _ _ _ _ _ _; first
        | refine CallDF (c_laws_toDeal a (by omega)) rfl rfl ⟨rfl, rfl⟩ ?_
        | refine CallD0 (pc_true (c_laws_eqDeal a a hok) rfl) rfl rfl rfl ?_)
    | refine side_and (side_of (by first | (and_intros <;> first | exact Nat.le_of_ble_eq_true rfl | rfl | omega | (simp only [lensB, lensC, List.length_replicate, midL_len, mkL_length]; omega) | exact bytes_ok (Nat.le_of_ble_eq_true rfl) (by omega) (by simp only [lensB, lensC, List.length_replicate, midL_len, mkL_length]; omega) | exact bytes_okN (Nat.le_of_ble_eq_true rfl) (by simp only [lensB, lensC, List.length_replicate, midL_len, mkL_length]; omega)) | fail)) ?_
  all_goals
    conv => whnf
    refine OutA_plain rfl rfl ?_
    first
    | rfl
    | (simp_all [named, AV.sub, AV.sub.subL]; done)
    | (simp_all [named, AV.sub, AV.sub.subL] <;> omega)
end Go.Proofs.YtgkghkcahepicaaGreat
