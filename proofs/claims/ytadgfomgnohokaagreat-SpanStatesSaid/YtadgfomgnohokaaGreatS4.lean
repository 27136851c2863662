/- Own texts, put together. -/
import Derived.Test.YtadgfomgnohokaaGreatS3
import Derived.Test.YtadgfomgnohokaaGreatS2
import Derived.LaidEqlPtr
section
/- Bridges, and ways, that are compared. -/
set_option linter.unusedVariables false
set_option linter.unusedSimpArgs false
set_option maxRecDepth 100000
namespace Go.Gx.S
open Go Go.Gx Go.Proofs
variable {K : Value → World → Prop} {w : World}

/-! ### As keys -/

theorem ctId : Tryz.prog.cellsOf 25 = 7 := by kernel_rfl
theorem ctVec : Tryz.prog.cellsOf 44 = 17 := by kernel_rfl
theorem ctBpd : Tryz.prog.cellsOf 38 = 22 := by kernel_rfl

theorem id_enc {d : Nat} {x : Idn} (h : x.ok) : Tryz.prog.keyLits (d + 3) 25 x.cells = some x.lits := by
  refine kl_struct_mk (ls := [[_], x.mac.lits]) Tryz.underlying25 (by simp) (by rw [ctId]; rfl) ?_
  simp only [List.mapM_cons, List.mapM_nil, ctInt, ctMac, Idn.cells, bind, Option.bind_eq_some_iff, pure, Option.some.injEq, List.drop_succ_cons, List.drop_zero, List.take_succ_cons, List.take_zero]
  exact ⟨_, kl_int_mk uInt h.1, _, ⟨_, MacT.enc (d := d) h.2, _, rfl, rfl⟩, rfl⟩
theorem vec_enc {d : Nat} {x : Vec} (h : x.ok) : Tryz.prog.keyLits (d + 4) 44 x.cells = some x.lits := by
  refine kl_struct_mk (ls := [x.root.lits, [_], x.br.lits, [_], [_]]) Tryz.underlying44 (by simp) (by rw [ctVec]; rfl) ?_
  simp only [List.mapM_cons, List.mapM_nil, ctInt, ctId, Vec.cells, bind, Option.bind_eq_some_iff, pure, Option.some.injEq, List.drop_succ_cons, List.drop_zero, List.take_succ_cons, List.take_zero]
  exact ⟨_, id_enc h.1, _, ⟨_, kl_int_mk uInt h.2.1, _, ⟨_, id_enc h.2.2.1, _, ⟨_, kl_int_mk uInt h.2.2.2.1, _, ⟨_, kl_int_mk uInt h.2.2.2.2, _, rfl, rfl⟩, rfl⟩, rfl⟩, rfl⟩, rfl⟩
theorem bpd_enc {d : Nat} {x : Bpd} (h : x.ok) : Tryz.prog.keyLits (d + 4) 38 x.cells = some x.lits := by
  obtain ⟨h0, h1, h2, h3, h4, h5, h6, h7, h8, h9⟩ := h
  refine kl_struct_mk (ls := [[_], [_], x.root.lits, [_], x.br.lits, [_], [_], [_], [_], [_]]) Tryz.underlying38 (by simp) (by rw [ctBpd]; rfl) ?_
  simp only [List.mapM_cons, List.mapM_nil, ctInt, ctId, Bpd.cells, bind, Option.bind_eq_some_iff, pure, Option.some.injEq, List.drop_succ_cons, List.drop_zero, List.take_succ_cons, List.take_zero]
  exact ⟨_, kl_int_mk uInt h0, _, ⟨_, kl_int_mk uInt h1, _, ⟨_, id_enc h2, _, ⟨_, kl_int_mk uInt h3, _, ⟨_, id_enc h4, _, ⟨_, kl_int_mk uInt h5, _, ⟨_, kl_int_mk uInt h6, _, ⟨_, kl_int_mk uInt h7, _, ⟨_, kl_int_mk uInt h8, _, ⟨_, kl_int_mk uInt h9, _, rfl, rfl⟩, rfl⟩, rfl⟩, rfl⟩, rfl⟩, rfl⟩, rfl⟩, rfl⟩, rfl⟩, rfl⟩

theorem s_eqId {x y : Idn} (hx : x.ok) (hy : y.ok) (h : K (.bool (decide (x = y))) w) : opS Tryz.prog (S.binG .eql 25 (.agg x.cells.toArray) (.agg y.cells.toArray)) K w :=
  s_eqG (id_enc (d := 5) hx) (id_enc (d := 5) hy) fun q hq => by
    rw [Idn.lits_inj] at hq
    have : q = decide (x = y) := by rw [Bool.eq_iff_iff, hq, decide_eq_true_iff]
    rw [this]; exact h
theorem s_neId {x y : Idn} (hx : x.ok) (hy : y.ok) (h : K (.bool (!decide (x = y))) w) : opS Tryz.prog (S.binG .neq 25 (.agg x.cells.toArray) (.agg y.cells.toArray)) K w :=
  s_neqG (id_enc (d := 5) hx) (id_enc (d := 5) hy) fun q hq => by
    rw [Idn.lits_inj] at hq
    have : q = decide (x = y) := by rw [Bool.eq_iff_iff, hq, decide_eq_true_iff]
    rw [this]; exact h
theorem s_eqVec {x y : Vec} (hx : x.ok) (hy : y.ok) (h : K (.bool (decide (x = y))) w) : opS Tryz.prog (S.binG .eql 44 (.agg x.cells.toArray) (.agg y.cells.toArray)) K w :=
  s_eqG (vec_enc (d := 4) hx) (vec_enc (d := 4) hy) fun q hq => by
    rw [Vec.lits_inj] at hq
    have : q = decide (x = y) := by rw [Bool.eq_iff_iff, hq, decide_eq_true_iff]
    rw [this]; exact h
theorem s_neVec {x y : Vec} (hx : x.ok) (hy : y.ok) (h : K (.bool (!decide (x = y))) w) : opS Tryz.prog (S.binG .neq 44 (.agg x.cells.toArray) (.agg y.cells.toArray)) K w :=
  s_neqG (vec_enc (d := 4) hx) (vec_enc (d := 4) hy) fun q hq => by
    rw [Vec.lits_inj] at hq
    have : q = decide (x = y) := by rw [Bool.eq_iff_iff, hq, decide_eq_true_iff]
    rw [this]; exact h
theorem s_eqBpd {x y : Bpd} (hx : x.ok) (hy : y.ok) (h : K (.bool (decide (x = y))) w) : opS Tryz.prog (S.binG .eql 38 (.agg x.cells.toArray) (.agg y.cells.toArray)) K w :=
  s_eqG (bpd_enc (d := 4) hx) (bpd_enc (d := 4) hy) fun q hq => by
    rw [Bpd.lits_inj] at hq
    have : q = decide (x = y) := by rw [Bool.eq_iff_iff, hq, decide_eq_true_iff]
    rw [this]; exact h

/-! ### Bridges -/

def cmpD (a b : Idn) : Int := if cmpI a.prio b.prio ≠ 0 then cmpI a.prio b.prio else cmpM a.mac b.mac

theorem dcmp_spec {a b : Idn} (ha : a.ok) (hb : b.ok) (h : ∀ w', Fr none_ w w' → K (i64 (cmpD a b)) w') : CallsR Tryz.prog 63 #[.agg a.cells.toArray, .agg b.cells.toArray] K w := by
  apply c63
  unfold p63
  have hG : Fr none_ w ((w.alloc (cellsO a.cells 25)).alloc (cellsO b.cells 25)).drew := (by repeat' first | with_reducible exact Fr.refl _ _ | with_reducible refine Fr.step_alloc ?_ ?_ | with_reducible refine Fr.step_drew ?_ | with_reducible refine Fr.step_wr ?_ ?_ _ _ | exact rfl | exact Or.inr (by omega) | exact Or.inl rfl | exact Or.inl (Or.inl rfl) | exact Or.inl (Or.inr rfl))
  have h0 : ((w.alloc (cellsO a.cells 25)).alloc (cellsO b.cells 25)).drew.heap[w.heap.size]? = some (cellsO a.cells 25) := by simp only [push_cast, Nat.reduceAdd, Nat.reduceLeDiff, Nat.reduceLT, Int.reduceToNat, Nat.left_eq_add, Nat.add_eq_left, Nat.add_left_cancel_iff, Nat.reduceEqDiff, Nat.add_assoc, Nat.succ_ne_zero]
  have h1 : ((w.alloc (cellsO a.cells 25)).alloc (cellsO b.cells 25)).drew.heap[w.heap.size + 1]? = some (cellsO b.cells 25) := by simp only [push_cast, Nat.reduceAdd, Nat.reduceLeDiff, Nat.reduceLT, Int.reduceToNat, Nat.left_eq_add, Nat.add_eq_left, Nat.add_left_cancel_iff, Nat.reduceEqDiff, Nat.add_assoc, Nat.succ_ne_zero]
  simp only [push_cast, Nat.reduceAdd, Nat.reduceLeDiff, Nat.reduceLT, Int.reduceToNat, Nat.left_eq_add, Nat.add_eq_left, Nat.add_left_cancel_iff, Nat.reduceEqDiff, Nat.add_assoc, Nat.succ_ne_zero]
  generalize ((w.alloc (cellsO a.cells 25)).alloc (cellsO b.cells 25)).drew = W at *
  have fin : opS Tryz.prog (S.cl 79 [.agg a.mac.cells.toArray, .agg b.mac.cells.toArray]) (fun x13 => opS Tryz.prog (S.buildS 26 2 [(0, i64 (cmpI a.prio b.prio)), (1, x13)]) fun x14 => opS Tryz.prog (S.cl 62 [x14]) K) W := by
    simp only [push_cast, Nat.reduceAdd, Nat.reduceLeDiff, Nat.reduceLT, Int.reduceToNat, Nat.left_eq_add, Nat.add_eq_left, Nat.add_left_cancel_iff, Nat.reduceEqDiff, Nat.add_assoc, Nat.succ_ne_zero]
    refine mcmp_spec ha.2 hb.2 fun w2 hG2 => ?_
    refine s_bs2c (z := .int .i64 0) rfl rfl rfl fun v w3 hv hF3 _ => ?_
    simp only [push_cast, Nat.reduceAdd, Nat.reduceLeDiff, Nat.reduceLT, Int.reduceToNat, Nat.left_eq_add, Nat.add_eq_left, Nat.add_left_cancel_iff, Nat.reduceEqDiff, Nat.add_assoc, Nat.succ_ne_zero]
    refine cor_spec (l := [cmpI a.prio b.prio, cmpM a.mac b.mac]) hv.rd (by show 2 < 2 ^ 62; decide) ?_
    rw [orL_two]
    exact h _ ((hG.trans hG2.fr).trans hF3)
  repeat' first
    | exact fin
    | with_reducible refine allW_intro ?_ ?_
    | with_reducible refine ccmp_spec ?_
    | simp only [push_cast, Nat.reduceAdd, Nat.reduceLeDiff, Nat.reduceLT, Int.reduceToNat, Nat.left_eq_add, Nat.add_eq_left, Nat.add_left_cancel_iff, Nat.reduceEqDiff, Nat.add_assoc, Nat.succ_ne_zero, h0, h1]

theorem rdcmp_spec {a b : Idn} (ha : a.ok) (hb : b.ok) (h : ∀ w', Fr none_ w w' → K (i64 (cmpD a b)) w') : CallsR Tryz.prog 82 #[.agg a.cells.toArray, .agg b.cells.toArray] K w := by
  apply c82
  unfold p82
  have hF : Fr none_ w ((w.alloc (cellsO a.cells 25)).alloc (cellsO b.cells 25)) := (by repeat' first | with_reducible exact Fr.refl _ _ | with_reducible refine Fr.step_alloc ?_ ?_ | with_reducible refine Fr.step_drew ?_ | with_reducible refine Fr.step_wr ?_ ?_ _ _ | exact rfl | exact Or.inr (by omega) | exact Or.inl rfl | exact Or.inl (Or.inl rfl) | exact Or.inl (Or.inr rfl))
  have h0 : ((w.alloc (cellsO a.cells 25)).alloc (cellsO b.cells 25)).heap[w.heap.size]? = some (cellsO a.cells 25) := by simp only [push_cast, Nat.reduceAdd, Nat.reduceLeDiff, Nat.reduceLT, Int.reduceToNat, Nat.left_eq_add, Nat.add_eq_left, Nat.add_left_cancel_iff, Nat.reduceEqDiff, Nat.add_assoc, Nat.succ_ne_zero]
  have h1 : ((w.alloc (cellsO a.cells 25)).alloc (cellsO b.cells 25)).heap[w.heap.size + 1]? = some (cellsO b.cells 25) := by simp only [push_cast, Nat.reduceAdd, Nat.reduceLeDiff, Nat.reduceLT, Int.reduceToNat, Nat.left_eq_add, Nat.add_eq_left, Nat.add_left_cancel_iff, Nat.reduceEqDiff, Nat.add_assoc, Nat.succ_ne_zero]
  simp only [push_cast, Nat.reduceAdd, Nat.reduceLeDiff, Nat.reduceLT, Int.reduceToNat, Nat.left_eq_add, Nat.add_eq_left, Nat.add_left_cancel_iff, Nat.reduceEqDiff, Nat.add_assoc, Nat.succ_ne_zero]
  generalize ((w.alloc (cellsO a.cells 25)).alloc (cellsO b.cells 25)) = W at *
  have hc : ∀ c : Int, cmpD a b = c → K (i64 c) W := fun c e => e ▸ h W hF
  refine br_dec (fun h2 => ?_) fun h2 => ?_
  · refine hc _ ?_
    unfold cmpD cmpI
    rw [if_pos h2, if_pos (by decide)]
  · refine br_dec (fun h3 => ?_) fun h3 => ?_
    · refine hc _ ?_
      unfold cmpD cmpI
      rw [if_neg h2, if_pos (show b.prio < a.prio from h3), if_pos (by decide)]
    · have e : cmpD a b = cmpM a.mac b.mac := by
        unfold cmpD
        rw [if_neg]
        unfold cmpI
        rw [if_neg h2, if_neg h3]
        simp
      rw [e] at h
      exact rcmp_spec ha.2 hb.2 fun w2 hF2 => h _ (hF.trans hF2)

/-! ### Ways -/

def cmpV (a b : Vec) : Int := orL [cmpD a.root b.root, cmpI a.cost b.cost, cmpD a.br b.br, cmpI a.port b.port, cmpI a.own b.own]

theorem vcmp_spec {a b : Vec} (ha : a.ok) (hb : b.ok) (h : ∀ w', Fr none_ w w' → K (i64 (cmpV a b)) w') : CallsR Tryz.prog 35 #[.agg a.cells.toArray, .agg b.cells.toArray] K w := by
  apply c35
  unfold p35
  have hF : Fr none_ w ((w.alloc (cellsO a.cells 44)).alloc (cellsO b.cells 44)) := (by repeat' first | with_reducible exact Fr.refl _ _ | with_reducible refine Fr.step_alloc ?_ ?_ | with_reducible refine Fr.step_drew ?_ | with_reducible refine Fr.step_wr ?_ ?_ _ _ | exact rfl | exact Or.inr (by omega) | exact Or.inl rfl | exact Or.inl (Or.inl rfl) | exact Or.inl (Or.inr rfl))
  have h0 : ((w.alloc (cellsO a.cells 44)).alloc (cellsO b.cells 44)).heap[w.heap.size]? = some (cellsO a.cells 44) := by simp only [push_cast, Nat.reduceAdd, Nat.reduceLeDiff, Nat.reduceLT, Int.reduceToNat, Nat.left_eq_add, Nat.add_eq_left, Nat.add_left_cancel_iff, Nat.reduceEqDiff, Nat.add_assoc, Nat.succ_ne_zero]
  have h1 : ((w.alloc (cellsO a.cells 44)).alloc (cellsO b.cells 44)).heap[w.heap.size + 1]? = some (cellsO b.cells 44) := by simp only [push_cast, Nat.reduceAdd, Nat.reduceLeDiff, Nat.reduceLT, Int.reduceToNat, Nat.left_eq_add, Nat.add_eq_left, Nat.add_left_cancel_iff, Nat.reduceEqDiff, Nat.add_assoc, Nat.succ_ne_zero]
  simp only [opS_box, cells_agg, alloc_cellsO, size_alloc]
  generalize ((w.alloc (cellsO a.cells 44)).alloc (cellsO b.cells 44)) = W at *
  rw [drw_eq]
  refine quietS_intro (Fr none_ W) (Fr.drew W) ?_
  obtain ⟨a0, a1, a2, a3, a4⟩ := ha
  obtain ⟨b0, b1, b2, b3, b4⟩ := hb
  have hd : ∀ {x y : Idn}, x.ok → y.ok → ∀ (R : Value → World → Prop) w', (∀ w'', Fr none_ w' w'' → R (i64 (cmpD x y)) w'') → CallsR Tryz.prog 63 [.agg x.cells.toArray, .agg y.cells.toArray].toArray R w' := fun hx hy R w' hR => dcmp_spec hx hy hR
  have hi : ∀ {x y : Int}, ∀ (R : Value → World → Prop) w', (∀ w'', Fr none_ w' w'' → R (i64 (cmpI x y)) w'') → CallsR Tryz.prog 64 [i64 x, i64 y].toArray R w' := fun R w' hR => ccmp_spec (hR _ (Fr.refl _ _))
  refine qt_pure (fun R w' _ => fa44_0 _ _) ?_
  refine qt_ldN (by decide) h0 (by simp only [push_cast, Nat.reduceAdd, Nat.reduceLeDiff, Nat.reduceLT, Int.reduceToNat, Nat.left_eq_add, Nat.add_eq_left, Nat.add_left_cancel_iff, Nat.reduceEqDiff, Nat.add_assoc, Nat.succ_ne_zero]; rfl) ?_
  refine qt_pure (fun R w' _ => fa44_0 _ _) ?_
  refine qt_ldN (by decide) h1 (by simp only [push_cast, Nat.reduceAdd, Nat.reduceLeDiff, Nat.reduceLT, Int.reduceToNat, Nat.left_eq_add, Nat.add_eq_left, Nat.add_left_cancel_iff, Nat.reduceEqDiff, Nat.add_assoc, Nat.succ_ne_zero]; rfl) ?_
  refine qt_cl _ (hd a0 b0) ?_
  refine qt_pure (fun R w' _ => fa44_1 _ _) ?_
  refine qt_ld1 h0 (by simp only [push_cast, Nat.reduceAdd, Nat.reduceLeDiff, Nat.reduceLT, Int.reduceToNat, Nat.left_eq_add, Nat.add_eq_left, Nat.add_left_cancel_iff, Nat.reduceEqDiff, Nat.add_assoc, Nat.succ_ne_zero]; rfl) ?_
  refine qt_pure (fun R w' _ => fa44_1 _ _) ?_
  refine qt_ld1 h1 (by simp only [push_cast, Nat.reduceAdd, Nat.reduceLeDiff, Nat.reduceLT, Int.reduceToNat, Nat.left_eq_add, Nat.add_eq_left, Nat.add_left_cancel_iff, Nat.reduceEqDiff, Nat.add_assoc, Nat.succ_ne_zero]; rfl) ?_
  refine qt_cl _ hi ?_
  refine qt_pure (fun R w' _ => fa44_2 _ _) ?_
  refine qt_ldN (by decide) h0 (by simp only [push_cast, Nat.reduceAdd, Nat.reduceLeDiff, Nat.reduceLT, Int.reduceToNat, Nat.left_eq_add, Nat.add_eq_left, Nat.add_left_cancel_iff, Nat.reduceEqDiff, Nat.add_assoc, Nat.succ_ne_zero]; rfl) ?_
  refine qt_pure (fun R w' _ => fa44_2 _ _) ?_
  refine qt_ldN (by decide) h1 (by simp only [push_cast, Nat.reduceAdd, Nat.reduceLeDiff, Nat.reduceLT, Int.reduceToNat, Nat.left_eq_add, Nat.add_eq_left, Nat.add_left_cancel_iff, Nat.reduceEqDiff, Nat.add_assoc, Nat.succ_ne_zero]; rfl) ?_
  refine qt_cl _ (hd a2 b2) ?_
  refine qt_pure (fun R w' _ => fa44_3 _ _) ?_
  refine qt_ld1 h0 (by simp only [push_cast, Nat.reduceAdd, Nat.reduceLeDiff, Nat.reduceLT, Int.reduceToNat, Nat.left_eq_add, Nat.add_eq_left, Nat.add_left_cancel_iff, Nat.reduceEqDiff, Nat.add_assoc, Nat.succ_ne_zero]; rfl) ?_
  refine qt_pure (fun R w' _ => fa44_3 _ _) ?_
  refine qt_ld1 h1 (by simp only [push_cast, Nat.reduceAdd, Nat.reduceLeDiff, Nat.reduceLT, Int.reduceToNat, Nat.left_eq_add, Nat.add_eq_left, Nat.add_left_cancel_iff, Nat.reduceEqDiff, Nat.add_assoc, Nat.succ_ne_zero]; rfl) ?_
  refine qt_cl _ hi ?_
  refine qt_pure (fun R w' _ => fa44_4 _ _) ?_
  refine qt_ld1 h0 (by simp only [push_cast, Nat.reduceAdd, Nat.reduceLeDiff, Nat.reduceLT, Int.reduceToNat, Nat.left_eq_add, Nat.add_eq_left, Nat.add_left_cancel_iff, Nat.reduceEqDiff, Nat.add_assoc, Nat.succ_ne_zero]; rfl) ?_
  refine qt_pure (fun R w' _ => fa44_4 _ _) ?_
  refine qt_ld1 h1 (by simp only [push_cast, Nat.reduceAdd, Nat.reduceLeDiff, Nat.reduceLT, Int.reduceToNat, Nat.left_eq_add, Nat.add_eq_left, Nat.add_left_cancel_iff, Nat.reduceEqDiff, Nat.add_assoc, Nat.succ_ne_zero]; rfl) ?_
  refine qendS_intro fun w2 hF2 => ?_
  simp only [push_cast, Nat.reduceAdd, Nat.reduceLeDiff, Nat.reduceLT, Int.reduceToNat, Nat.left_eq_add, Nat.add_eq_left, Nat.add_left_cancel_iff, Nat.reduceEqDiff, Nat.add_assoc, Nat.succ_ne_zero]
  refine ccmp_spec ?_
  refine s_bsN (z := .int .i64 0) [i64 (cmpD a.root b.root), i64 (cmpI a.cost b.cost), i64 (cmpD a.br b.br), i64 (cmpI a.port b.port), i64 (cmpI a.own b.own)] (by show 0 < 5; decide) (by decide) (by show 5 * 1 ≤ 2 ^ 24; decide) rfl (by simp [Value.cells]) fun v w3 hv hF3 _ => ?_
  simp only [push_cast, Nat.reduceAdd, Nat.reduceLeDiff, Nat.reduceLT, Int.reduceToNat, Nat.left_eq_add, Nat.add_eq_left, Nat.add_left_cancel_iff, Nat.reduceEqDiff, Nat.add_assoc, Nat.succ_ne_zero]
  refine cor_spec (l := [cmpD a.root b.root, cmpI a.cost b.cost, cmpD a.br b.br, cmpI a.port b.port, cmpI a.own b.own]) hv.rd (by show 5 < 2 ^ 62; decide) ?_
  exact h _ ((hF.trans hF2).trans hF3)

theorem rnumber_spec {a b : Int} (h : K (i64 (cmpI a b)) w) : CallsR Tryz.prog 83 #[i64 a, i64 b] K w := by
  apply c83
  unfold p83
  simp only [push_cast, Nat.reduceAdd, Nat.reduceLeDiff, Nat.reduceLT, Int.reduceToNat, Nat.left_eq_add, Nat.add_eq_left, Nat.add_left_cancel_iff, Nat.reduceEqDiff, Nat.add_assoc, Nat.succ_ne_zero]
  unfold cmpI at h
  refine br_dec (fun h1 => ?_) fun h1 => ?_
  · rw [if_pos h1] at h; exact h
  · rw [if_neg h1] at h
    refine br_dec (fun h2 => ?_) fun h2 => ?_
    · rw [if_pos h2] at h; exact h
    · rw [if_neg h2] at h; exact h

theorem rvcmp_spec {a b : Vec} (ha : a.ok) (hb : b.ok) (h : ∀ w', Fr none_ w w' → K (i64 (cmpV a b)) w') : CallsR Tryz.prog 72 #[.agg a.cells.toArray, .agg b.cells.toArray] K w := by
  apply c72
  unfold p72
  have hF : Fr none_ w ((w.alloc (cellsO a.cells 44)).alloc (cellsO b.cells 44)) := (by repeat' first | with_reducible exact Fr.refl _ _ | with_reducible refine Fr.step_alloc ?_ ?_ | with_reducible refine Fr.step_drew ?_ | with_reducible refine Fr.step_wr ?_ ?_ _ _ | exact rfl | exact Or.inr (by omega) | exact Or.inl rfl | exact Or.inl (Or.inl rfl) | exact Or.inl (Or.inr rfl))
  have h0 : ((w.alloc (cellsO a.cells 44)).alloc (cellsO b.cells 44)).heap[w.heap.size]? = some (cellsO a.cells 44) := by simp only [push_cast, Nat.reduceAdd, Nat.reduceLeDiff, Nat.reduceLT, Int.reduceToNat, Nat.left_eq_add, Nat.add_eq_left, Nat.add_left_cancel_iff, Nat.reduceEqDiff, Nat.add_assoc, Nat.succ_ne_zero]
  have h1 : ((w.alloc (cellsO a.cells 44)).alloc (cellsO b.cells 44)).heap[w.heap.size + 1]? = some (cellsO b.cells 44) := by simp only [push_cast, Nat.reduceAdd, Nat.reduceLeDiff, Nat.reduceLT, Int.reduceToNat, Nat.left_eq_add, Nat.add_eq_left, Nat.add_left_cancel_iff, Nat.reduceEqDiff, Nat.add_assoc, Nat.succ_ne_zero]
  simp only [opS_box, cells_agg, alloc_cellsO, size_alloc]
  generalize ((w.alloc (cellsO a.cells 44)).alloc (cellsO b.cells 44)) = W at *
  obtain ⟨a0, a1, a2, a3, a4⟩ := ha
  obtain ⟨b0, b1, b2, b3, b4⟩ := hb
  have hc : ∀ w' (c : Int), Fr none_ W w' → cmpV a b = c → K (i64 c) w' := fun w' c hF' e => e ▸ h w' (hF.trans hF')
  have orz : ∀ (x : Int) l, orL (x :: l) = if x = 0 then orL l else x := fun x l => by
    rw [orL_cons]
    by_cases e : x = 0
    · rw [if_neg (fun h => h e), if_pos e]
    · rw [if_pos e, if_neg e]
  simp only [push_cast, Nat.reduceAdd, Nat.reduceLeDiff, Nat.reduceLT, Int.reduceToNat, Nat.left_eq_add, Nat.add_eq_left, Nat.add_left_cancel_iff, Nat.reduceEqDiff, Nat.add_assoc, Nat.succ_ne_zero, h0, h1]
  refine rdcmp_spec a0 b0 fun w2 hF2 => ?_
  refine jn1 (fun v w' => ∃ n, v = i64 n ∧ cmpV a b = (if n = 0 then orL [cmpD a.br b.br, cmpI a.port b.port, cmpI a.own b.own] else n) ∧ Fr none_ W w') ?_ fun j hj => ?_
  · rintro v w3 ⟨n, rfl, hn, hF3⟩
    have g0 := hF3.heap h0 fun h => h
    have g1 := hF3.heap h1 fun h => h
    refine jn1 (fun v w' => ∃ n, v = i64 n ∧ cmpV a b = (if n = 0 then orL [cmpI a.port b.port, cmpI a.own b.own] else n) ∧ Fr none_ W w') ?_ fun j hj => ?_
    · rintro v w4 ⟨n, rfl, hn, hF4⟩
      have g0 := hF4.heap h0 fun h => h
      have g1 := hF4.heap h1 fun h => h
      refine jn1 (fun v w' => ∃ n, v = i64 n ∧ cmpV a b = (if n = 0 then orL [cmpI a.own b.own] else n) ∧ Fr none_ W w') ?_ fun j hj => ?_
      · rintro v w5 ⟨n, rfl, hn, hF5⟩
        have g0 := hF5.heap h0 fun h => h
        have g1 := hF5.heap h1 fun h => h
        simp only [push_cast, Nat.reduceAdd, Nat.reduceLeDiff, Nat.reduceLT, Int.reduceToNat, Nat.left_eq_add, Nat.add_eq_left, Nat.add_left_cancel_iff, Nat.reduceEqDiff, Nat.add_assoc, Nat.succ_ne_zero]
        refine br_intro (fun e => ?_) fun e => ?_
        · rw [if_pos (by simpa using e)] at hn
          simp only [push_cast, Nat.reduceAdd, Nat.reduceLeDiff, Nat.reduceLT, Int.reduceToNat, Nat.left_eq_add, Nat.add_eq_left, Nat.add_left_cancel_iff, Nat.reduceEqDiff, Nat.add_assoc, Nat.succ_ne_zero, g0, g1]
          refine rnumber_spec (hc _ _ hF5 ?_)
          rw [hn, orz]
          by_cases e : cmpI a.own b.own = 0
          · rw [if_pos e, e]; rfl
          · rw [if_neg e]
        · rw [if_neg (by simpa using e)] at hn
          exact hc _ _ hF5 hn
      · simp only [push_cast, Nat.reduceAdd, Nat.reduceLeDiff, Nat.reduceLT, Int.reduceToNat, Nat.left_eq_add, Nat.add_eq_left, Nat.add_left_cancel_iff, Nat.reduceEqDiff, Nat.add_assoc, Nat.succ_ne_zero]
        refine br_intro (fun e => ?_) fun e => ?_
        · rw [if_pos (by simpa using e), orz] at hn
          simp only [push_cast, Nat.reduceAdd, Nat.reduceLeDiff, Nat.reduceLT, Int.reduceToNat, Nat.left_eq_add, Nat.add_eq_left, Nat.add_left_cancel_iff, Nat.reduceEqDiff, Nat.add_assoc, Nat.succ_ne_zero, g0, g1]
          exact rnumber_spec (hj _ _ ⟨_, rfl, hn, hF4⟩)
        · exact hj _ _ ⟨_, rfl, by rw [hn, if_neg (by simpa using e), if_neg (by simpa using e)], hF4⟩
    · simp only [push_cast, Nat.reduceAdd, Nat.reduceLeDiff, Nat.reduceLT, Int.reduceToNat, Nat.left_eq_add, Nat.add_eq_left, Nat.add_left_cancel_iff, Nat.reduceEqDiff, Nat.add_assoc, Nat.succ_ne_zero]
      refine br_intro (fun e => ?_) fun e => ?_
      · rw [if_pos (by simpa using e), orz] at hn
        simp only [push_cast, Nat.reduceAdd, Nat.reduceLeDiff, Nat.reduceLT, Int.reduceToNat, Nat.left_eq_add, Nat.add_eq_left, Nat.add_left_cancel_iff, Nat.reduceEqDiff, Nat.add_assoc, Nat.succ_ne_zero, g0, g1]
        exact rdcmp_spec a2 b2 fun w4 hF4 => hj _ _ ⟨_, rfl, hn, hF3.trans hF4⟩
      · exact hj _ _ ⟨_, rfl, by rw [hn, if_neg (by simpa using e), if_neg (by simpa using e)], hF3⟩
  · have g0 := hF2.heap h0 fun h => h
    have g1 := hF2.heap h1 fun h => h
    have hn : cmpV a b = if cmpD a.root b.root = 0 then orL [cmpI a.cost b.cost, cmpD a.br b.br, cmpI a.port b.port, cmpI a.own b.own] else cmpD a.root b.root := orz _ _
    simp only [push_cast, Nat.reduceAdd, Nat.reduceLeDiff, Nat.reduceLT, Int.reduceToNat, Nat.left_eq_add, Nat.add_eq_left, Nat.add_left_cancel_iff, Nat.reduceEqDiff, Nat.add_assoc, Nat.succ_ne_zero]
    refine br_intro (fun e => ?_) fun e => ?_
    · rw [if_pos (by simpa using e), orz] at hn
      simp only [push_cast, Nat.reduceAdd, Nat.reduceLeDiff, Nat.reduceLT, Int.reduceToNat, Nat.left_eq_add, Nat.add_eq_left, Nat.add_left_cancel_iff, Nat.reduceEqDiff, Nat.add_assoc, Nat.succ_ne_zero, g0, g1]
      exact rnumber_spec (hj _ _ ⟨_, rfl, hn, hF2⟩)
    · exact hj _ _ ⟨_, rfl, by rw [hn, if_neg (by simpa using e), if_neg (by simpa using e)], hF2⟩

end Go.Gx.S
end

section
/- Ways that cost more, that are offered, and told. -/
set_option linter.unusedVariables false
set_option linter.unusedSimpArgs false
set_option maxRecDepth 100000
namespace Go.Gx.S
open Go Go.Gx Go.Proofs
variable {K : Value → World → Prop} {w : World}

def zId : Idn := ⟨0, ⟨0, 0, 0, 0, 0, 0⟩⟩
def zVec : Vec := ⟨zId, 0, zId, 0, 0⟩
theorem zVec_ok : zVec.ok := by simp [zVec, zId, Vec.ok, Idn.ok, Mac.ok, isB, isI_iff]
theorem zalloc_vec : opS Tryz.prog (S.alloc 44) K w = K (pt w.heap.size 0) (w.alloc (cellsO zVec.cells 44)) := by
  rw [opS_alloc]; rfl
theorem build_vec0 : opS Tryz.prog (S.build 44 []) K w = K (.agg zVec.cells.toArray) w := by
  rw [opS_build _ rfl]; rfl
theorem build_vec2 {a b : Idn} : opS Tryz.prog (S.build 44 [(0, .agg a.cells.toArray), (2, .agg b.cells.toArray)]) K w = K (.agg (Vec.cells ⟨a, 0, b, 0, 0⟩).toArray) w := by
  rw [opS_build _ rfl]; rfl
theorem build_vec4 {a b : Idn} {c p : Int} : opS Tryz.prog (S.build 44 [(0, .agg a.cells.toArray), (1, i64 c), (2, .agg b.cells.toArray), (3, i64 p)]) K w = K (.agg (Vec.cells ⟨a, c, b, p, 0⟩).toArray) w := by
  rw [opS_build _ rfl]; rfl
theorem build_vec5 {a b : Idn} {c p o : Int} : opS Tryz.prog (S.build 44 [(0, .agg a.cells.toArray), (1, i64 c), (2, .agg b.cells.toArray), (3, i64 p), (4, i64 o)]) K w = K (.agg (Vec.cells ⟨a, c, b, p, o⟩).toArray) w := by
  rw [opS_build _ rfl]; rfl

/-! ### A way that costs more -/

def costB (n : Int) : Bool := decide (0 ≤ n) && decide (n ≤ 4294967295)
def addV (v : Vec) (c : Int) : Vec := if costB v.cost && costB c then { v with cost := if v.cost + c ≤ 4294967295 then v.cost + c else 4294967295 } else v

theorem costB_iff {n : Int} : costB n = true ↔ 0 ≤ n ∧ n ≤ 4294967295 := by unfold costB; simp

theorem costs_spec {n : Int} (h : K (.bool (costB n)) w) : CallsR Tryz.prog 61 #[i64 n] K w := by
  apply c61
  unfold p61
  unfold costB at h
  simp only [push_cast, Nat.reduceAdd, Nat.reduceLeDiff, Nat.reduceLT, Int.reduceToNat, Nat.left_eq_add, Nat.add_eq_left, Nat.add_left_cancel_iff, Nat.reduceEqDiff, Nat.add_assoc, Nat.succ_ne_zero]
  refine br_dec (fun h1 => ?_) fun h1 => ?_
  · rw [decide_eq_true (show 0 ≤ n from h1), Bool.true_and] at h
    exact h
  · rw [decide_eq_false (show ¬ 0 ≤ n from h1), Bool.false_and] at h
    exact h

theorem add_spec {v : Vec} {c : Int} (hv : v.ok) (h : ∀ w', Fr none_ w w' → K (.agg (addV v c).cells.toArray) w') : CallsR Tryz.prog 34 #[.agg v.cells.toArray, i64 c] K w := by
  apply c34
  unfold p34
  simp only [opS_box, cells_agg, alloc_cellsO]
  rw [zalloc_vec]
  have hF : Fr none_ w ((w.alloc (cellsO v.cells 44)).alloc (cellsO zVec.cells 44)) := (by repeat' first | with_reducible exact Fr.refl _ _ | with_reducible refine Fr.step_alloc ?_ ?_ | with_reducible refine Fr.step_drew ?_ | with_reducible refine Fr.step_wr ?_ ?_ _ _ | exact rfl | exact Or.inr (by omega) | exact Or.inl rfl | exact Or.inl (Or.inl rfl) | exact Or.inl (Or.inr rfl))
  have h0 : ((w.alloc (cellsO v.cells 44)).alloc (cellsO zVec.cells 44)).heap[w.heap.size]? = some (cellsO v.cells 44) := by simp only [push_cast, Nat.reduceAdd, Nat.reduceLeDiff, Nat.reduceLT, Int.reduceToNat, Nat.left_eq_add, Nat.add_eq_left, Nat.add_left_cancel_iff, Nat.reduceEqDiff, Nat.add_assoc, Nat.succ_ne_zero]
  have h1 : ((w.alloc (cellsO v.cells 44)).alloc (cellsO zVec.cells 44)).heap[w.heap.size + 1]? = some (cellsO zVec.cells 44) := by simp only [push_cast, Nat.reduceAdd, Nat.reduceLeDiff, Nat.reduceLT, Int.reduceToNat, Nat.left_eq_add, Nat.add_eq_left, Nat.add_left_cancel_iff, Nat.reduceEqDiff, Nat.add_assoc, Nat.succ_ne_zero]
  simp only [size_alloc]
  generalize (w.alloc (cellsO v.cells 44)).alloc (cellsO zVec.cells 44) = W at *
  unfold addV at h
  simp only [push_cast, Nat.reduceAdd, Nat.reduceLeDiff, Nat.reduceLT, Int.reduceToNat, Nat.left_eq_add, Nat.add_eq_left, Nat.add_left_cancel_iff, Nat.reduceEqDiff, Nat.add_assoc, Nat.succ_ne_zero, h0]
  refine costs_spec ?_
  simp only [push_cast, Nat.reduceAdd, Nat.reduceLeDiff, Nat.reduceLT, Int.reduceToNat, Nat.left_eq_add, Nat.add_eq_left, Nat.add_left_cancel_iff, Nat.reduceEqDiff, Nat.add_assoc, Nat.succ_ne_zero]
  refine br_intro (fun e1 => ?_) fun e1 => ?_
  · refine costs_spec ?_
    rw [e1, Bool.true_and] at h
    simp only [push_cast, Nat.reduceAdd, Nat.reduceLeDiff, Nat.reduceLT, Int.reduceToNat, Nat.left_eq_add, Nat.add_eq_left, Nat.add_left_cancel_iff, Nat.reduceEqDiff, Nat.add_assoc, Nat.succ_ne_zero]
    refine br_intro (fun e2 => ?_) fun e2 => ?_
    · rw [e2, if_pos rfl] at h
      have c1 := costB_iff.1 e1
      have c2 := costB_iff.1 e2
      simp only [push_cast, Nat.reduceAdd, Nat.reduceLeDiff, Nat.reduceLT, Int.reduceToNat, Nat.left_eq_add, Nat.add_eq_left, Nat.add_left_cancel_iff, Nat.reduceEqDiff, Nat.add_assoc, Nat.succ_ne_zero, h0]
      rw [wrap_i64 (by omega)]
      have hne : w.heap.size ≠ w.heap.size + 1 := by omega
      simp only [push_cast, Nat.reduceAdd, Nat.reduceLeDiff, Nat.reduceLT, Int.reduceToNat, Nat.left_eq_add, Nat.add_eq_left, Nat.add_left_cancel_iff, Nat.reduceEqDiff, Nat.add_assoc, Nat.succ_ne_zero, h0, h1]
      exact h _ ((hF.step_wr (.inr (by omega)) _ _).step_wr (.inr (by omega)) _ _)
    · rw [e2, if_neg (by decide)] at h
      simp only [push_cast, Nat.reduceAdd, Nat.reduceLeDiff, Nat.reduceLT, Int.reduceToNat, Nat.left_eq_add, Nat.add_eq_left, Nat.add_left_cancel_iff, Nat.reduceEqDiff, Nat.add_assoc, Nat.succ_ne_zero, h0, h1]
      exact h _ (hF.step_wr (.inr (by omega)) _ _)
  · rw [e1, Bool.false_and, if_neg (by decide)] at h
    simp only [push_cast, Nat.reduceAdd, Nat.reduceLeDiff, Nat.reduceLT, Int.reduceToNat, Nat.left_eq_add, Nat.add_eq_left, Nat.add_left_cancel_iff, Nat.reduceEqDiff, Nat.add_assoc, Nat.succ_ne_zero, h0, h1]
    exact h _ (hF.step_wr (.inr (by omega)) _ _)

theorem radd_spec {v : Vec} {c : Int} (hv : v.ok) (h : ∀ w', Fr none_ w w' → K (.agg (addV v c).cells.toArray) w') : CallsR Tryz.prog 85 #[.agg v.cells.toArray, i64 c] K w := by
  apply c85
  unfold p85
  simp only [opS_box, cells_agg, alloc_cellsO]
  rw [zalloc_vec]
  have hF : Fr none_ w ((w.alloc (cellsO v.cells 44)).alloc (cellsO zVec.cells 44)) := (by repeat' first | with_reducible exact Fr.refl _ _ | with_reducible refine Fr.step_alloc ?_ ?_ | with_reducible refine Fr.step_drew ?_ | with_reducible refine Fr.step_wr ?_ ?_ _ _ | exact rfl | exact Or.inr (by omega) | exact Or.inl rfl | exact Or.inl (Or.inl rfl) | exact Or.inl (Or.inr rfl))
  have h0 : ((w.alloc (cellsO v.cells 44)).alloc (cellsO zVec.cells 44)).heap[w.heap.size]? = some (cellsO v.cells 44) := by simp only [push_cast, Nat.reduceAdd, Nat.reduceLeDiff, Nat.reduceLT, Int.reduceToNat, Nat.left_eq_add, Nat.add_eq_left, Nat.add_left_cancel_iff, Nat.reduceEqDiff, Nat.add_assoc, Nat.succ_ne_zero]
  have h1 : ((w.alloc (cellsO v.cells 44)).alloc (cellsO zVec.cells 44)).heap[w.heap.size + 1]? = some (cellsO zVec.cells 44) := by simp only [push_cast, Nat.reduceAdd, Nat.reduceLeDiff, Nat.reduceLT, Int.reduceToNat, Nat.left_eq_add, Nat.add_eq_left, Nat.add_left_cancel_iff, Nat.reduceEqDiff, Nat.add_assoc, Nat.succ_ne_zero]
  simp only [size_alloc]
  generalize (w.alloc (cellsO v.cells 44)).alloc (cellsO zVec.cells 44) = W at *
  have no : (costB v.cost && costB c) = false → K (.agg v.cells.toArray) (wr W (w.heap.size + 1) 0 v.cells) := fun e => by
    unfold addV at h
    rw [e, if_neg (by decide)] at h
    exact h _ (hF.step_wr (.inr (by omega)) _ _)
  simp only [push_cast, Nat.reduceAdd, Nat.reduceLeDiff, Nat.reduceLT, Int.reduceToNat, Nat.left_eq_add, Nat.add_eq_left, Nat.add_left_cancel_iff, Nat.reduceEqDiff, Nat.add_assoc, Nat.succ_ne_zero, h0, h1]
  refine br_dec (fun e1 => ?_) fun e1 => ?_
  · exact no (by unfold costB; rw [decide_eq_false (by omega)]; rfl)
  refine br_dec (fun e2 => ?_) fun e2 => ?_
  · exact no (by unfold costB; rw [decide_eq_false (show ¬ v.cost ≤ 4294967295 by omega)]; simp)
  refine br_dec (fun e3 => ?_) fun e3 => ?_
  · exact no (by unfold costB; rw [decide_eq_false (show ¬ 0 ≤ c by omega)]; simp)
  refine br_dec (fun e4 => ?_) fun e4 => ?_
  · exact no (by unfold costB; rw [decide_eq_false (show ¬ c ≤ 4294967295 by omega)]; simp)
  unfold addV at h
  rw [costB_iff.2 ⟨by omega, by omega⟩, costB_iff.2 ⟨by omega, by omega⟩, Bool.true_and, if_pos rfl] at h
  rw [wrap_i64 (by omega)]
  exact h _ ((hF.step_wr (.inr (by omega)) _ _).step_wr (.inr (by omega)) _ _)

/-! ### A way that is offered -/

def offer (me : Idn) (best : Vec) (port : Int) : Vec := ⟨best.root, best.cost, me, port, 0⟩

theorem offer_spec {me : Idn} {best : Vec} {port : Int} (h : ∀ w', Fr none_ w w' → K (.agg (offer me best port).cells.toArray) w') : CallsR Tryz.prog 36 #[.agg me.cells.toArray, .agg best.cells.toArray, i64 port] K w := by
  apply c36
  unfold p36
  simp only [opS_box, cells_agg, alloc_cellsO]
  rw [zalloc_vec]
  simp only [push_cast, Nat.reduceAdd, Nat.reduceLeDiff, Nat.reduceLT, Int.reduceToNat, Nat.left_eq_add, Nat.add_eq_left, Nat.add_left_cancel_iff, Nat.reduceEqDiff, Nat.add_assoc, Nat.succ_ne_zero]
  rw [build_vec4]
  simp only [push_cast, Nat.reduceAdd, Nat.reduceLeDiff, Nat.reduceLT, Int.reduceToNat, Nat.left_eq_add, Nat.add_eq_left, Nat.add_left_cancel_iff, Nat.reduceEqDiff, Nat.add_assoc, Nat.succ_ne_zero]
  exact h _ (by repeat' first | with_reducible exact Fr.refl _ _ | with_reducible refine Fr.step_alloc ?_ ?_ | with_reducible refine Fr.step_drew ?_ | with_reducible refine Fr.step_wr ?_ ?_ _ _ | exact rfl | exact Or.inr (by omega) | exact Or.inl rfl | exact Or.inl (Or.inl rfl) | exact Or.inl (Or.inr rfl))
theorem roffer_spec {me : Idn} {best : Vec} {port : Int} (h : ∀ w', Fr none_ w w' → K (.agg (offer me best port).cells.toArray) w') : CallsR Tryz.prog 86 #[.agg me.cells.toArray, .agg best.cells.toArray, i64 port] K w := by
  apply c86
  unfold p86
  simp only [opS_box, cells_agg, alloc_cellsO]
  rw [zalloc_vec]
  simp only [push_cast, Nat.reduceAdd, Nat.reduceLeDiff, Nat.reduceLT, Int.reduceToNat, Nat.left_eq_add, Nat.add_eq_left, Nat.add_left_cancel_iff, Nat.reduceEqDiff, Nat.add_assoc, Nat.succ_ne_zero]
  rw [build_vec4]
  simp only [push_cast, Nat.reduceAdd, Nat.reduceLeDiff, Nat.reduceLT, Int.reduceToNat, Nat.left_eq_add, Nat.add_eq_left, Nat.add_left_cancel_iff, Nat.reduceEqDiff, Nat.add_assoc, Nat.succ_ne_zero]
  exact h _ (by repeat' first | with_reducible exact Fr.refl _ _ | with_reducible refine Fr.step_alloc ?_ ?_ | with_reducible refine Fr.step_drew ?_ | with_reducible refine Fr.step_wr ?_ ?_ _ _ | exact rfl | exact Or.inr (by omega) | exact Or.inl rfl | exact Or.inl (Or.inl rfl) | exact Or.inl (Or.inr rfl))

/-! ### What may be told -/

def inR (n m : Int) : Bool := decide (0 ≤ n) && decide (n < m)
def zBpd : Bpd := ⟨0, 0, zId, 0, zId, 0, 0, 0, 0, 0⟩
/-- of each field whether it may be -/
def oksB (x : Bpd) : List Bool := [inR x.flags 256, inR x.root.prio 65536, true, inR x.cost 4294967296, inR x.br.prio 65536, true, inR x.port 65536, inR x.age 65536, inR x.maxAge 65536, inR x.hello 65536, inR x.forward 65536]
def rightP (x : Bpd) : Bool := if x.kind = 128 then decide (x = { zBpd with kind := 128 }) else (decide (x.kind = 0) || decide (x.kind = 2)) && (oksB x).all id

theorem within_spec {n m : Int} (h : K (.bool (inR n (m + 1))) w) : CallsR Tryz.prog 70 #[i64 n, i64 m] K w := by
  apply c70
  unfold p70
  unfold inR at h
  simp only [push_cast, Nat.reduceAdd, Nat.reduceLeDiff, Nat.reduceLT, Int.reduceToNat, Nat.left_eq_add, Nat.add_eq_left, Nat.add_left_cancel_iff, Nat.reduceEqDiff, Nat.add_assoc, Nat.succ_ne_zero]
  refine br_dec (fun h1 => ?_) fun h1 => ?_
  · rw [decide_eq_true (show 0 ≤ n from h1), Bool.true_and] at h
    have e : decide (n ≤ m) = decide (n < m + 1) := by rw [Bool.eq_iff_iff]; simp; omega
    rw [e]; exact h
  · rw [decide_eq_false (show ¬ 0 ≤ n from h1), Bool.false_and] at h
    exact h

theorem build_bpd1 {k : Int} : opS Tryz.prog (S.build 38 [(0, i64 k)]) K w = K (.agg (Bpd.cells { zBpd with kind := k }).toArray) w := by
  rw [opS_build _ rfl]; rfl

theorem isI_const {n : Int} (h0 : 0 ≤ n) (h1 : n ≤ 4294967296) : isI n := isI_iff.2 (by omega)
theorem zBpd_ok {k : Int} (hk : isI k) : ({ zBpd with kind := k } : Bpd).ok := by
  refine ⟨hk, ?_⟩
  simp [zBpd, zId, Idn.ok, Mac.ok, isB, isI_iff]

theorem rright_spec {x : Bpd} (hx : x.ok) (h : ∀ w', Fr none_ w w' → K (.bool (rightP x)) w') : CallsR Tryz.prog 47 #[.agg x.cells.toArray] K w := by
  apply c47
  unfold p47
  have hF : Fr none_ w (w.alloc (cellsO x.cells 38)) := (by repeat' first | with_reducible exact Fr.refl _ _ | with_reducible refine Fr.step_alloc ?_ ?_ | with_reducible refine Fr.step_drew ?_ | with_reducible refine Fr.step_wr ?_ ?_ _ _ | exact rfl | exact Or.inr (by omega) | exact Or.inl rfl | exact Or.inl (Or.inl rfl) | exact Or.inl (Or.inr rfl))
  have h0 : (w.alloc (cellsO x.cells 38)).heap[w.heap.size]? = some (cellsO x.cells 38) := by simp only [push_cast, Nat.reduceAdd, Nat.reduceLeDiff, Nat.reduceLT, Int.reduceToNat, Nat.left_eq_add, Nat.add_eq_left, Nat.add_left_cancel_iff, Nat.reduceEqDiff, Nat.add_assoc, Nat.succ_ne_zero]
  simp only [opS_box, cells_agg, alloc_cellsO]
  generalize w.alloc (cellsO x.cells 38) = W at *
  have hc : ∀ b : Bool, rightP x = b → K (.bool b) W := fun b e => e ▸ h W hF
  have hno : x.kind ≠ 128 → (oksB x).all id = false → K (.bool false) W := fun h1 h2 => hc _ (by unfold rightP; rw [if_neg h1, h2, Bool.and_false])
  simp only [push_cast, Nat.reduceAdd, Nat.reduceLeDiff, Nat.reduceLT, Int.reduceToNat, Nat.left_eq_add, Nat.add_eq_left, Nat.add_left_cancel_iff, Nat.reduceEqDiff, Nat.add_assoc, Nat.succ_ne_zero, h0]
  refine br_intro (fun e => ?_) fun e => ?_
  · have e : x.kind = 128 := by simpa using e
    rw [build_bpd1]
    simp only [push_cast, Nat.reduceAdd, Nat.reduceLeDiff, Nat.reduceLT, Int.reduceToNat, Nat.left_eq_add, Nat.add_eq_left, Nat.add_left_cancel_iff, Nat.reduceEqDiff, Nat.add_assoc, Nat.succ_ne_zero, h0]
    refine s_eqBpd hx (zBpd_ok (isI_const (by decide) (by decide))) (hc _ ?_)
    unfold rightP
    rw [if_pos e]
  · have e : x.kind ≠ 128 := by simpa using e
    have hyes : (x.kind = 0 ∨ x.kind = 2) → (oksB x).all id = true → K (.bool true) W := fun h1 h2 => hc _ (by
      unfold rightP
      rw [if_neg e, h2, Bool.and_true]
      rcases h1 with h1 | h1 <;> rw [h1] <;> rfl)
    refine jn0 (fun w' => W = w' ∧ (x.kind = 0 ∨ x.kind = 2)) ?_ fun j hj => ?_
    · rintro w' ⟨rfl, hk⟩
      have ok_iff : (oksB x).all id = true ↔ inR x.flags 256 = true ∧ inR x.root.prio 65536 = true ∧ inR x.cost 4294967296 = true ∧ inR x.br.prio 65536 = true ∧ inR x.port 65536 = true ∧ inR x.age 65536 = true ∧ inR x.maxAge 65536 = true ∧ inR x.hello 65536 = true ∧ inR x.forward 65536 = true := by
        simp [oksB]
      have bad : ∀ {b : Bool}, (∀ (_ : (oksB x).all id = true), b = true) → b = false → (oksB x).all id = false := fun h1 h2 => by
        cases hh : (oksB x).all id with
        | false => rfl
        | true => rw [h1 hh] at h2; cases h2
      refine jn1 (fun v w' => W = w' ∧ ∃ b : Bool, v = .bool b ∧ (b = true ↔ inR x.age 65536 = true ∧ inR x.maxAge 65536 = true ∧ inR x.hello 65536 = true ∧ inR x.forward 65536 = true)) ?_ fun j hj => ?_
      · rintro v w' ⟨rfl, b, rfl, hb⟩
        simp only [push_cast, Nat.reduceAdd, Nat.reduceLeDiff, Nat.reduceLT, Int.reduceToNat, Nat.left_eq_add, Nat.add_eq_left, Nat.add_left_cancel_iff, Nat.reduceEqDiff, Nat.add_assoc, Nat.succ_ne_zero]
        refine br_intro (fun e1 => ?_) fun e1 => ?_
        · simp only [push_cast, Nat.reduceAdd, Nat.reduceLeDiff, Nat.reduceLT, Int.reduceToNat, Nat.left_eq_add, Nat.add_eq_left, Nat.add_left_cancel_iff, Nat.reduceEqDiff, Nat.add_assoc, Nat.succ_ne_zero, h0]
          refine within_spec ?_
          simp only [push_cast, Nat.reduceAdd, Nat.reduceLeDiff, Nat.reduceLT, Int.reduceToNat, Nat.left_eq_add, Nat.add_eq_left, Nat.add_left_cancel_iff, Nat.reduceEqDiff, Nat.add_assoc, Nat.succ_ne_zero]
          refine br_intro (fun e2 => ?_) fun e2 => ?_
          · simp only [push_cast, Nat.reduceAdd, Nat.reduceLeDiff, Nat.reduceLT, Int.reduceToNat, Nat.left_eq_add, Nat.add_eq_left, Nat.add_left_cancel_iff, Nat.reduceEqDiff, Nat.add_assoc, Nat.succ_ne_zero, h0]
            refine within_spec ?_
            simp only [push_cast, Nat.reduceAdd, Nat.reduceLeDiff, Nat.reduceLT, Int.reduceToNat, Nat.left_eq_add, Nat.add_eq_left, Nat.add_left_cancel_iff, Nat.reduceEqDiff, Nat.add_assoc, Nat.succ_ne_zero]
            refine br_intro (fun e3 => ?_) fun e3 => ?_
            · simp only [push_cast, Nat.reduceAdd, Nat.reduceLeDiff, Nat.reduceLT, Int.reduceToNat, Nat.left_eq_add, Nat.add_eq_left, Nat.add_left_cancel_iff, Nat.reduceEqDiff, Nat.add_assoc, Nat.succ_ne_zero, h0]
              refine within_spec ?_
              simp only [push_cast, Nat.reduceAdd, Nat.reduceLeDiff, Nat.reduceLT, Int.reduceToNat, Nat.left_eq_add, Nat.add_eq_left, Nat.add_left_cancel_iff, Nat.reduceEqDiff, Nat.add_assoc, Nat.succ_ne_zero]
              refine br_intro (fun e4 => ?_) fun e4 => ?_
              · simp only [push_cast, Nat.reduceAdd, Nat.reduceLeDiff, Nat.reduceLT, Int.reduceToNat, Nat.left_eq_add, Nat.add_eq_left, Nat.add_left_cancel_iff, Nat.reduceEqDiff, Nat.add_assoc, Nat.succ_ne_zero, h0]
                refine within_spec ?_
                simp only [push_cast, Nat.reduceAdd, Nat.reduceLeDiff, Nat.reduceLT, Int.reduceToNat, Nat.left_eq_add, Nat.add_eq_left, Nat.add_left_cancel_iff, Nat.reduceEqDiff, Nat.add_assoc, Nat.succ_ne_zero]
                refine br_intro (fun e5 => ?_) fun e5 => ?_
                · simp only [push_cast, Nat.reduceAdd, Nat.reduceLeDiff, Nat.reduceLT, Int.reduceToNat, Nat.left_eq_add, Nat.add_eq_left, Nat.add_left_cancel_iff, Nat.reduceEqDiff, Nat.add_assoc, Nat.succ_ne_zero, h0]
                  refine within_spec (hc _ ?_)
                  have : rightP x = (oksB x).all id := by
                    unfold rightP
                    rw [if_neg e]
                    rcases hk with h1 | h1 <;> rw [h1] <;> rfl
                  rw [this, Bool.eq_iff_iff, ok_iff]
                  have hb' := hb.1 e1
                  have e2' : inR x.flags 256 = true := e2
                  have e3' : inR x.root.prio 65536 = true := e3
                  have e4' : inR x.br.prio 65536 = true := e4
                  have e5' : inR x.port 65536 = true := e5
                  have e6 : inR x.cost (4294967295 + 1) = inR x.cost 4294967296 := rfl
                  rw [e6]
                  exact ⟨fun h => h.2.2.1, fun h => ⟨e2', e3', h, e4', e5', hb'.1, hb'.2.1, hb'.2.2.1, hb'.2.2.2⟩⟩
                · exact hno e (bad (fun h => (ok_iff.1 h).2.2.2.2.1) e5)
              · exact hno e (bad (fun h => (ok_iff.1 h).2.2.2.1) e4)
            · exact hno e (bad (fun h => (ok_iff.1 h).2.1) e3)
          · exact hno e (bad (fun h => (ok_iff.1 h).1) e2)
        · refine hno e (bad (fun h => ?_) e1)
          have := ok_iff.1 h
          exact hb.2 ⟨this.2.2.2.2.2.1, this.2.2.2.2.2.2.1, this.2.2.2.2.2.2.2.1, this.2.2.2.2.2.2.2.2⟩
      · have no : ∀ {c : Bool}, (inR x.age 65536 = true ∧ inR x.maxAge 65536 = true ∧ inR x.hello 65536 = true ∧ inR x.forward 65536 = true → c = true) → c = false → j (.bool false) W := fun h1 h2 => hj _ _ ⟨rfl, false, rfl, ⟨fun h => (by cases h), fun h => (by rw [h1 h] at h2; cases h2)⟩⟩
        simp only [push_cast, Nat.reduceAdd, Nat.reduceLeDiff, Nat.reduceLT, Int.reduceToNat, Nat.left_eq_add, Nat.add_eq_left, Nat.add_left_cancel_iff, Nat.reduceEqDiff, Nat.add_assoc, Nat.succ_ne_zero, h0]
        refine within_spec ?_
        simp only [push_cast, Nat.reduceAdd, Nat.reduceLeDiff, Nat.reduceLT, Int.reduceToNat, Nat.left_eq_add, Nat.add_eq_left, Nat.add_left_cancel_iff, Nat.reduceEqDiff, Nat.add_assoc, Nat.succ_ne_zero]
        refine br_intro (fun e1 => ?_) fun e1 => no (fun h => h.1) e1
        simp only [push_cast, Nat.reduceAdd, Nat.reduceLeDiff, Nat.reduceLT, Int.reduceToNat, Nat.left_eq_add, Nat.add_eq_left, Nat.add_left_cancel_iff, Nat.reduceEqDiff, Nat.add_assoc, Nat.succ_ne_zero, h0]
        refine within_spec ?_
        simp only [push_cast, Nat.reduceAdd, Nat.reduceLeDiff, Nat.reduceLT, Int.reduceToNat, Nat.left_eq_add, Nat.add_eq_left, Nat.add_left_cancel_iff, Nat.reduceEqDiff, Nat.add_assoc, Nat.succ_ne_zero]
        refine br_intro (fun e2 => ?_) fun e2 => no (fun h => h.2.1) e2
        simp only [push_cast, Nat.reduceAdd, Nat.reduceLeDiff, Nat.reduceLT, Int.reduceToNat, Nat.left_eq_add, Nat.add_eq_left, Nat.add_left_cancel_iff, Nat.reduceEqDiff, Nat.add_assoc, Nat.succ_ne_zero, h0]
        refine within_spec ?_
        simp only [push_cast, Nat.reduceAdd, Nat.reduceLeDiff, Nat.reduceLT, Int.reduceToNat, Nat.left_eq_add, Nat.add_eq_left, Nat.add_left_cancel_iff, Nat.reduceEqDiff, Nat.add_assoc, Nat.succ_ne_zero]
        refine br_intro (fun e3 => ?_) fun e3 => no (fun h => h.2.2.1) e3
        simp only [push_cast, Nat.reduceAdd, Nat.reduceLeDiff, Nat.reduceLT, Int.reduceToNat, Nat.left_eq_add, Nat.add_eq_left, Nat.add_left_cancel_iff, Nat.reduceEqDiff, Nat.add_assoc, Nat.succ_ne_zero, h0]
        refine within_spec (hj _ _ ⟨rfl, _, rfl, ?_⟩)
        exact ⟨fun h => ⟨e1, e2, e3, h⟩, fun h => h.2.2.2⟩
    · simp only [push_cast, Nat.reduceAdd, Nat.reduceLeDiff, Nat.reduceLT, Int.reduceToNat, Nat.left_eq_add, Nat.add_eq_left, Nat.add_left_cancel_iff, Nat.reduceEqDiff, Nat.add_assoc, Nat.succ_ne_zero, h0]
      refine br_intro (fun e1 => ?_) fun e1 => hj _ ⟨rfl, .inl (by have e1 : (x.kind != 0) = false := e1; simpa using e1)⟩
      refine br_intro (fun e2 => ?_) fun e2 => hj _ ⟨rfl, .inr (by have e2 : (x.kind != 2) = false := e2; simpa using e2)⟩
      refine hc _ ?_
      unfold rightP
      have e1 : x.kind ≠ 0 := by simpa using e1
      have e2 : x.kind ≠ 2 := by simpa using e2
      rw [if_neg e, decide_eq_false e1, decide_eq_false e2]
      rfl

/-! ### What may be told: field by field -/

theorem build_fld {b o : Nat} {n : Int} : opS Tryz.prog (S.build 109 [(0, pt b o), (1, i64 n)]) K w = K (.agg #[pt b o, i64 n]) w := by
  rw [opS_build _ rfl]; rfl
theorem build_fld0 {n : Int} : opS Tryz.prog (S.build 109 [(0, .pointer none), (1, i64 n)]) K w = K (.agg #[.pointer none, i64 n]) w := by
  rw [opS_build _ rfl]; rfl

/-- the fields of a BPDU that lies in a block -/
def fldC (b : Nat) : List (List Value) := [[pt b 1, i64 1], [pt b 2, i64 2], [.pointer none, i64 0], [pt b 9, i64 4], [pt b 10, i64 2], [.pointer none, i64 1], [pt b 17, i64 2], [pt b 18, i64 2], [pt b 19, i64 2], [pt b 20, i64 2], [pt b 21, i64 2]]

theorem fields_spec {b : Nat} (h : ∀ v w', OwnE 109 2 w' v (fldC b) → Fr none_ w w' → New w v → K v w') : CallsR Tryz.prog 81 #[pt b 0] K w := by
  apply c81
  unfold p81
  have e : ∀ (R : Value → World → Prop) w n o, opS Tryz.prog (S.build 109 [(0, pt b o), (1, .int .i64 n)]) R w = R (.agg #[pt b o, i64 n]) w := fun R w n o => build_fld
  have e0 : ∀ (R : Value → World → Prop) w n, opS Tryz.prog (S.build 109 [(0, .pointer none), (1, .int .i64 n)]) R w = R (.agg #[.pointer none, i64 n]) w := fun R w n => build_fld0
  simp only [push_cast, Nat.reduceAdd, Nat.reduceLeDiff, Nat.reduceLT, Int.reduceToNat, Nat.left_eq_add, Nat.add_eq_left, Nat.add_left_cancel_iff, Nat.reduceEqDiff, Nat.add_assoc, Nat.succ_ne_zero, e, e0]
  refine s_bsN (z := .agg #[.pointer none, .int .i64 0]) [.agg #[pt b 1, i64 1], .agg #[pt b 2, i64 2], .agg #[.pointer none, i64 0], .agg #[pt b 9, i64 4], .agg #[pt b 10, i64 2], .agg #[.pointer none, i64 1], .agg #[pt b 17, i64 2], .agg #[pt b 18, i64 2], .agg #[pt b 19, i64 2], .agg #[pt b 20, i64 2], .agg #[pt b 21, i64 2]]
    (by show 0 < 11; decide) (by decide) (by show 11 * 2 ≤ 2 ^ 24; decide) rfl (by simp [Value.cells]) fun v w' h1 h2 h3 => ?_
  exact h v _ h1 (((Fr.refl none_ w).step_drew).trans h2) h3

/-- a slot that tells whether all fields so far may be -/
structure WI (w : World) (x : Bpd) (b f : Nat) (k : Nat) (w' : World) : Prop where
  hx : w'.heap[b]? = some (cellsO x.cells 38)
  hf : w'.heap[f]? = some (cellsO [.bool (((oksB x).take k).all id)] 4)
  hr : Fr (fun y => y = f) w w'

theorem WI.stay {x : Bpd} {b f k : Nat} {w' w'' : World} (h : WI w x b f k w') (hF : Fr none_ w' w'') : WI w x b f k w'' := ⟨hF.heap h.hx fun h => h, hF.heap h.hf fun h => h, h.hr.trans_new hF fun _ _ h => h.elim⟩

theorem oks_take {x : Bpd} {k : Nat} (hk : k < 11) {o : Bool} (ho : (oksB x)[k]? = some o) : (((oksB x).take (k + 1)).all id) = ((((oksB x).take k).all id) && o) := by
  rw [List.take_add_one, ho]
  simp [List.all_append]

theorem rone_spec {x : Bpd} {b f k o : Nat} {v n m : Int} {w' : World} (h : WI w x b f k w') (hbf : b ≠ f) (hk : k < 11) (hv : x.cells[o]? = some (i64 v)) (hn : 0 ≤ n) (hn8 : 8 * n ≤ 32) (hm : (2 : Int) ^ (8 * n).toNat = m) (ho : (oksB x)[k]? = some (inR v m))
    (hK : ∀ w'', WI w x b f (k + 1) w'' → Fr (fun y => y = f) w' w'' → K (.tuple #[]) w'') : CallsR Tryz.prog 66 #[.agg #[pt b o, i64 n], pt f 0] K w' := by
  apply c66
  unfold p66
  have hF : Fr none_ w' (w'.alloc (cellsO [pt b o, i64 n] 109)).drew := (by repeat' first | with_reducible exact Fr.refl _ _ | with_reducible refine Fr.step_alloc ?_ ?_ | with_reducible refine Fr.step_drew ?_ | with_reducible refine Fr.step_wr ?_ ?_ _ _ | exact rfl | exact Or.inr (by omega) | exact Or.inl rfl | exact Or.inl (Or.inl rfl) | exact Or.inl (Or.inr rfl))
  have hx0 : (w'.alloc (cellsO [pt b o, i64 n] 109)).drew.heap[w'.heap.size]? = some (cellsO [pt b o, i64 n] 109) := by simp only [push_cast, Nat.reduceAdd, Nat.reduceLeDiff, Nat.reduceLT, Int.reduceToNat, Nat.left_eq_add, Nat.add_eq_left, Nat.add_left_cancel_iff, Nat.reduceEqDiff, Nat.add_assoc, Nat.succ_ne_zero]
  have ea : (Value.agg #[pt b o, i64 n]) = .agg [pt b o, i64 n].toArray := rfl
  rw [ea]
  simp only [opS_box, cells_agg, alloc_cellsO, drw_eq]
  have h1 := h.stay hF
  generalize (w'.alloc (cellsO [pt b o, i64 n] 109)).drew = W at *
  generalize w'.heap.size = s at *
  have hW : ∀ c : Bool, ((((oksB x).take (k + 1)).all id) = c) → WI w x b f (k + 1) (wr W f 0 [.bool c]) := fun c e => by
    refine ⟨?_, ?_, h1.hr.step_wr (.inl rfl) _ _⟩
    · rw [heap_wr, if_neg hbf]; exact h1.hx
    · rw [heap_wr, if_pos rfl, h1.hf, putAt_cells, e]; rfl
  simp only [push_cast, Nat.reduceAdd, Nat.reduceLeDiff, Nat.reduceLT, Int.reduceToNat, Nat.left_eq_add, Nat.add_eq_left, Nat.add_left_cancel_iff, Nat.reduceEqDiff, Nat.add_assoc, Nat.succ_ne_zero, h1.hf]
  refine br_intro (fun e1 => ?_) fun e1 => ?_
  · simp only [push_cast, Nat.reduceAdd, Nat.reduceLeDiff, Nat.reduceLT, Int.reduceToNat, Nat.left_eq_add, Nat.add_eq_left, Nat.add_left_cancel_iff, Nat.reduceEqDiff, Nat.add_assoc, Nat.succ_ne_zero, hx0]
    simp only [push_cast, Nat.reduceAdd, Nat.reduceLeDiff, Nat.reduceLT, Int.reduceToNat, Nat.left_eq_add, Nat.add_eq_left, Nat.add_left_cancel_iff, Nat.reduceEqDiff, Nat.add_assoc, Nat.succ_ne_zero, h1.hx, hv]
    refine br_dec (fun e2 => ?_) fun e2 => ?_
    · simp only [push_cast, Nat.reduceAdd, Nat.reduceLeDiff, Nat.reduceLT, Int.reduceToNat, Nat.left_eq_add, Nat.add_eq_left, Nat.add_left_cancel_iff, Nat.reduceEqDiff, Nat.add_assoc, Nat.succ_ne_zero, hx0]
      simp only [push_cast, Nat.reduceAdd, Nat.reduceLeDiff, Nat.reduceLT, Int.reduceToNat, Nat.left_eq_add, Nat.add_eq_left, Nat.add_left_cancel_iff, Nat.reduceEqDiff, Nat.add_assoc, Nat.succ_ne_zero, h1.hx, hv]
      rw [wrap_i64 (by omega)]
      obtain ⟨q, hq⟩ := Int.eq_ofNat_of_zero_le (show 0 ≤ 8 * n by omega)
      have esh : ∀ (R : Value → World → Prop) W, opS Tryz.prog (S.binI .shl (.int .i64 1) (.int .i64 (8 * n))) R W = R (i64 m) W := fun R W => by
        rw [hq, opS_shl .i64 .i64 1 q (by show q ≤ 64; omega)]
        have e : (1 : Int) * 2 ^ q = m := by rw [← hm, hq, Int.toNat_natCast, Int.one_mul]
        have hle : (2 : Int) ^ q ≤ 2 ^ 32 := by
          have : (2 : Nat) ^ q ≤ 2 ^ 32 := Nat.pow_le_pow_right (by decide) (by omega)
          exact_mod_cast this
        have hge : (0 : Int) < 2 ^ q := Int.pow_pos (by decide)
        rw [wrap_i64 (by omega), e]
      rw [esh]
      simp only [push_cast, Nat.reduceAdd, Nat.reduceLeDiff, Nat.reduceLT, Int.reduceToNat, Nat.left_eq_add, Nat.add_eq_left, Nat.add_left_cancel_iff, Nat.reduceEqDiff, Nat.add_assoc, Nat.succ_ne_zero, h1.hf]
      refine hK _ (hW _ ?_) (Fr.step_wr (fp := fun y => y = f) (hF.mono fun _ _ h => h.elim) (.inl rfl) _ _)
      rw [oks_take hk ho, e1, Bool.true_and]
      unfold inR
      rw [decide_eq_true (show 0 ≤ v from e2), Bool.true_and]
    · simp only [push_cast, Nat.reduceAdd, Nat.reduceLeDiff, Nat.reduceLT, Int.reduceToNat, Nat.left_eq_add, Nat.add_eq_left, Nat.add_left_cancel_iff, Nat.reduceEqDiff, Nat.add_assoc, Nat.succ_ne_zero, h1.hf]
      refine hK _ (hW _ ?_) (Fr.step_wr (fp := fun y => y = f) (hF.mono fun _ _ h => h.elim) (.inl rfl) _ _)
      rw [oks_take hk ho, e1, Bool.true_and]
      unfold inR
      rw [decide_eq_false (show ¬ 0 ≤ v from e2), Bool.false_and]
  · refine hK _ (hW _ ?_) (Fr.step_wr (fp := fun y => y = f) (hF.mono fun _ _ h => h.elim) (.inl rfl) _ _)
    rw [oks_take hk ho, e1, Bool.false_and]

theorem rtwo_addr {v : Value} (h : K (.tuple #[]) w) : CallsR Tryz.prog 67 #[v] K w := by
  apply c67
  unfold p67
  exact h

theorem fld_at (x : Bpd) (b : Nat) {k : Nat} (hk : k < 11) : (∃ (o : Nat) (n v m : Int), (fldC b)[k]? = some [pt b o, i64 n] ∧ x.cells[o]? = some (i64 v) ∧ 0 ≤ n ∧ 8 * n ≤ 32 ∧ (2 : Int) ^ (8 * n).toNat = m ∧ (oksB x)[k]? = some (inR v m)) ∨
    (∃ j : Nat, j < 2 ∧ (fldC b)[k]? = some [.pointer none, i64 j] ∧ (oksB x)[k]? = some true) := by
  match k, hk with
  | 0, _ => exact .inl ⟨1, 1, x.flags, 256, rfl, rfl, by decide, by decide, by decide, rfl⟩
  | 1, _ => exact .inl ⟨2, 2, x.root.prio, 65536, rfl, rfl, by decide, by decide, by decide, rfl⟩
  | 2, _ => exact .inr ⟨0, by decide, rfl, rfl⟩
  | 3, _ => exact .inl ⟨9, 4, x.cost, 4294967296, rfl, rfl, by decide, by decide, by decide, rfl⟩
  | 4, _ => exact .inl ⟨10, 2, x.br.prio, 65536, rfl, rfl, by decide, by decide, by decide, rfl⟩
  | 5, _ => exact .inr ⟨1, by decide, rfl, rfl⟩
  | 6, _ => exact .inl ⟨17, 2, x.port, 65536, rfl, rfl, by decide, by decide, by decide, rfl⟩
  | 7, _ => exact .inl ⟨18, 2, x.age, 65536, rfl, rfl, by decide, by decide, by decide, rfl⟩
  | 8, _ => exact .inl ⟨19, 2, x.maxAge, 65536, rfl, rfl, by decide, by decide, by decide, rfl⟩
  | 9, _ => exact .inl ⟨20, 2, x.hello, 65536, rfl, rfl, by decide, by decide, by decide, rfl⟩
  | 10, _ => exact .inl ⟨21, 2, x.forward, 65536, rfl, rfl, by decide, by decide, by decide, rfl⟩

theorem build_two {b : Nat} : opS Tryz.prog (S.build 118 [(0, pt b 3), (1, pt b 11)]) K w = K (.agg #[pt b 3, pt b 11]) w := by
  rw [opS_build _ rfl]; rfl
theorem zalloc_fld : opS Tryz.prog (S.alloc 109) K w = K (pt w.heap.size 0) (w.alloc (cellsO [.pointer none, i64 0] 109)) := by
  rw [opS_alloc]; rfl

theorem walk_spec {x : Bpd} {b f : Nat} (h : WI w x b f 0 w) (hbf : b ≠ f) (hK : ∀ w', WI w x b f 11 w' → K (.tuple #[]) w') :
    CallsR Tryz.prog 65 #[pt b 0, .func (.func 66) #[] #[pt f 0], .func (.func 67) #[] #[]] K w := by
  apply c65
  unfold p65
  have e2 : ∀ (R : Value → World → Prop) w, opS Tryz.prog (S.build 118 [(0, pt b 3), (1, pt b 11)]) R w = R (.agg [pt b 3, pt b 11].toArray) w := fun R w => build_two
  have o2 : [pt b 3, pt b 11].all S.oneCell = true := rfl
  have flt := lt_of_heap h.hf
  have blt := lt_of_heap h.hx
  simp only [push_cast, Nat.reduceAdd, Nat.reduceLeDiff, Nat.reduceLT, Int.reduceToNat, Nat.left_eq_add, Nat.add_eq_left, Nat.add_left_cancel_iff, Nat.reduceEqDiff, Nat.add_assoc, Nat.succ_ne_zero, e2, o2]
  refine at_w (fun W => WI w x b f 0 W ∧ W.heap[w.heap.size]? = some (cellsO [pt b 3, pt b 11] 118)) ⟨?_, ?_⟩ ?_
  · have : Fr none_ w (wr (w.drew.alloc (cellsO [.pointer none, .pointer none] 118)) w.heap.size 0 [pt b 3, pt b 11]) := (by repeat' first | with_reducible exact Fr.refl _ _ | with_reducible refine Fr.step_alloc ?_ ?_ | with_reducible refine Fr.step_drew ?_ | with_reducible refine Fr.step_wr ?_ ?_ _ _ | exact rfl | exact Or.inr (by omega) | exact Or.inl rfl | exact Or.inl (Or.inl rfl) | exact Or.inl (Or.inr rfl))
    exact h.stay this
  · simp only [push_cast, Nat.reduceAdd, Nat.reduceLeDiff, Nat.reduceLT, Int.reduceToNat, Nat.left_eq_add, Nat.add_eq_left, Nat.add_left_cancel_iff, Nat.reduceEqDiff, Nat.add_assoc, Nat.succ_ne_zero]
  rintro W0 ⟨hI0, hm0⟩
  refine fields_spec fun v W1 hv hF1 hN1 => ?_
  have hI1 := hI0.stay hF1
  have hm1 := hF1.heap hm0 fun h => h
  obtain ⟨va, vc, hva⟩ := hv.rd.form
  have hlen : (fldC b).length = 11 := rfl
  rw [hlen] at hva
  have elen : ∀ (R : Value → World → Prop) W, opS Tryz.prog (S.len v) R W = R (i64 11) W := fun R W => by rw [hva]; rfl
  rw [elen]
  refine jn0 (WI w x b f 11) (fun w' hI => hK w' hI) fun j hj => ?_
  have hvb : ∀ y, blkS v = some y → y ≠ f := fun y hy e => by
    have := hN1 y hy
    have := hI0.hr.size
    omega
  refine loop1 (fun n u W => ∃ k : Nat, k ≤ 11 ∧ n = 11 - k ∧ u = i64 k ∧ WI w x b f k W ∧ W.heap[w.heap.size]? = some (cellsO [pt b 3, pt b 11] 118) ∧ OwnE 109 2 W v (fldC b)) ?_ 11 ⟨0, by omega, rfl, rfl, hI1, hm1, hv⟩
  rintro n u W X ⟨k, hk, rfl, rfl, hI, hm, ho⟩ hX
  simp only [push_cast, Nat.reduceAdd, Nat.reduceLeDiff, Nat.reduceLT, Int.reduceToNat, Nat.left_eq_add, Nat.add_eq_left, Nat.add_left_cancel_iff, Nat.reduceEqDiff, Nat.add_assoc, Nat.succ_ne_zero]
  refine br_dec (fun hlt => ?_) fun hge => ?_
  · refine s_iaE ho.rd (by omega) (by rw [hlen]; omega) fun b' o' c' hv' he => ?_
    have hkk : k < 11 := by omega
    obtain ⟨e, hee⟩ : ∃ e, (fldC b)[(k : Int).toNat]'(by rw [hlen]; omega) = e := ⟨_, rfl⟩
    rw [hee] at he
    have hel : (fldC b)[k]? = some e := by
      rw [← hee]
      exact List.getElem?_eq_getElem (l := fldC b) (i := k) (by rw [hlen]; omega)
    generalize o' + (k : Int).toNat * 2 = p' at *
    -- a round's own slot
    have round : ∀ (e : List Value) (R : Value → World → Prop), El W b' p' e → e.length = 2 → e.all S.oneCell = true → (∀ W', WI w x b f k W' → W'.heap[w.heap.size]? = some (cellsO [pt b 3, pt b 11] 118) → OwnE 109 2 W' v (fldC b) → W'.heap[W.heap.size]? = some (cellsO e 109) → R (pt W.heap.size 0) W') →
        opS Tryz.prog (S.ld 109 (pt b' p')) (fun x17 => opS Tryz.prog (S.alloc 109) fun x18 => opS Tryz.prog (S.st 109 x18 x17) fun _ => R x18) W := by
      intro e R he hl hone hR
      rw [s_ldN (by decide), he.agg0 hl, onS_some, zalloc_fld]
      have hFa : Fr none_ W (wr (W.alloc (cellsO [.pointer none, i64 0] 109)) W.heap.size 0 e) := (by repeat' first | with_reducible exact Fr.refl _ _ | with_reducible refine Fr.step_alloc ?_ ?_ | with_reducible refine Fr.step_drew ?_ | with_reducible refine Fr.step_wr ?_ ?_ _ _ | exact rfl | exact Or.inr (by omega) | exact Or.inl rfl | exact Or.inl (Or.inl rfl) | exact Or.inl (Or.inr rfl))
      rw [s_stA (n := 2) _ _ _ hl hone]
      have : okAt (W.alloc (cellsO [.pointer none, i64 0] 109)).heap[W.heap.size]? 0 2 = true := by rw [heap_alloc_new]; rfl
      rw [this, onB_true]
      refine hR _ (hI.stay hFa) (hFa.heap hm fun h => h) (ho.fr hFa fun _ _ h => h) ?_
      rw [heap_wr, if_pos rfl, heap_alloc_new, putAt_cells]
      match e, hl with
      | [a, c], _ => rfl
    have next : ∀ W', WI w x b f (k + 1) W' → W'.heap[w.heap.size]? = some (cellsO [pt b 3, pt b 11] 118) → OwnE 109 2 W' v (fldC b) → X (i64 (k + 1)) W' := fun W' h1 h2 h3 => hX (11 - (k + 1)) _ _ (by omega) ⟨k + 1, by omega, rfl, rfl, h1, h2, h3⟩
    rcases fld_at x b hkk with ⟨o, n, v', m, h1, h2, h3, h4, h5, h6⟩ | ⟨q, hq, h1, h6⟩
    · rw [hel] at h1
      cases h1
      refine round _ _ he rfl rfl fun W' hI' hm' ho' hs => ?_
      simp only [push_cast, Nat.reduceAdd, Nat.reduceLeDiff, Nat.reduceLT, Int.reduceToNat, Nat.left_eq_add, Nat.add_eq_left, Nat.add_left_cancel_iff, Nat.reduceEqDiff, Nat.add_assoc, Nat.succ_ne_zero, hs]
      refine rone_spec hI' hbf hkk h2 h3 h4 h5 h6 fun W2 hI2 hF2 => ?_
      simp only [push_cast, Nat.reduceAdd, Nat.reduceLeDiff, Nat.reduceLT, Int.reduceToNat, Nat.left_eq_add, Nat.add_eq_left, Nat.add_left_cancel_iff, Nat.reduceEqDiff, Nat.add_assoc, Nat.succ_ne_zero]
      rw [wrap_i64 (by omega)]
      exact next W2 hI2 (hF2.heap hm' (by omega)) (ho'.fr hF2 fun y hy e => hvb y hy e)
    · rw [hel] at h1
      cases h1
      refine round _ _ he rfl rfl fun W' hI' hm' ho' hs => ?_
      have hia : ∀ (R : Value → World → Prop) W, opS Tryz.prog (S.ia 118 (pt w.heap.size 0) (i64 q)) R W = R (pt w.heap.size q) W := fun R W => by
        rw [opS_iaA w.heap.size 0 .i64 (q : Int) (by omega), Int.toNat_natCast, Nat.mul_one, Nat.zero_add]
      have hI2 : WI w x b f (k + 1) W' := ⟨hI'.hx, by rw [oks_take hkk h6, Bool.and_true]; exact hI'.hf, hI'.hr⟩
      simp only [push_cast, Nat.reduceAdd, Nat.reduceLeDiff, Nat.reduceLT, Int.reduceToNat, Nat.left_eq_add, Nat.add_eq_left, Nat.add_left_cancel_iff, Nat.reduceEqDiff, Nat.add_assoc, Nat.succ_ne_zero, hs, hia, hm']
      have hq2 : ∃ y, [pt b 3, pt b 11][q]? = some y := by
        match q, hq with
        | 0, _ => exact ⟨_, rfl⟩
        | 1, _ => exact ⟨_, rfl⟩
      obtain ⟨y, hy⟩ := hq2
      rw [hy, onS_some]
      refine rtwo_addr ?_
      simp only [push_cast, Nat.reduceAdd, Nat.reduceLeDiff, Nat.reduceLT, Int.reduceToNat, Nat.left_eq_add, Nat.add_eq_left, Nat.add_left_cancel_iff, Nat.reduceEqDiff, Nat.add_assoc, Nat.succ_ne_zero]
      rw [wrap_i64 (by omega)]
      exact next W' hI2 hm' ho'
  · obtain rfl : k = 11 := by omega
    exact hj W hI

theorem zalloc_bool2 : opS Tryz.prog (S.alloc 4) K w = K (pt w.heap.size 0) (w.alloc (cellsO [.bool false] 4)) := by
  rw [opS_alloc]; rfl

theorem bright_spec {x : Bpd} (hx : x.ok) (h : ∀ w', Fr none_ w w' → K (.bool (rightP x)) w') : CallsR Tryz.prog 39 #[.agg x.cells.toArray] K w := by
  apply c39
  unfold p39
  have hF : Fr none_ w (w.alloc (cellsO x.cells 38)) := (by repeat' first | with_reducible exact Fr.refl _ _ | with_reducible refine Fr.step_alloc ?_ ?_ | with_reducible refine Fr.step_drew ?_ | with_reducible refine Fr.step_wr ?_ ?_ _ _ | exact rfl | exact Or.inr (by omega) | exact Or.inl rfl | exact Or.inl (Or.inl rfl) | exact Or.inl (Or.inr rfl))
  have h0 : (w.alloc (cellsO x.cells 38)).heap[w.heap.size]? = some (cellsO x.cells 38) := by simp only [push_cast, Nat.reduceAdd, Nat.reduceLeDiff, Nat.reduceLT, Int.reduceToNat, Nat.left_eq_add, Nat.add_eq_left, Nat.add_left_cancel_iff, Nat.reduceEqDiff, Nat.add_assoc, Nat.succ_ne_zero]
  have hsz : (w.alloc (cellsO x.cells 38)).heap.size = w.heap.size + 1 := size_alloc _ _
  simp only [opS_box, cells_agg, alloc_cellsO]
  generalize w.alloc (cellsO x.cells 38) = W at *
  have hc : ∀ W' (b : Bool), Fr none_ W W' → rightP x = b → K (.bool b) W' := fun W' b hF' e => e ▸ h W' (hF.trans hF')
  have walk : (x.kind = 0 ∨ x.kind = 2) → CallsR Tryz.prog 65 #[pt w.heap.size 0, .func (.func 66) #[] #[pt W.heap.size 0], .func (.func 67) #[] #[]] (fun _ => opS Tryz.prog (S.ld 4 (pt W.heap.size 0)) fun x => K x) (wr (W.alloc (cellsO [.bool false] 4)) W.heap.size 0 [.bool true]) := by
    intro hk
    have hFa : Fr none_ W (wr (W.alloc (cellsO [.bool false] 4)) W.heap.size 0 [.bool true]) := (by repeat' first | with_reducible exact Fr.refl _ _ | with_reducible refine Fr.step_alloc ?_ ?_ | with_reducible refine Fr.step_drew ?_ | with_reducible refine Fr.step_wr ?_ ?_ _ _ | exact rfl | exact Or.inr (by omega) | exact Or.inl rfl | exact Or.inl (Or.inl rfl) | exact Or.inl (Or.inr rfl))
    have hI : WI (wr (W.alloc (cellsO [.bool false] 4)) W.heap.size 0 [.bool true]) x w.heap.size W.heap.size 0 (wr (W.alloc (cellsO [.bool false] 4)) W.heap.size 0 [.bool true]) := ⟨hFa.heap h0 fun h => h, by rw [heap_wr, if_pos rfl, heap_alloc_new, putAt_cells]; rfl, Fr.refl _ _⟩
    refine walk_spec hI (by omega) fun W' hI' => ?_
    simp only [push_cast, Nat.reduceAdd, Nat.reduceLeDiff, Nat.reduceLT, Int.reduceToNat, Nat.left_eq_add, Nat.add_eq_left, Nat.add_left_cancel_iff, Nat.reduceEqDiff, Nat.add_assoc, Nat.succ_ne_zero, hI'.hf]
    have e11 : (oksB x).take 11 = oksB x := rfl
    rw [e11]
    refine hc _ _ (hFa.trans_new hI'.hr fun y hy e => by omega) ?_
    unfold rightP
    rw [if_neg (by omega)]
    rcases hk with h1 | h1 <;> rw [h1] <;> rfl
  simp only [push_cast, Nat.reduceAdd, Nat.reduceLeDiff, Nat.reduceLT, Int.reduceToNat, Nat.left_eq_add, Nat.add_eq_left, Nat.add_left_cancel_iff, Nat.reduceEqDiff, Nat.add_assoc, Nat.succ_ne_zero, h0]
  refine br_intro (fun e => ?_) fun e => ?_
  · have e : x.kind = 128 := by simpa using e
    rw [build_bpd1]
    refine s_eqBpd hx (zBpd_ok hx.1) (hc _ _ (Fr.refl _ _) ?_)
    unfold rightP
    rw [if_pos e, e]
  · have e : x.kind ≠ 128 := by simpa using e
    refine br_intro (fun e1 => ?_) fun e1 => ?_
    · exact walk (.inl (by simpa using e1))
    · refine br_intro (fun e2 => ?_) fun e2 => ?_
      · exact walk (.inr (by simpa using e2))
      · refine hc _ _ (Fr.refl _ _) ?_
        have e1 : x.kind ≠ 0 := by simpa using e1
        have e2 : x.kind ≠ 2 := by simpa using e2
        unfold rightP
        rw [if_neg e, decide_eq_false e1, decide_eq_false e2]
        rfl

/-! ### A way that is told -/

def ofV (x : Bpd) (own : Int) : Vec × Int := if rightP x = false ∨ x.kind = 128 then (zVec, 2) else if own < 1 ∨ own > 65535 then (zVec, 1) else (⟨x.root, x.cost, x.br, x.port, own⟩, 0)

theorem of_spec {x : Bpd} {own : Int} (hx : x.ok) (h : ∀ w', Fr none_ w w' → K (.tuple #[.agg (ofV x own).1.cells.toArray, i64 (ofV x own).2]) w') : CallsR Tryz.prog 68 #[.agg x.cells.toArray, i64 own] K w := by
  apply c68
  unfold p68
  have hc : ∀ W' (p : Vec × Int), Fr none_ w W' → ofV x own = p → K (.tuple #[.agg p.1.cells.toArray, i64 p.2]) W' := fun W' p hF' e => e ▸ h W' hF'
  have hF : Fr none_ w ((w.alloc (cellsO x.cells 38)).alloc (cellsO zVec.cells 44)) := (by repeat' first | with_reducible exact Fr.refl _ _ | with_reducible refine Fr.step_alloc ?_ ?_ | with_reducible refine Fr.step_drew ?_ | with_reducible refine Fr.step_wr ?_ ?_ _ _ | exact rfl | exact Or.inr (by omega) | exact Or.inl rfl | exact Or.inl (Or.inl rfl) | exact Or.inl (Or.inr rfl))
  have h0 : ((w.alloc (cellsO x.cells 38)).alloc (cellsO zVec.cells 44)).heap[w.heap.size]? = some (cellsO x.cells 38) := by simp only [push_cast, Nat.reduceAdd, Nat.reduceLeDiff, Nat.reduceLT, Int.reduceToNat, Nat.left_eq_add, Nat.add_eq_left, Nat.add_left_cancel_iff, Nat.reduceEqDiff, Nat.add_assoc, Nat.succ_ne_zero]
  have h1 : ((w.alloc (cellsO x.cells 38)).alloc (cellsO zVec.cells 44)).heap[w.heap.size + 1]? = some (cellsO zVec.cells 44) := by simp only [push_cast, Nat.reduceAdd, Nat.reduceLeDiff, Nat.reduceLT, Int.reduceToNat, Nat.left_eq_add, Nat.add_eq_left, Nat.add_left_cancel_iff, Nat.reduceEqDiff, Nat.add_assoc, Nat.succ_ne_zero]
  simp only [opS_box, cells_agg, alloc_cellsO]
  rw [zalloc_vec, size_alloc]
  generalize (w.alloc (cellsO x.cells 38)).alloc (cellsO zVec.cells 44) = W at *
  simp only [push_cast, Nat.reduceAdd, Nat.reduceLeDiff, Nat.reduceLT, Int.reduceToNat, Nat.left_eq_add, Nat.add_eq_left, Nat.add_left_cancel_iff, Nat.reduceEqDiff, Nat.add_assoc, Nat.succ_ne_zero, h0]
  refine bright_spec hx fun W2 hF2 => ?_
  replace hF := hF.trans hF2
  replace h0 := hF2.heap h0 fun h => h
  replace h1 := hF2.heap h1 fun h => h
  simp only [push_cast, Nat.reduceAdd, Nat.reduceLeDiff, Nat.reduceLT, Int.reduceToNat, Nat.left_eq_add, Nat.add_eq_left, Nat.add_left_cancel_iff, Nat.reduceEqDiff, Nat.add_assoc, Nat.succ_ne_zero]
  refine br_intro (fun e => ?_) fun e => ?_
  · rw [build_vec0]
    simp only [push_cast, Nat.reduceAdd, Nat.reduceLeDiff, Nat.reduceLT, Int.reduceToNat, Nat.left_eq_add, Nat.add_eq_left, Nat.add_left_cancel_iff, Nat.reduceEqDiff, Nat.add_assoc, Nat.succ_ne_zero, h1]
    exact hc _ (zVec, 2) (hF.step_wr (.inr (by omega)) _ _) (by unfold ofV; rw [if_pos (.inl (by simpa using e))])
  have e : rightP x = true := by simpa using e
  simp only [push_cast, Nat.reduceAdd, Nat.reduceLeDiff, Nat.reduceLT, Int.reduceToNat, Nat.left_eq_add, Nat.add_eq_left, Nat.add_left_cancel_iff, Nat.reduceEqDiff, Nat.add_assoc, Nat.succ_ne_zero, h0]
  refine br_intro (fun e2 => ?_) fun e2 => ?_
  · rw [build_vec0]
    simp only [push_cast, Nat.reduceAdd, Nat.reduceLeDiff, Nat.reduceLT, Int.reduceToNat, Nat.left_eq_add, Nat.add_eq_left, Nat.add_left_cancel_iff, Nat.reduceEqDiff, Nat.add_assoc, Nat.succ_ne_zero, h1]
    exact hc _ (zVec, 2) (hF.step_wr (.inr (by omega)) _ _) (by unfold ofV; rw [if_pos (.inr (by simpa using e2))])
  have e2 : x.kind ≠ 128 := by simpa using e2
  refine br_dec (fun e3 => ?_) fun e3 => ?_
  · rw [build_vec0]
    simp only [push_cast, Nat.reduceAdd, Nat.reduceLeDiff, Nat.reduceLT, Int.reduceToNat, Nat.left_eq_add, Nat.add_eq_left, Nat.add_left_cancel_iff, Nat.reduceEqDiff, Nat.add_assoc, Nat.succ_ne_zero, h1]
    exact hc _ (zVec, 1) (hF.step_wr (.inr (by omega)) _ _) (by unfold ofV; rw [if_neg (by rw [e]; simpa using e2), if_pos (.inl e3)])
  refine br_dec (fun e4 => ?_) fun e4 => ?_
  · rw [build_vec0]
    simp only [push_cast, Nat.reduceAdd, Nat.reduceLeDiff, Nat.reduceLT, Int.reduceToNat, Nat.left_eq_add, Nat.add_eq_left, Nat.add_left_cancel_iff, Nat.reduceEqDiff, Nat.add_assoc, Nat.succ_ne_zero, h1]
    exact hc _ (zVec, 1) (hF.step_wr (.inr (by omega)) _ _) (by unfold ofV; rw [if_neg (by rw [e]; simpa using e2), if_pos (.inr e4)])
  rw [build_vec5]
  simp only [push_cast, Nat.reduceAdd, Nat.reduceLeDiff, Nat.reduceLT, Int.reduceToNat, Nat.left_eq_add, Nat.add_eq_left, Nat.add_left_cancel_iff, Nat.reduceEqDiff, Nat.add_assoc, Nat.succ_ne_zero, h1]
  exact hc _ (⟨x.root, x.cost, x.br, x.port, own⟩, 0) (hF.step_wr (.inr (by omega)) _ _) (by unfold ofV; rw [if_neg (by rw [e]; simpa using e2), if_neg (by omega)])

theorem rof_spec {x : Bpd} {own : Int} (hx : x.ok) (h : ∀ w', Fr none_ w w' → K (.tuple #[.agg (ofV x own).1.cells.toArray, i64 (ofV x own).2]) w') : CallsR Tryz.prog 71 #[.agg x.cells.toArray, i64 own] K w := by
  apply c71
  unfold p71
  have hc : ∀ W' (p : Vec × Int), Fr none_ w W' → ofV x own = p → K (.tuple #[.agg p.1.cells.toArray, i64 p.2]) W' := fun W' p hF' e => e ▸ h W' hF'
  have hF : Fr none_ w ((w.alloc (cellsO x.cells 38)).alloc (cellsO zVec.cells 44)) := (by repeat' first | with_reducible exact Fr.refl _ _ | with_reducible refine Fr.step_alloc ?_ ?_ | with_reducible refine Fr.step_drew ?_ | with_reducible refine Fr.step_wr ?_ ?_ _ _ | exact rfl | exact Or.inr (by omega) | exact Or.inl rfl | exact Or.inl (Or.inl rfl) | exact Or.inl (Or.inr rfl))
  have h0 : ((w.alloc (cellsO x.cells 38)).alloc (cellsO zVec.cells 44)).heap[w.heap.size]? = some (cellsO x.cells 38) := by simp only [push_cast, Nat.reduceAdd, Nat.reduceLeDiff, Nat.reduceLT, Int.reduceToNat, Nat.left_eq_add, Nat.add_eq_left, Nat.add_left_cancel_iff, Nat.reduceEqDiff, Nat.add_assoc, Nat.succ_ne_zero]
  have h1 : ((w.alloc (cellsO x.cells 38)).alloc (cellsO zVec.cells 44)).heap[w.heap.size + 1]? = some (cellsO zVec.cells 44) := by simp only [push_cast, Nat.reduceAdd, Nat.reduceLeDiff, Nat.reduceLT, Int.reduceToNat, Nat.left_eq_add, Nat.add_eq_left, Nat.add_left_cancel_iff, Nat.reduceEqDiff, Nat.add_assoc, Nat.succ_ne_zero]
  simp only [opS_box, cells_agg, alloc_cellsO]
  rw [zalloc_vec, size_alloc]
  generalize (w.alloc (cellsO x.cells 38)).alloc (cellsO zVec.cells 44) = W at *
  simp only [push_cast, Nat.reduceAdd, Nat.reduceLeDiff, Nat.reduceLT, Int.reduceToNat, Nat.left_eq_add, Nat.add_eq_left, Nat.add_left_cancel_iff, Nat.reduceEqDiff, Nat.add_assoc, Nat.succ_ne_zero, h0]
  refine rright_spec hx fun W2 hF2 => ?_
  replace hF := hF.trans hF2
  replace h0 := hF2.heap h0 fun h => h
  replace h1 := hF2.heap h1 fun h => h
  simp only [push_cast, Nat.reduceAdd, Nat.reduceLeDiff, Nat.reduceLT, Int.reduceToNat, Nat.left_eq_add, Nat.add_eq_left, Nat.add_left_cancel_iff, Nat.reduceEqDiff, Nat.add_assoc, Nat.succ_ne_zero]
  refine br_intro (fun e => ?_) fun e => ?_
  · rw [build_vec0]
    simp only [push_cast, Nat.reduceAdd, Nat.reduceLeDiff, Nat.reduceLT, Int.reduceToNat, Nat.left_eq_add, Nat.add_eq_left, Nat.add_left_cancel_iff, Nat.reduceEqDiff, Nat.add_assoc, Nat.succ_ne_zero, h1]
    exact hc _ (zVec, 2) (hF.step_wr (.inr (by omega)) _ _) (by unfold ofV; rw [if_pos (.inl (by simpa using e))])
  have e : rightP x = true := by simpa using e
  simp only [push_cast, Nat.reduceAdd, Nat.reduceLeDiff, Nat.reduceLT, Int.reduceToNat, Nat.left_eq_add, Nat.add_eq_left, Nat.add_left_cancel_iff, Nat.reduceEqDiff, Nat.add_assoc, Nat.succ_ne_zero, h0]
  refine br_intro (fun e2 => ?_) fun e2 => ?_
  · rw [build_vec0]
    simp only [push_cast, Nat.reduceAdd, Nat.reduceLeDiff, Nat.reduceLT, Int.reduceToNat, Nat.left_eq_add, Nat.add_eq_left, Nat.add_left_cancel_iff, Nat.reduceEqDiff, Nat.add_assoc, Nat.succ_ne_zero, h1]
    exact hc _ (zVec, 2) (hF.step_wr (.inr (by omega)) _ _) (by unfold ofV; rw [if_pos (.inr (by simpa using e2))])
  have e2 : x.kind ≠ 128 := by simpa using e2
  refine br_dec (fun e3 => ?_) fun e3 => ?_
  · rw [build_vec0]
    simp only [push_cast, Nat.reduceAdd, Nat.reduceLeDiff, Nat.reduceLT, Int.reduceToNat, Nat.left_eq_add, Nat.add_eq_left, Nat.add_left_cancel_iff, Nat.reduceEqDiff, Nat.add_assoc, Nat.succ_ne_zero, h1]
    exact hc _ (zVec, 1) (hF.step_wr (.inr (by omega)) _ _) (by unfold ofV; rw [if_neg (by rw [e]; simpa using e2), if_pos (.inl e3)])
  refine br_dec (fun e4 => ?_) fun e4 => ?_
  · rw [build_vec0]
    simp only [push_cast, Nat.reduceAdd, Nat.reduceLeDiff, Nat.reduceLT, Int.reduceToNat, Nat.left_eq_add, Nat.add_eq_left, Nat.add_left_cancel_iff, Nat.reduceEqDiff, Nat.add_assoc, Nat.succ_ne_zero, h1]
    exact hc _ (zVec, 1) (hF.step_wr (.inr (by omega)) _ _) (by unfold ofV; rw [if_neg (by rw [e]; simpa using e2), if_pos (.inr e4)])
  rw [build_vec5]
  simp only [push_cast, Nat.reduceAdd, Nat.reduceLeDiff, Nat.reduceLT, Int.reduceToNat, Nat.left_eq_add, Nat.add_eq_left, Nat.add_left_cancel_iff, Nat.reduceEqDiff, Nat.add_assoc, Nat.succ_ne_zero, h1]
  exact hc _ (⟨x.root, x.cost, x.br, x.port, own⟩, 0) (hF.step_wr (.inr (by omega)) _ _) (by unfold ofV; rw [if_neg (by rw [e]; simpa using e2), if_neg (by omega)])

end Go.Gx.S
end

section
/- Maps whose keys are whole numbers; how long a map is; maps that are cleared. -/
namespace Go.Gx
open Go
variable {P : Program} {K : Value → World → Prop} {w : World}

def kI (n : Int) : Value := .int .i64 n
theorem keyC_int {T : TypeId} (h : P.underlying T = some (.int .i64)) : KeyC P T Int kI isI where
  law := Maps.int_keyed h
  of := fun k hk => ⟨_, Maps.keyOf_int_mk h (by
    unfold Lit.wf
    simp only [Bool.and_eq_true, decide_eq_true_eq]
    exact hk)⟩
  inj := fun a b h => by unfold kI at h; cases h; rfl

section
variable {κ ν : Type} {kc : κ → Value} {vc : ν → Value} {kok : κ → Prop}

theorem s_mlen {T KT VT : TypeId} {ty : TypeId} [hT : MpT P T KT VT] {m : Nat} {l : List (κ × ν)} (h : MapR kc vc kok w m l) (hk : K (i64 l.length) w) : opS P (S.bi .len #[T] ty [.map (some m)]) K w := by
  obtain ⟨es, clock, hb, hh⟩ := h
  show opS P (do pure (Next.value (← Builtin.len_ #[T] ty #[.map (some m)]))) K w
  rw [opS_bind]
  have : (Builtin.len_ #[T] ty #[.map (some m)]).run P w = .ok (i64 l.length) w := by
    unfold Builtin.len_
    simp only [List.getElem?_toArray, List.getElem?_cons_zero]
    rw [Sem.run_bind, run_underlying_of hT.und, Result.andThen_ok]
    simp only []
    rw [Sem.run_bind, run_getMap hb, Result.andThen_ok]
    have := hh.len
    rw [Array.length_toList] at this
    show (pure (goInt es.size) : Sem Value).run P w = _
    rw [this]; rfl
  rw [this]; exact hk

theorem s_mclear {T KT VT : TypeId} {ty : TypeId} [hT : MpT P T KT VT] {m : Nat} {l : List (κ × ν)} (h : MapR kc vc kok w m l) (hk : ∀ w', MapR kc vc kok w' m ([] : List (κ × ν)) → Fr (fun b => b = m) w w' → K (.tuple #[]) w') : opS P (S.bi .clear #[T] ty [.map (some m)]) K w := by
  obtain ⟨es, clock, hb, hh⟩ := h
  show opS P (do pure (Next.value (← Builtin.clear_ #[T] ty #[.map (some m)]))) K w
  rw [opS_bind]
  have : (Builtin.clear_ #[T] ty #[.map (some m)]).run P w = .ok (.tuple #[]) (upd w m (.map #[] clock)) := by
    unfold Builtin.clear_
    simp only [List.getElem?_toArray, List.getElem?_cons_zero]
    rw [Sem.run_bind, run_underlying_of hT.und, Result.andThen_ok, Sem.run_bind]
    rw [run_getMap hb, Result.andThen_ok]
    simp only []
    rw [Sem.run_bind, run_setObj hb (by intro c T fz e; cases e), Result.andThen_ok]
    rfl
  rw [this]
  exact hk _ ⟨#[], clock, heap_upd_same (by rw [hb]; rfl), rfl, List.nodup_nil, by simp, List.nodup_nil, by simp⟩ (Fr.upd' hb rfl _ rfl rfl)
end
end Go.Gx
end

section
/- What each port is to the tree. -/
set_option linter.unusedVariables false
set_option linter.unusedSimpArgs false
set_option maxRecDepth 100000
namespace Go.Gx.S
open Go Go.Gx Go.Proofs
variable {K : Value → World → Prop} {w : World}

instance : KeyC Tryz.prog 3 Int kI isI := keyC_int uInt

/-! ### Plain -/

def cntB (h : Hrd) : Bool := h.up && h.has
def candV (h : Hrd) : Vec := { addV h.v h.cost with own := h.port }
def bare (h : Hrd) : Vec := { h.v with own := 0 }
def bestStep (me : Idn) (acc : Vec × Int) (i : Nat) (h : Hrd) : Vec × Int :=
  if cntB h = true ∧ h.v.br ≠ me ∧ cmpV (candV h) acc.1 < 0 then (candV h, (i : Int)) else acc
def bestK (me : Idn) (l : List Hrd) : Nat → Vec × Int
  | 0 => (⟨me, 0, me, 0, 0⟩, -1)
  | k + 1 => match l[k]? with
    | some h => bestStep me (bestK me l k) k h
    | none => bestK me l k
def roleOf (me : Idn) (best : Vec) (root : Int) (i : Nat) (h : Hrd) : Int :=
  if h.up = false then 0 else if (i : Int) = root then 1 else if cntB h = false ∨ ¬ cmpV (bare h) (offer me best h.port) < 0 then 2 else if h.v.br = me then 4 else 3
def bestL (me : Idn) (l : List Hrd) : Vec × Int := bestK me l l.length
def rolesL (me : Idn) (l : List Hrd) : List Int := l.mapIdx fun i h => roleOf me (bestL me l).1 (bestL me l).2 i h

def costH (h : Hrd) : Bool := decide (1 ≤ h.cost) && decide (h.cost ≤ 200000000)
def fairB (l : List Hrd) : Bool := decide (l.length ≤ 64) && l.all costH
/-- the ports of a bridge: numbered from 1 on -/
def numbered (l : List Hrd) : Prop := ∀ (i : Nat) (h : Hrd), l[i]? = some h → h.port = (i : Int) + 1

theorem isI0 : isI 0 := isI_iff.2 (by omega)
theorem addV_br (v : Vec) (c : Int) : (addV v c).br = v.br := by unfold addV; split <;> rfl
theorem addV_root (v : Vec) (c : Int) : (addV v c).root = v.root := by unfold addV; split <;> rfl
theorem addV_port (v : Vec) (c : Int) : (addV v c).port = v.port := by unfold addV; split <;> rfl
theorem addV_own (v : Vec) (c : Int) : (addV v c).own = v.own := by unfold addV; split <;> rfl
theorem addV_ok {v : Vec} {c : Int} (h : v.ok) : (addV v c).ok := by
  obtain ⟨h1, h2, h3, h4, h5⟩ := h
  refine ⟨by rw [addV_root]; exact h1, ?_, by rw [addV_br]; exact h3, by rw [addV_port]; exact h4, by rw [addV_own]; exact h5⟩
  unfold addV
  split
  · rename_i hc
    rw [Bool.and_eq_true, costB_iff, costB_iff] at hc
    have key : ∀ n : Int, 0 ≤ n → n ≤ 4294967295 → isI n := fun n h0 h1 => isI_iff.2 (by omega)
    show isI (if v.cost + c ≤ 4294967295 then v.cost + c else 4294967295)
    split
    · exact key _ (by omega) (by omega)
    · exact key _ (by omega) (by omega)
  · exact h2
theorem addV_with (v : Vec) (c o : Int) : addV { v with own := o } c = { addV v c with own := o } := by unfold addV; split <;> rfl
theorem candV_ok {h : Hrd} (hh : h.ok) : (candV h).ok := by
  obtain ⟨a, b, c, d, e⟩ := addV_ok (c := h.cost) hh.2.2
  exact ⟨a, b, c, d, hh.1⟩
theorem bare_ok {h : Hrd} (hh : h.ok) : (bare h).ok := by
  obtain ⟨a, b, c, d, e⟩ := hh.2.2
  exact ⟨a, b, c, d, isI0⟩
theorem bestK_ok {me : Idn} {l : List Hrd} (hm : me.ok) (hl : ∀ h ∈ l, h.ok) : ∀ k, (bestK me l k).1.ok
  | 0 => ⟨hm, isI0, hm, isI0, isI0⟩
  | k + 1 => by
    unfold bestK
    split
    · rename_i h hh
      unfold bestStep
      split
      · exact candV_ok (hl h (List.mem_of_getElem? hh))
      · exact bestK_ok hm hl k
    · exact bestK_ok hm hl k
theorem offer_ok {me : Idn} {b : Vec} {p : Int} (hm : me.ok) (hb : b.ok) (hp : isI p) : (offer me b p).ok := ⟨hb.1, hb.2.1, hm, hp, isI0⟩

/-! ### Whether ports may be -/

theorem El.heap0 {b p : Nat} {e : List Value} (h : El w b p e) : b < w.heap.size := by
  obtain ⟨cs, T, fz, hb, _⟩ := h
  exact lt_of_heap hb
theorem El.fr0 {b p : Nat} {e : List Value} {w' : World} (h : El w b p e) (hF : Fr none_ w w') : El w' b p e := by
  obtain ⟨cs, T, fz, hb, h2⟩ := h
  exact ⟨cs, T, fz, hF.heap hb fun h => h, h2⟩

theorem zalloc_hrd : opS Tryz.prog (S.alloc 61) K w = K (pt w.heap.size 0) (w.alloc (cellsO (Hrd.cells ⟨0, 0, false, false, zVec⟩) 61)) := by
  rw [opS_alloc]; rfl

theorem fair_spec {lv : Value} {l : List Hrd} (hl : RdE 21 w lv (l.map Hrd.cells)) (hn : numbered l) (hlen : l.length ≤ 2 ^ 20) (h : ∀ w', Fr none_ w w' → K (i64 (if fairB l then 0 else 1)) w') : CallsR Tryz.prog 32 #[lv] K w := by
  apply c32
  unfold p32
  obtain ⟨a, c, hv⟩ := hl.form
  rw [List.length_map] at hv
  have elen : ∀ (R : Value → World → Prop) W, opS Tryz.prog (S.len lv) R W = R (i64 l.length) W := fun R W => by rw [hv]; rfl
  refine s_mkm (kc := kI) (vc := Value.bool) (kok := isI) fun w1 hM hF1 hs1 => ?_
  simp only [elen]
  simp only [push_cast, Nat.reduceAdd, Nat.reduceLeDiff, Nat.reduceLT, Int.reduceToNat, Nat.left_eq_add, Nat.add_eq_left, Nat.add_left_cancel_iff, Nat.reduceEqDiff, Nat.add_assoc, Nat.succ_ne_zero]
  refine br_dec (fun h64 => ?_) fun h64 => ?_
  · have := h w1 hF1
    unfold fairB at this
    rw [decide_eq_false (by omega), Bool.false_and] at this
    exact this
  have hbad : ∀ {w' : World} {k : Nat} {x : Hrd}, l[k]? = some x → costH x = false → Fr none_ w w' → K (i64 1) w' := fun {w' k x} hk hc hF => by
    have := h w' hF
    unfold fairB at this
    have ha : l.all costH = false := by
      rw [List.all_eq_false]
      exact ⟨x, List.mem_of_getElem? hk, by rw [hc]; simp⟩
    rw [ha, Bool.and_false] at this
    exact this
  rw [elen]
  refine jn0 (fun w' => (∃ m : List (Int × Bool), MapR kI Value.bool isI w' w.heap.size m ∧ m.length = l.length) ∧ Fr none_ w w' ∧ l.all costH = true) ?_ fun j hj => ?_
  · rintro w' ⟨⟨m, hm, hml⟩, hF, hall⟩
    refine s_mlen hm ?_
    simp only [elen]
    simp only [push_cast, Nat.reduceAdd, Nat.reduceLeDiff, Nat.reduceLT, Int.reduceToNat, Nat.left_eq_add, Nat.add_eq_left, Nat.add_left_cancel_iff, Nat.reduceEqDiff, Nat.add_assoc, Nat.succ_ne_zero]
    rw [hml]
    have := h w' hF
    unfold fairB at this
    rw [hall, decide_eq_true (by omega)] at this
    refine br_dec (fun h => absurd h (by omega)) fun _ => this
  refine loop1 (fun n u W => ∃ k : Nat, k ≤ l.length ∧ n = l.length - k ∧ u = i64 k ∧ Fr none_ w W ∧ (∀ i x, i < k → l[i]? = some x → costH x = true) ∧ ∃ m : List (Int × Bool), MapR kI Value.bool isI W w.heap.size m ∧ m.map Prod.fst = (List.range k).map fun i : Nat => (i : Int) + 1) ?_ l.length ⟨0, by omega, rfl, rfl, hF1, fun i x hi => by omega, [], hM, rfl⟩
  rintro n u W X ⟨k, hk, rfl, rfl, hF, hc, m, hm, hkeys⟩ hX
  simp only [push_cast, Nat.reduceAdd, Nat.reduceLeDiff, Nat.reduceLT, Int.reduceToNat, Nat.left_eq_add, Nat.add_eq_left, Nat.add_left_cancel_iff, Nat.reduceEqDiff, Nat.add_assoc, Nat.succ_ne_zero]
  refine br_dec (fun hlt => ?_) fun hge => ?_
  · have hkl : k < l.length := by omega
    have hlk : l[k]? = some l[k] := List.getElem?_eq_getElem hkl
    refine s_iaE (hl.fr hF fun _ _ h => h) (by omega) (by simpa using hkl) fun b o c' _ he => ?_
    simp only [List.getElem_map, Int.toNat_natCast] at he
    have hlk' : ((l[k]).cells).length = 21 := rfl
    rw [s_ldN (by decide), Int.toNat_natCast, he.agg0 hlk', onS_some, zalloc_hrd]
    have hone := (l[k]).one
    have hFa : Fr none_ W (wr (W.alloc (cellsO (Hrd.cells ⟨0, 0, false, false, zVec⟩) 61)) W.heap.size 0 (l[k]).cells) := (by repeat' first | with_reducible exact Fr.refl _ _ | with_reducible refine Fr.step_alloc ?_ ?_ | with_reducible refine Fr.step_drew ?_ | with_reducible refine Fr.step_wr ?_ ?_ _ _ | exact rfl | exact Or.inr (by omega) | exact Or.inl rfl | exact Or.inl (Or.inl rfl) | exact Or.inl (Or.inr rfl))
    have hx : (wr (W.alloc (cellsO (Hrd.cells ⟨0, 0, false, false, zVec⟩) 61)) W.heap.size 0 (l[k]).cells).heap[W.heap.size]? = some (cellsO (l[k]).cells 61) := by simp only [push_cast, Nat.reduceAdd, Nat.reduceLeDiff, Nat.reduceLT, Int.reduceToNat, Nat.left_eq_add, Nat.add_eq_left, Nat.add_left_cancel_iff, Nat.reduceEqDiff, Nat.add_assoc, Nat.succ_ne_zero]
    simp only [push_cast, Nat.reduceAdd, Nat.reduceLeDiff, Nat.reduceLT, Int.reduceToNat, Nat.left_eq_add, Nat.add_eq_left, Nat.add_left_cancel_iff, Nat.reduceEqDiff, Nat.add_assoc, Nat.succ_ne_zero]
    have hm' : MapR kI Value.bool isI (wr (W.alloc (cellsO (Hrd.cells ⟨0, 0, false, false, zVec⟩) 61)) W.heap.size 0 (l[k]).cells) w.heap.size m := hm.fr hFa fun h => h
    have hF' := hF.trans hFa
    generalize wr (W.alloc (cellsO (Hrd.cells ⟨0, 0, false, false, zVec⟩) 61)) W.heap.size 0 (l[k]).cells = W2 at *
    have hp := hn k _ hlk
    have bad : costH l[k] = false → K (i64 1) W2 := fun hc => hbad hlk hc hF'
    refine br_dec (fun e => absurd e (by omega)) fun _ => ?_
    refine br_dec (fun e => absurd e (by omega)) fun _ => ?_
    refine br_dec (fun e => bad (by unfold costH; rw [decide_eq_false (by omega)]; rfl)) fun e1 => ?_
    refine br_dec (fun e => bad (by unfold costH; rw [decide_eq_false (show ¬ l[k].cost ≤ 200000000 by omega)]; simp)) fun e2 => ?_
    rw [hp]
    refine s_mu (kc := kI) (vc := Value.bool) (k := (k : Int) + 1) (v := true) hm' (isI_iff.2 (by omega)) fun W3 hm3 hF3 => ?_
    simp only [push_cast, Nat.reduceAdd, Nat.reduceLeDiff, Nat.reduceLT, Int.reduceToNat, Nat.left_eq_add, Nat.add_eq_left, Nat.add_left_cancel_iff, Nat.reduceEqDiff, Nat.add_assoc, Nat.succ_ne_zero]
    rw [wrap_i64 (by omega)]
    refine hX (l.length - (k + 1)) _ _ (by omega) ⟨k + 1, by omega, rfl, rfl, hF'.trans_new hF3 fun b hb e => by omega, ?_, _, hm3, ?_⟩
    · intro i x hi hx'
      by_cases e : i = k
      · subst e
        rw [hlk] at hx'; cases hx'
        unfold costH
        rw [decide_eq_true (show 1 ≤ l[i].cost by omega), decide_eq_true (show l[i].cost ≤ 200000000 by omega)]; rfl
      · exact hc i x (by omega) hx'
    · rw [setL_keys, hkeys]
      have hno : getL m ((k : Int) + 1) = none := by
        refine lookup_none fun p hp e => ?_
        have : p.1 ∈ m.map Prod.fst := List.mem_map.2 ⟨p, hp, rfl⟩
        rw [hkeys, List.mem_map] at this
        obtain ⟨i, hi, he⟩ := this
        rw [List.mem_range] at hi
        omega
      rw [hno, List.range_succ, List.map_append]
      rfl
  · obtain rfl : k = l.length := by omega
    refine hj W ⟨⟨m, hm, ?_⟩, hF, ?_⟩
    · rw [← List.length_map (f := Prod.fst), hkeys, List.length_map, List.length_range]
    · rw [List.all_eq_true]
      intro x hx
      obtain ⟨i, hi, rfl⟩ := List.getElem_of_mem hx
      exact hc i _ hi (List.getElem?_eq_getElem hi)

theorem counts_spec {lv : Value} {l : List Hrd} {xb k : Nat} (hx : w.heap[xb]? = some (cellsO [lv] 66)) (hl : RdE 21 w lv (l.map Hrd.cells)) (hk : k < l.length) (h : K (.bool (cntB l[k])) w) : CallsR Tryz.prog 33 #[i64 k, pt xb 0] K w := by
  apply c33
  unfold p33
  unfold cntB at h
  simp only [push_cast, Nat.reduceAdd, Nat.reduceLeDiff, Nat.reduceLT, Int.reduceToNat, Nat.left_eq_add, Nat.add_eq_left, Nat.add_left_cancel_iff, Nat.reduceEqDiff, Nat.add_assoc, Nat.succ_ne_zero, hx]
  refine s_iaE hl (by omega) (by simpa using hk) fun b o c' _ he => ?_
  simp only [List.getElem_map, Int.toNat_natCast] at he
  rw [Int.toNat_natCast]
  generalize o + k * 21 = q at *
  simp only [push_cast, Nat.reduceAdd, Nat.reduceLeDiff, Nat.reduceLT, Int.reduceToNat, Nat.left_eq_add, Nat.add_eq_left, Nat.add_left_cancel_iff, Nat.reduceEqDiff, Nat.add_assoc, Nat.succ_ne_zero]
  rw [he.cell 2 (by show 2 < 21; decide), Hrd.g_up]
  simp only [push_cast, Nat.reduceAdd, Nat.reduceLeDiff, Nat.reduceLT, Int.reduceToNat, Nat.left_eq_add, Nat.add_eq_left, Nat.add_left_cancel_iff, Nat.reduceEqDiff, Nat.add_assoc, Nat.succ_ne_zero]
  refine br_intro (fun e => ?_) fun e => ?_
  · rw [e, Bool.true_and] at h
    simp only [push_cast, Nat.reduceAdd, Nat.reduceLeDiff, Nat.reduceLT, Int.reduceToNat, Nat.left_eq_add, Nat.add_eq_left, Nat.add_left_cancel_iff, Nat.reduceEqDiff, Nat.add_assoc, Nat.succ_ne_zero, hx]
    refine s_iaE hl (by omega) (by simpa using hk) fun b o c' _ he => ?_
    simp only [List.getElem_map, Int.toNat_natCast] at he
    rw [Int.toNat_natCast]
    generalize o + k * 21 = q at *
    simp only [push_cast, Nat.reduceAdd, Nat.reduceLeDiff, Nat.reduceLT, Int.reduceToNat, Nat.left_eq_add, Nat.add_eq_left, Nat.add_left_cancel_iff, Nat.reduceEqDiff, Nat.add_assoc, Nat.succ_ne_zero]
    rw [he.cell 3 (by show 3 < 21; decide), Hrd.g_has]
    simp only [push_cast, Nat.reduceAdd, Nat.reduceLeDiff, Nat.reduceLT, Int.reduceToNat, Nat.left_eq_add, Nat.add_eq_left, Nat.add_left_cancel_iff, Nat.reduceEqDiff, Nat.add_assoc, Nat.succ_ne_zero]
    exact h
  · rw [e, Bool.false_and] at h
    exact h

theorem rcounts_spec {x : Hrd} (h : ∀ w', Fr none_ w w' → K (.bool (cntB x)) w') : CallsR Tryz.prog 84 #[.agg x.cells.toArray] K w := by
  apply c84
  unfold p84
  have hF : Fr none_ w (w.alloc (cellsO x.cells 61)) := (by repeat' first | with_reducible exact Fr.refl _ _ | with_reducible refine Fr.step_alloc ?_ ?_ | with_reducible refine Fr.step_drew ?_ | with_reducible refine Fr.step_wr ?_ ?_ _ _ | exact rfl | exact Or.inr (by omega) | exact Or.inl rfl | exact Or.inl (Or.inl rfl) | exact Or.inl (Or.inr rfl))
  have h := h _ hF
  unfold cntB at h
  simp only [push_cast, Nat.reduceAdd, Nat.reduceLeDiff, Nat.reduceLT, Int.reduceToNat, Nat.left_eq_add, Nat.add_eq_left, Nat.add_left_cancel_iff, Nat.reduceEqDiff, Nat.add_assoc, Nat.succ_ne_zero]
  refine br_intro (fun e => ?_) fun e => ?_
  · rw [e, Bool.true_and] at h
    exact h
  · rw [e, Bool.false_and] at h
    exact h

end Go.Gx.S
end

section
/- What each port is to the tree: Select. -/
set_option linter.unusedVariables false
set_option linter.unusedSimpArgs false
set_option maxRecDepth 100000
namespace Go.Gx.S
open Go Go.Gx Go.Proofs
variable {K : Value → World → Prop} {w : World}

/-- the place of an element -/
theorem elem_at {lv : Value} {l : List Hrd} (hl : RdE 21 w lv (l.map Hrd.cells)) {k : Nat} (hk : k < l.length) : ∃ b p, (∀ (R : Value → World → Prop) W, opS Tryz.prog (S.ia 66 lv (.int .i64 k)) R W = R (pt b p) W) ∧ El w b p (l[k]).cells := by
  have h0 := hl
  obtain ⟨h1, h2⟩ := hl
  rcases h1 with ⟨_, h1, _⟩ | ⟨b, o, c, cs, T, fz, rfl, hb, hc, ho, hl⟩
  · rw [List.length_map] at h1; omega
  · refine ⟨b, o + k * 21, fun R W => ?_, ?_⟩
    · rw [List.length_map, opS_iaS, if_pos (by omega), Int.toNat_natCast]
    · have := s_iaE (P := Tryz.prog) (T := 66) (w := w) (K := fun v _ => ∃ b' p', v = pt b' p' ∧ El w b' p' (l[k]).cells) (k := .i64) (i := (k : Int)) h0 (by omega) (by simpa using hk) fun b' o' c' _ he => ⟨_, _, rfl, by simpa using he⟩
      rw [List.length_map, opS_iaS, if_pos (by omega), Int.toNat_natCast] at this
      obtain ⟨b', p', he, h⟩ := this
      simp only [pt, Value.pointer.injEq, Option.some.injEq, Addr.mk.injEq, and_true] at he
      rw [he.1, he.2]; exact h

/-- while Select is at work -/
structure SLr (w : World) (lv : Value) (me : Idn) (bb : Nat) (acc : Vec) (W : World) : Prop where
  m : W.heap[w.heap.size]? = some (cellsO me.cells 25)
  l : W.heap[w.heap.size + 1]? = some (cellsO [lv] 66)
  o : W.heap[w.heap.size + 2]? = some (cellsO zVec.cells 44)
  b : W.heap[bb]? = some (cellsO acc.cells 44)
  fr : Fr none_ w W
  ge : w.heap.size + 3 ≤ bb

section
variable {lv : Value} {me : Idn} {bb : Nat} {acc : Vec} {W : World}
theorem SLr.fr0 {W' : World} (h : SLr w lv me bb acc W) (hF : Fr none_ W W') : SLr w lv me bb acc W' := ⟨hF.heap h.m fun h => h, hF.heap h.l fun h => h, hF.heap h.o fun h => h, hF.heap h.b fun h => h, h.fr.trans hF, h.ge⟩
def VB (w : World) (bb vb : Nat) (c : Vec) (W : World) : Prop := W.heap[vb]? = some (cellsO c.cells 44) ∧ w.heap.size + 3 ≤ vb ∧ vb ≠ bb
theorem VB.fr0 {vb : Nat} {c : Vec} {W' : World} (h : VB w bb vb c W) (hF : Fr none_ W W') : VB w bb vb c W' := ⟨hF.heap h.1 fun h => h, h.2⟩
theorem SLr.wr {vb : Nat} {c c' : Vec} {o : Nat} {vs : List Value} (h : SLr w lv me bb acc W) (hv : VB w bb vb c W) (he : splice c.cells o vs = c'.cells) : SLr w lv me bb acc (wr W vb o vs) ∧ VB w bb vb c' (Gx.wr W vb o vs) := by
  obtain ⟨h1, h2, h3, h4, h5, h6⟩ := h
  obtain ⟨v1, v2, v3⟩ := hv
  refine ⟨⟨?_, ?_, ?_, ?_, h5.step_wr (.inr (by omega)) _ _, h6⟩, ?_, v2, v3⟩
  · rw [heap_wr, if_neg (by omega)]; exact h1
  · rw [heap_wr, if_neg (by omega)]; exact h2
  · rw [heap_wr, if_neg (by omega)]; exact h3
  · rw [heap_wr, if_neg (fun e => v3 e.symm)]; exact h4
  · rw [heap_wr, if_pos rfl, v1, putAt_cells, he]

theorem r_ld66 {R : Value → World → Prop} (hI : SLr w lv me bb acc W) (hk : R lv W) : opS Tryz.prog (S.ld 66 (pt (w.heap.size + 1) 0)) R W := by
  simp only [push_cast, Nat.reduceAdd, Nat.reduceLeDiff, Nat.reduceLT, Int.reduceToNat, Nat.left_eq_add, Nat.add_eq_left, Nat.add_left_cancel_iff, Nat.reduceEqDiff, Nat.add_assoc, Nat.succ_ne_zero, hI.l]; exact hk
theorem r_ldV {b p : Nat} {h : Hrd} {R : Value → World → Prop} (he : El w b p h.cells) (hI : SLr w lv me bb acc W) (hk : R (.agg h.v.cells.toArray) W) : opS Tryz.prog (S.ld 44 (pt b (p + 4))) R W := by
  rw [s_ldN (by decide), (El.fr0 he hI.fr).agg 4 17 (by show 4 + 17 ≤ 21; decide), Hrd.d_v, onS_some]; exact hk
theorem r_ldC {b p : Nat} {h : Hrd} {R : Value → World → Prop} (he : El w b p h.cells) (hI : SLr w lv me bb acc W) (hk : R (i64 h.cost) W) : opS Tryz.prog (S.ld 3 (pt b (p + 1))) R W := by
  rw [s_ld1, (El.fr0 he hI.fr).cell 1 (by show 1 < 21; decide), Hrd.g_cost, onS_some]; exact hk
theorem r_ldP {b p : Nat} {h : Hrd} {R : Value → World → Prop} (he : El w b p h.cells) (hI : SLr w lv me bb acc W) (hk : R (i64 h.port) W) : opS Tryz.prog (S.ld 3 (pt b p)) R W := by
  rw [s_ld1, (El.fr0 he hI.fr).cell0 (by show 0 < 21; decide), Hrd.g_port, onS_some]; exact hk
theorem r_ldU {b p : Nat} {h : Hrd} {R : Value → World → Prop} (he : El w b p h.cells) (hI : SLr w lv me bb acc W) (hk : R (.bool h.up) W) : opS Tryz.prog (S.ld 4 (pt b (p + 2))) R W := by
  rw [s_ld1, (El.fr0 he hI.fr).cell 2 (by show 2 < 21; decide), Hrd.g_up, onS_some]; exact hk
theorem r_al {R : Value → World → Prop} (hI : SLr w lv me bb acc W) (hk : ∀ W' vb, SLr w lv me bb acc W' → VB w bb vb zVec W' → Fr none_ W W' → W.heap.size ≤ vb → R (pt vb 0) W') : opS Tryz.prog (S.alloc 44) R W := by
  rw [zalloc_vec]
  have h1 := lt_of_heap hI.o
  have h2 := lt_of_heap hI.b
  exact hk _ _ (hI.fr0 (by repeat' first | with_reducible exact Fr.refl _ _ | with_reducible refine Fr.step_alloc ?_ ?_ | with_reducible refine Fr.step_drew ?_ | with_reducible refine Fr.step_wr ?_ ?_ _ _ | exact rfl | exact Or.inr (by omega) | exact Or.inl rfl | exact Or.inl (Or.inl rfl) | exact Or.inl (Or.inr rfl))) ⟨by simp only [push_cast, Nat.reduceAdd, Nat.reduceLeDiff, Nat.reduceLT, Int.reduceToNat, Nat.left_eq_add, Nat.add_eq_left, Nat.add_left_cancel_iff, Nat.reduceEqDiff, Nat.add_assoc, Nat.succ_ne_zero], by omega, by omega⟩ (by repeat' first | with_reducible exact Fr.refl _ _ | with_reducible refine Fr.step_alloc ?_ ?_ | with_reducible refine Fr.step_drew ?_ | with_reducible refine Fr.step_wr ?_ ?_ _ _ | exact rfl | exact Or.inr (by omega) | exact Or.inl rfl | exact Or.inl (Or.inl rfl) | exact Or.inl (Or.inr rfl)) (Nat.le_refl _)
theorem r_add {v : Vec} {c : Int} {R : Value → World → Prop} (hv : v.ok) (hI : SLr w lv me bb acc W) (hk : ∀ W', SLr w lv me bb acc W' → (∀ vb c, VB w bb vb c W → VB w bb vb c W') → R (.agg (addV v c).cells.toArray) W') : opS Tryz.prog (S.cl 34 [.agg v.cells.toArray, i64 c]) R W := by
  rw [opS_cl]
  exact add_spec hv fun W' hF => hk W' (hI.fr0 hF) fun vb c h => h.fr0 hF
theorem r_st {vb : Nat} {c v : Vec} {j : Value → World → Prop} (hI : SLr w lv me bb acc W) (hv : VB w bb vb c W) (hk : ∀ W', SLr w lv me bb acc W' → VB w bb vb v W' → j (pt vb 0) W') : opS Tryz.prog (S.st 44 (pt vb 0) (.agg v.cells.toArray)) (fun _ => j (pt vb 0)) W := by
  obtain ⟨h1, h2⟩ := hI.wr hv (Vec.sw c v)
  simp only [push_cast, Nat.reduceAdd, Nat.reduceLeDiff, Nat.reduceLT, Int.reduceToNat, Nat.left_eq_add, Nat.add_eq_left, Nat.add_left_cancel_iff, Nat.reduceEqDiff, Nat.add_assoc, Nat.succ_ne_zero, hv.1]
  exact hk _ h1 h2
theorem r_stv {vb : Nat} {c c' : Vec} {R : Value → World → Prop} (hI : SLr w lv me bb acc W) (hv : VB w bb vb c W) (hk : ∀ W', SLr w lv me bb acc W' → VB w bb vb c' W' → Fr (fun b => b = vb) W W' → R undef W') : opS Tryz.prog (S.st 44 (pt vb 0) (.agg c'.cells.toArray)) R W := by
  obtain ⟨h1, h2⟩ := hI.wr hv (Vec.sw c c')
  simp only [push_cast, Nat.reduceAdd, Nat.reduceLeDiff, Nat.reduceLT, Int.reduceToNat, Nat.left_eq_add, Nat.add_eq_left, Nat.add_left_cancel_iff, Nat.reduceEqDiff, Nat.add_assoc, Nat.succ_ne_zero, hv.1]
  exact hk _ h1 h2 (Fr.wr W _ _ _ rfl)
theorem r_sto {vb : Nat} {c : Vec} {z : Int} {R : Value → World → Prop} (hI : SLr w lv me bb acc W) (hv : VB w bb vb c W) (hk : ∀ W', SLr w lv me bb acc W' → VB w bb vb { c with own := z } W' → Fr (fun b => b = vb) W W' → R undef W') : opS Tryz.prog (S.st 3 (pt vb 16) (i64 z)) R W := by
  obtain ⟨h1, h2⟩ := hI.wr hv (Vec.s_own c z)
  simp only [push_cast, Nat.reduceAdd, Nat.reduceLeDiff, Nat.reduceLT, Int.reduceToNat, Nat.left_eq_add, Nat.add_eq_left, Nat.add_left_cancel_iff, Nat.reduceEqDiff, Nat.add_assoc, Nat.succ_ne_zero, hv.1]
  exact hk _ h1 h2 (Fr.wr W _ _ _ rfl)
theorem r_ldvb {vb : Nat} {c : Vec} {R : Value → World → Prop} (hv : VB w bb vb c W) (hk : R (.agg c.cells.toArray) W) : opS Tryz.prog (S.ld 44 (pt vb 0)) R W := by
  simp only [push_cast, Nat.reduceAdd, Nat.reduceLeDiff, Nat.reduceLT, Int.reduceToNat, Nat.left_eq_add, Nat.add_eq_left, Nat.add_left_cancel_iff, Nat.reduceEqDiff, Nat.add_assoc, Nat.succ_ne_zero, hv.1]; exact hk
theorem r_ldb {R : Value → World → Prop} (hI : SLr w lv me bb acc W) (hk : R (.agg acc.cells.toArray) W) : opS Tryz.prog (S.ld 44 (pt bb 0)) R W := by
  simp only [push_cast, Nat.reduceAdd, Nat.reduceLeDiff, Nat.reduceLT, Int.reduceToNat, Nat.left_eq_add, Nat.add_eq_left, Nat.add_left_cancel_iff, Nat.reduceEqDiff, Nat.add_assoc, Nat.succ_ne_zero, hI.b]; exact hk
theorem r_ldm {R : Value → World → Prop} (hI : SLr w lv me bb acc W) (hk : R (.agg me.cells.toArray) W) : opS Tryz.prog (S.ld 25 (pt w.heap.size 0)) R W := by
  simp only [push_cast, Nat.reduceAdd, Nat.reduceLeDiff, Nat.reduceLT, Int.reduceToNat, Nat.left_eq_add, Nat.add_eq_left, Nat.add_left_cancel_iff, Nat.reduceEqDiff, Nat.add_assoc, Nat.succ_ne_zero, hI.m]; exact hk
end

theorem vec_slot {g : Vec} {R : Value → Value → World → Prop} (h : ∀ u w', w'.heap[w.heap.size]? = some (cellsO g.cells 44) → Fr none_ w w' → R (pt w.heap.size 0) u w') :
    opS Tryz.prog (S.alloc 44) (fun x => opS Tryz.prog (S.st 44 x (.agg g.cells.toArray)) (R x)) w := by
  rw [zalloc_vec]
  simp only [push_cast, Nat.reduceAdd, Nat.reduceLeDiff, Nat.reduceLT, Int.reduceToNat, Nat.left_eq_add, Nat.add_eq_left, Nat.add_left_cancel_iff, Nat.reduceEqDiff, Nat.add_assoc, Nat.succ_ne_zero]
  refine h _ _ ?_ (Fr.step_wr (Fr.step_alloc (Fr.refl _ _) rfl) (.inr (Nat.le_refl _)) _ _)
  simp only [push_cast, Nat.reduceAdd, Nat.reduceLeDiff, Nat.reduceLT, Int.reduceToNat, Nat.left_eq_add, Nat.add_eq_left, Nat.add_left_cancel_iff, Nat.reduceEqDiff, Nat.add_assoc, Nat.succ_ne_zero]

theorem bestK_succ {me : Idn} {l : List Hrd} {k : Nat} (hk : k < l.length) : bestK me l (k + 1) = bestStep me (bestK me l k) k l[k] := by
  show (match l[k]? with | some h => bestStep me (bestK me l k) k h | none => bestK me l k) = _
  rw [List.getElem?_eq_getElem hk]

theorem select_spec {lv : Value} {l : List Hrd} {me : Idn} (hl : RdE 21 w lv (l.map Hrd.cells)) (hn : numbered l) (hok : ∀ h ∈ l, h.ok) (hm : me.ok) (hlen : l.length ≤ 2 ^ 20)
    (h0 : fairB l = false → ∀ w', Fr none_ w w' → K (.tuple #[.agg zVec.cells.toArray, .slice none 0 0, i64 1]) w')
    (h1 : fairB l = true → ∀ v w', OwnE 3 1 w' v ((rolesL me l).map cellI) → Fr none_ w w' → New w v → K (.tuple #[.agg (bestL me l).1.cells.toArray, v, i64 0]) w') : CallsR Tryz.prog 18 #[.agg me.cells.toArray, lv] K w := by
  apply c18
  unfold p18
  obtain ⟨a, c, hv⟩ := hl.form
  rw [List.length_map] at hv
  have elen : ∀ (R : Value → World → Prop) W, opS Tryz.prog (S.len lv) R W = R (i64 l.length) W := fun R W => by rw [hv]; rfl
  have olv : S.oneCell lv = true := hl.one
  have elv : lv.cells = [lv].toArray := by rw [hv]; rfl
  simp only [opS_box, cells_agg, alloc_cellsO, elv, size_alloc]
  rw [zalloc_vec]
  refine at_w (fun W => W.heap[w.heap.size]? = some (cellsO me.cells 25) ∧ W.heap[w.heap.size + 1]? = some (cellsO [lv] 66) ∧ W.heap[w.heap.size + 2]? = some (cellsO zVec.cells 44) ∧ Fr none_ w W) ⟨by simp only [push_cast, Nat.reduceAdd, Nat.reduceLeDiff, Nat.reduceLT, Int.reduceToNat, Nat.left_eq_add, Nat.add_eq_left, Nat.add_left_cancel_iff, Nat.reduceEqDiff, Nat.add_assoc, Nat.succ_ne_zero], by simp only [push_cast, Nat.reduceAdd, Nat.reduceLeDiff, Nat.reduceLT, Int.reduceToNat, Nat.left_eq_add, Nat.add_eq_left, Nat.add_left_cancel_iff, Nat.reduceEqDiff, Nat.add_assoc, Nat.succ_ne_zero], by simp only [push_cast, Nat.reduceAdd, Nat.reduceLeDiff, Nat.reduceLT, Int.reduceToNat, Nat.left_eq_add, Nat.add_eq_left, Nat.add_left_cancel_iff, Nat.reduceEqDiff, Nat.add_assoc, Nat.succ_ne_zero], (by repeat' first | with_reducible exact Fr.refl _ _ | with_reducible refine Fr.step_alloc ?_ ?_ | with_reducible refine Fr.step_drew ?_ | with_reducible refine Fr.step_wr ?_ ?_ _ _ | exact rfl | exact Or.inr (by omega) | exact Or.inl rfl | exact Or.inl (Or.inl rfl) | exact Or.inl (Or.inr rfl))⟩ ?_
  rintro W0 ⟨m0, l0, o0, f0⟩
  simp only [size_alloc]
  simp only [push_cast, Nat.reduceAdd, Nat.reduceLeDiff, Nat.reduceLT, Int.reduceToNat, Nat.left_eq_add, Nat.add_eq_left, Nat.add_left_cancel_iff, Nat.reduceEqDiff, Nat.add_assoc, Nat.succ_ne_zero, l0]
  refine fair_spec (hl.fr f0 fun _ _ h => h) hn hlen fun W1 hF1 => ?_
  replace m0 := hF1.heap m0 fun h => h
  replace l0 := hF1.heap l0 fun h => h
  replace o0 := hF1.heap o0 fun h => h
  replace f0 := f0.trans hF1
  simp only [push_cast, Nat.reduceAdd, Nat.reduceLeDiff, Nat.reduceLT, Int.reduceToNat, Nat.left_eq_add, Nat.add_eq_left, Nat.add_left_cancel_iff, Nat.reduceEqDiff, Nat.add_assoc, Nat.succ_ne_zero]
  cases hfair : fairB l with
  | false =>
    refine br_intro (fun _ => ?_) fun e => absurd e (by decide)
    rw [build_vec0]
    simp only [push_cast, Nat.reduceAdd, Nat.reduceLeDiff, Nat.reduceLT, Int.reduceToNat, Nat.left_eq_add, Nat.add_eq_left, Nat.add_left_cancel_iff, Nat.reduceEqDiff, Nat.add_assoc, Nat.succ_ne_zero, o0]
    exact h0 hfair _ (f0.step_wr (.inr (by omega)) _ _)
  | true =>
  refine br_intro (fun e => absurd e (by decide)) fun _ => ?_
  simp only [push_cast, Nat.reduceAdd, Nat.reduceLeDiff, Nat.reduceLT, Int.reduceToNat, Nat.left_eq_add, Nat.add_eq_left, Nat.add_left_cancel_iff, Nat.reduceEqDiff, Nat.add_assoc, Nat.succ_ne_zero, m0]
  rw [build_vec2]
  have osz := lt_of_heap o0
  refine vec_slot fun _ W2 hb2 hF2 => ?_
  have hI0 : SLr w lv me W1.heap.size ⟨me, 0, me, 0, 0⟩ W2 := ⟨hF2.heap m0 fun h => h, hF2.heap l0 fun h => h, hF2.heap o0 fun h => h, hb2, f0.trans hF2, by omega⟩
  generalize W1.heap.size = bb at *
  simp only [push_cast, Nat.reduceAdd, Nat.reduceLeDiff, Nat.reduceLT, Int.reduceToNat, Nat.left_eq_add, Nat.add_eq_left, Nat.add_left_cancel_iff, Nat.reduceEqDiff, Nat.add_assoc, Nat.succ_ne_zero, hI0.l]
  rw [elen]
  refine jn1 (fun v W => v = i64 (bestL me l).2 ∧ SLr w lv me bb (bestL me l).1 W) ?_ fun j hj => ?_
  · rintro v W ⟨rfl, hI⟩
    simp only [push_cast, Nat.reduceAdd, Nat.reduceLeDiff, Nat.reduceLT, Int.reduceToNat, Nat.left_eq_add, Nat.add_eq_left, Nat.add_left_cancel_iff, Nat.reduceEqDiff, Nat.add_assoc, Nat.succ_ne_zero, hI.l]
    rw [elen]
    rw [opS_mks (z := .int .i64 0) .i64 .i64 (l.length : Int) (by omega) (by omega) (by omega) rfl (by decide)]
    rw [Int.toNat_natCast]
    have hrl : (rolesL me l).length = l.length := by unfold rolesL; simp
    have hlt := lt_of_heap hI.b
    have hFz : Fr none_ W (W.alloc (.cells (zeros l.length (Value.int .i64 0).cells.toList).toArray 3)) := (by repeat' first | with_reducible exact Fr.refl _ _ | with_reducible refine Fr.step_alloc ?_ ?_ | with_reducible refine Fr.step_drew ?_ | with_reducible refine Fr.step_wr ?_ ?_ _ _ | exact rfl | exact Or.inr (by omega) | exact Or.inl rfl | exact Or.inl (Or.inl rfl) | exact Or.inl (Or.inr rfl))
    have hO : OwnE 3 1 (W.alloc (.cells (zeros l.length (Value.int .i64 0).cells.toList).toArray 3)) (.slice (some ⟨W.heap.size, 0, none⟩) l.length l.length) (((rolesL me l).take 0 ++ List.replicate (l.length - 0) 0).map cellI) := by
      have e1 : ((rolesL me l).take 0 ++ List.replicate (l.length - 0) 0).map cellI = List.replicate l.length [i64 0] := by simp [cellI]
      rw [e1]
      refine ⟨.inr ⟨W.heap.size, 0, l.length, _, by rw [List.length_replicate], heap_alloc_new _ _, by rw [List.length_replicate]; exact Nat.le_refl _, ?_, ?_⟩, ?_⟩
      · rw [List.size_toArray, zeros_length]; simp [Value.cells]
      · show _ = List.take _ (List.drop 0 (zeros l.length [i64 0]))
        rw [List.drop_zero, List.length_replicate, List.take_of_length_le (by rw [zeros_length]; simp)]
        rfl
      · intro x hx
        rw [(List.mem_replicate.1 hx).2]; rfl
    have hI2 := hI.fr0 hFz
    have hob : w.heap.size + 3 ≤ W.heap.size ∧ W.heap.size ≠ bb := ⟨by have := hI.ge; omega, by omega⟩
    generalize W.alloc (.cells (zeros l.length (Value.int .i64 0).cells.toList).toArray 3) = W2 at *
    generalize W.heap.size = ob at *
    simp only [push_cast, Nat.reduceAdd, Nat.reduceLeDiff, Nat.reduceLT, Int.reduceToNat, Nat.left_eq_add, Nat.add_eq_left, Nat.add_left_cancel_iff, Nat.reduceEqDiff, Nat.add_assoc, Nat.succ_ne_zero, hI2.l]
    rw [elen]
    refine jn0 (fun W => SLr w lv me bb (bestL me l).1 W ∧ OwnE 3 1 W (.slice (some ⟨ob, 0, none⟩) l.length l.length) ((rolesL me l).map cellI)) ?_ fun j hj => ?_
    · rintro W3 ⟨hI3, hO3⟩
      simp only [push_cast, Nat.reduceAdd, Nat.reduceLeDiff, Nat.reduceLT, Int.reduceToNat, Nat.left_eq_add, Nat.add_eq_left, Nat.add_left_cancel_iff, Nat.reduceEqDiff, Nat.add_assoc, Nat.succ_ne_zero, hI3.b, hI3.o]
      have hF3 : Fr (fun b => b = w.heap.size + 2) W3 (wr W3 (w.heap.size + 2) 0 (bestL me l).1.cells) := Fr.wr W3 _ _ _ rfl
      refine h1 hfair _ _ (hO3.fr hF3 fun b hb e => ?_) (hI3.fr.step_wr (.inr (by omega)) _ _) fun b hb => ?_
      · simp only [blkS, Option.some.injEq] at hb; omega
      · simp only [blkS, Option.some.injEq] at hb; omega
    · refine loop1 (fun n u W => ∃ k : Nat, k ≤ l.length ∧ n = l.length - k ∧ u = i64 k ∧ SLr w lv me bb (bestL me l).1 W ∧ OwnE 3 1 W (.slice (some ⟨ob, 0, none⟩) l.length l.length) (((rolesL me l).take k ++ List.replicate (l.length - k) 0).map cellI)) ?_ l.length ⟨0, by omega, rfl, rfl, hI2, hO⟩
      rintro n u W X ⟨k, hk, rfl, rfl, hI, hO⟩ hX
      simp only [push_cast, Nat.reduceAdd, Nat.reduceLeDiff, Nat.reduceLT, Int.reduceToNat, Nat.left_eq_add, Nat.add_eq_left, Nat.add_left_cancel_iff, Nat.reduceEqDiff, Nat.add_assoc, Nat.succ_ne_zero]
      refine br_dec (fun hlt => ?_) fun hge => ?_
      · have hkl : k < l.length := by omega
        obtain ⟨b, p, hia, he⟩ := elem_at hl hkl
        have hhok := hok _ (List.getElem_mem hkl)
        have hbok : (bestL me l).1.ok := bestK_ok hm hok _
        have hrk : (rolesL me l)[k]? = some (roleOf me (bestL me l).1 (bestL me l).2 k l[k]) := by
          unfold rolesL
          rw [List.getElem?_mapIdx, List.getElem?_eq_getElem hkl]; rfl
        have hlk : ((((rolesL me l).take k ++ List.replicate (l.length - k) 0).map cellI)).length = l.length := by
          rw [List.length_map, List.length_append, List.length_take, List.length_replicate, hrl]; omega
        have fin : ∀ {r : Int} {W : World}, roleOf me (bestL me l).1 (bestL me l).2 k l[k] = r → SLr w lv me bb (bestL me l).1 W → OwnE 3 1 W (.slice (some ⟨ob, 0, none⟩) l.length l.length) (((rolesL me l).take k ++ List.replicate (l.length - k) 0).map cellI) →
            opS Tryz.prog (S.ia 26 (.slice (some ⟨ob, 0, none⟩) l.length l.length) (i64 k)) (fun x => opS Tryz.prog (S.st 3 x (.int .i64 r)) fun _ => opS Tryz.prog (S.binI .add (i64 k) (.int .i64 1)) fun y => X y) W := by
          intro r W hr hI hO
          rw [opS_iaS, if_pos (by omega), Int.toNat_natCast]
          have hO' : OwnE 3 1 W (.slice (some ⟨ob, 0, none⟩) (((rolesL me l).take k ++ List.replicate (l.length - k) 0).map cellI).length l.length) (((rolesL me l).take k ++ List.replicate (l.length - k) 0).map cellI) := by rw [hlk]; exact hO
          obtain ⟨hok', hput⟩ := hO'.put (e := [i64 r]) (i := k) rfl (by rw [hlk]; exact hkl)
          rw [s_st1 _ _ _ rfl, hok', onB_true]
          simp only [push_cast, Nat.reduceAdd, Nat.reduceLeDiff, Nat.reduceLT, Int.reduceToNat, Nat.left_eq_add, Nat.add_eq_left, Nat.add_left_cancel_iff, Nat.reduceEqDiff, Nat.add_assoc, Nat.succ_ne_zero]
          rw [wrap_i64 (by omega)]
          refine hX (l.length - (k + 1)) _ _ (by omega) ⟨k + 1, by omega, rfl, rfl, ?_, ?_⟩
          · obtain ⟨g1, g2, g3, g4, g5, g6⟩ := hI
            refine ⟨?_, ?_, ?_, ?_, g5.step_wr (.inr (by omega)) _ _, g6⟩
            · rw [heap_wr, if_neg (by omega)]; exact g1
            · rw [heap_wr, if_neg (by omega)]; exact g2
            · rw [heap_wr, if_neg (by omega)]; exact g3
            · rw [heap_wr, if_neg (fun e => hob.2 e.symm)]; exact g4
          · have e2 : (((rolesL me l).take k ++ List.replicate (l.length - k) 0).map cellI).set k [i64 r] = ((rolesL me l).take (k + 1) ++ List.replicate (l.length - (k + 1)) 0).map cellI := by
              have es : ∀ L : List Int, (L.map cellI).set k [i64 r] = (L.set k r).map cellI := fun L => (List.map_set ..).symm
              rw [es]
              congr 1
              have hkt : ((rolesL me l).take k).length = k := by rw [List.length_take, hrl]; omega
              rw [List.set_append_right _ _ (by rw [hkt]; exact Nat.le_refl _), hkt, Nat.sub_self, show l.length - k = (l.length - (k + 1)) + 1 by omega, List.replicate_succ, List.set_cons_zero, List.take_add_one, hrk, hr]
              simp
            rw [e2, hlk, Nat.zero_add] at hput
            exact hput
        -- the way that was heard
        simp only [push_cast, Nat.reduceAdd, Nat.reduceLeDiff, Nat.reduceLT, Int.reduceToNat, Nat.left_eq_add, Nat.add_eq_left, Nat.add_left_cancel_iff, Nat.reduceEqDiff, Nat.add_assoc, Nat.succ_ne_zero, hI.l]
        rw [hia]
        simp only [fa61_4]
        refine r_ldV he hI ?_
        have hob' : ob < W.heap.size := hO.lt rfl
        refine r_al hI fun W3 vb hI3 hvb3 hF3 hsz => ?_
        have hO3 := hO.fr hF3 fun _ _ h => h
        have hne : ∀ y, blkS (.slice (some ⟨ob, 0, none⟩) l.length l.length) = some y → ¬ y = vb := fun y hy e => by
          simp only [blkS, Option.some.injEq] at hy; omega
        refine r_stv hI3 hvb3 (c' := l[k].v) fun W4 hI4 hvb4 hF4 => ?_
        have hO4 := hO3.fr hF4 hne
        simp only [fa44_4, Nat.zero_add]
        refine r_sto hI4 hvb4 fun W5 hI5 hvb5 hF5 => ?_
        have hO5 := hO4.fr hF5 hne
        refine r_ld66 hI5 ?_
        rw [hia]
        simp only [fa61_2]
        refine r_ldU he hI5 ?_
        clear hI hO hI3 hO3 hvb3 hI4 hO4 hvb4
        change VB w bb vb (bare l[k]) W5 at hvb5
        simp only [push_cast, Nat.reduceAdd, Nat.reduceLeDiff, Nat.reduceLT, Int.reduceToNat, Nat.left_eq_add, Nat.add_eq_left, Nat.add_left_cancel_iff, Nat.reduceEqDiff, Nat.add_assoc, Nat.succ_ne_zero]
        refine br_intro (fun e1 => ?_) fun e1 => ?_
        · have e1 : l[k].up = false := by simpa using e1
          exact fin (by unfold roleOf; rw [if_pos e1]) hI5 hO5
        have e1 : ¬ l[k].up = false := by simpa using e1
        refine br_dec (fun e2 => ?_) fun e2 => ?_
        · exact fin (by unfold roleOf; rw [if_neg e1, if_pos e2]) hI5 hO5
        refine jn0 (fun W => (¬ (cntB l[k] = false ∨ ¬ cmpV (bare l[k]) (offer me (bestL me l).1 l[k].port) < 0)) ∧ SLr w lv me bb (bestL me l).1 W ∧ VB w bb vb (bare l[k]) W ∧ OwnE 3 1 W (.slice (some ⟨ob, 0, none⟩) l.length l.length) (((rolesL me l).take k ++ List.replicate (l.length - k) 0).map cellI)) ?_ fun j2 hj2 => ?_
        · rintro W6 ⟨e3, hI6, hvb6, hO6⟩
          simp only [fa44_2, Nat.zero_add]
          have ebr : (bare l[k]).br = l[k].v.br := rfl
          simp only [push_cast, Nat.reduceAdd, Nat.reduceLeDiff, Nat.reduceLT, Int.reduceToNat, Nat.left_eq_add, Nat.add_eq_left, Nat.add_left_cancel_iff, Nat.reduceEqDiff, Nat.add_assoc, Nat.succ_ne_zero, hvb6.1, hI6.m]
          rw [ebr]
          refine s_eqId hhok.2.2.2.2.1 hm ?_
          simp only [push_cast, Nat.reduceAdd, Nat.reduceLeDiff, Nat.reduceLT, Int.reduceToNat, Nat.left_eq_add, Nat.add_eq_left, Nat.add_left_cancel_iff, Nat.reduceEqDiff, Nat.add_assoc, Nat.succ_ne_zero]
          refine br_dec (fun e4 => ?_) fun e4 => ?_
          · exact fin (by unfold roleOf; rw [if_neg e1, if_neg e2, if_neg e3, if_pos e4]) hI6 hO6
          · exact fin (by unfold roleOf; rw [if_neg e1, if_neg e2, if_neg e3, if_neg e4]) hI6 hO6
        · simp only [drw_eq]
          have hI6 := hI5.fr0 (Fr.drew W5)
          have hvb6 := hvb5.fr0 (Fr.drew W5)
          have hO6 := hO5.fr (Fr.drew (fp := none_) W5) fun _ _ h => h
          generalize W5.drew = W6 at *
          refine counts_spec hI6.l (hl.fr hI6.fr fun _ _ h => h) hkl ?_
          simp only [push_cast, Nat.reduceAdd, Nat.reduceLeDiff, Nat.reduceLT, Int.reduceToNat, Nat.left_eq_add, Nat.add_eq_left, Nat.add_left_cancel_iff, Nat.reduceEqDiff, Nat.add_assoc, Nat.succ_ne_zero]
          refine br_intro (fun e3 => ?_) fun e3 => ?_
          · have e3 : cntB l[k] = false := by simpa using e3
            have := fin (r := 2) (by unfold roleOf; rw [if_neg e1, if_neg e2, if_pos (.inl e3)]) hI6 hO6
            exact allW_intro this this
          have e3 : ¬ cntB l[k] = false := by simpa using e3
          simp only [push_cast, Nat.reduceAdd, Nat.reduceLeDiff, Nat.reduceLT, Int.reduceToNat, Nat.left_eq_add, Nat.add_eq_left, Nat.add_left_cancel_iff, Nat.reduceEqDiff, Nat.add_assoc, Nat.succ_ne_zero, hI6.m, hI6.b, hI6.l, hia, fa61_0, hvb6.1]
          rw [(El.fr0 he hI6.fr).cell0 (by show 0 < 21; decide), Hrd.g_port, onS_some]
          have hofok : (offer me (bestL me l).1 l[k].port).ok := ⟨hbok.1, hbok.2.1, hm, hhok.1, isI0⟩
          have hbaok : (bare l[k]).ok := ⟨hhok.2.2.1, hhok.2.2.2.1, hhok.2.2.2.2.1, hhok.2.2.2.2.2.1, isI0⟩
          refine allW_intro ?_ ?_
          · simp only [push_cast, Nat.reduceAdd, Nat.reduceLeDiff, Nat.reduceLT, Int.reduceToNat, Nat.left_eq_add, Nat.add_eq_left, Nat.add_left_cancel_iff, Nat.reduceEqDiff, Nat.add_assoc, Nat.succ_ne_zero, hvb6.1]
            refine offer_spec fun W7 hF7 => ?_
            have hI7 := hI6.fr0 hF7
            have hvb7 := hvb6.fr0 hF7
            have hO7 := hO6.fr hF7 fun _ _ h => h
            simp only [push_cast, Nat.reduceAdd, Nat.reduceLeDiff, Nat.reduceLT, Int.reduceToNat, Nat.left_eq_add, Nat.add_eq_left, Nat.add_left_cancel_iff, Nat.reduceEqDiff, Nat.add_assoc, Nat.succ_ne_zero]
            refine vcmp_spec hbaok hofok fun W8 hF8 => ?_
            have hI8 := hI7.fr0 hF8
            have hvb8 := hvb7.fr0 hF8
            have hO8 := hO7.fr hF8 fun _ _ h => h
            simp only [push_cast, Nat.reduceAdd, Nat.reduceLeDiff, Nat.reduceLT, Int.reduceToNat, Nat.left_eq_add, Nat.add_eq_left, Nat.add_left_cancel_iff, Nat.reduceEqDiff, Nat.add_assoc, Nat.succ_ne_zero]
            refine br_dec (fun e4 => ?_) fun e4 => ?_
            · exact fin (by unfold roleOf; rw [if_neg e1, if_neg e2, if_pos (.inr (by omega))]) hI8 hO8
            · exact hj2 _ ⟨fun h => h.elim e3 fun h => h (by omega), hI8, hvb8, hO8⟩
          · simp only [push_cast, Nat.reduceAdd, Nat.reduceLeDiff, Nat.reduceLT, Int.reduceToNat, Nat.left_eq_add, Nat.add_eq_left, Nat.add_left_cancel_iff, Nat.reduceEqDiff, Nat.add_assoc, Nat.succ_ne_zero, hvb6.1]
            refine offer_spec fun W7 hF7 => ?_
            have hI7 := hI6.fr0 hF7
            have hvb7 := hvb6.fr0 hF7
            have hO7 := hO6.fr hF7 fun _ _ h => h
            simp only [push_cast, Nat.reduceAdd, Nat.reduceLeDiff, Nat.reduceLT, Int.reduceToNat, Nat.left_eq_add, Nat.add_eq_left, Nat.add_left_cancel_iff, Nat.reduceEqDiff, Nat.add_assoc, Nat.succ_ne_zero, hvb7.1]
            refine vcmp_spec hbaok hofok fun W8 hF8 => ?_
            have hI8 := hI7.fr0 hF8
            have hvb8 := hvb7.fr0 hF8
            have hO8 := hO7.fr hF8 fun _ _ h => h
            simp only [push_cast, Nat.reduceAdd, Nat.reduceLeDiff, Nat.reduceLT, Int.reduceToNat, Nat.left_eq_add, Nat.add_eq_left, Nat.add_left_cancel_iff, Nat.reduceEqDiff, Nat.add_assoc, Nat.succ_ne_zero]
            refine br_dec (fun e4 => ?_) fun e4 => ?_
            · exact fin (by unfold roleOf; rw [if_neg e1, if_neg e2, if_pos (.inr (by omega))]) hI8 hO8
            · exact hj2 _ ⟨fun h => h.elim e3 fun h => h (by omega), hI8, hvb8, hO8⟩
      · obtain rfl : k = l.length := by omega
        rw [Nat.sub_self, List.replicate_zero, List.append_nil, List.take_of_length_le (by omega)] at hO
        exact hj W ⟨hI, hO⟩
  · refine loop2 (fun n x y W => ∃ k : Nat, k ≤ l.length ∧ n = l.length - k ∧ x = i64 (bestK me l k).2 ∧ y = i64 k ∧ SLr w lv me bb (bestK me l k).1 W) ?_ l.length ⟨0, by omega, rfl, rfl, rfl, hI0⟩
    rintro n x y W X ⟨k, hk, rfl, rfl, rfl, hI⟩ hX
    simp only [push_cast, Nat.reduceAdd, Nat.reduceLeDiff, Nat.reduceLT, Int.reduceToNat, Nat.left_eq_add, Nat.add_eq_left, Nat.add_left_cancel_iff, Nat.reduceEqDiff, Nat.add_assoc, Nat.succ_ne_zero]
    refine br_dec (fun hlt => ?_) fun hge => ?_
    · have hkl : k < l.length := by omega
      obtain ⟨b, p, hia, he⟩ := elem_at hl hkl
      have hhok := hok _ (List.getElem_mem hkl)
      have hvok : (l[k]).v.ok := hhok.2.2
      have hbok := bestK_ok hm hok k
      have hsucc := bestK_succ (me := me) hkl
      generalize hacc : bestK me l k = acc at *
      refine jn1 (fun v W => ∃ vb, v = pt vb 0 ∧ VB w bb vb (addV l[k].v l[k].cost) W ∧ SLr w lv me bb acc.1 W) ?_ fun j2 hj2 => ?_
      case refine_2 =>
        simp only [drw_eq]
        have hId := hI.fr0 (Fr.drew W)
        generalize W.drew = W' at *
        repeat' first
          | with_reducible refine allW_intro ?_ ?_
          | with_reducible refine r_ld66 (by assumption) ?_
          | with_reducible refine r_ldV he (by assumption) ?_
          | with_reducible refine r_ldC he (by assumption) ?_
          | with_reducible refine r_al (by assumption) fun _ _ _ _ _ _ => ?_
          | with_reducible refine r_add hvok (by assumption) fun _ _ _ => ?_
          | (with_reducible refine r_st (by assumption) (by first | assumption | exact (by assumption : ∀ vb c, VB w bb vb c _ → VB w bb vb c _) _ _ (by assumption)) fun _ hI' hv' => ?_; exact hj2 _ _ ⟨_, rfl, hv', hI'⟩)
          | simp only [hia, fa61_4, fa61_1]
      rintro v W' ⟨vb, rfl, hvb, hI⟩
      have hpi : isI l[k].port := hhok.1
      refine r_ld66 hI ?_
      rw [hia]
      simp only [fa61_0, Nat.add_zero]
      refine r_ldP he hI ?_
      obtain ⟨hI2, hvb2⟩ := hI.wr hvb (Vec.s_own (addV l[k].v l[k].cost) l[k].port)
      simp only [push_cast, Nat.reduceAdd, Nat.reduceLeDiff, Nat.reduceLT, Int.reduceToNat, Nat.left_eq_add, Nat.add_eq_left, Nat.add_left_cancel_iff, Nat.reduceEqDiff, Nat.add_assoc, Nat.succ_ne_zero, hvb.1]
      generalize wr W' vb 16 [i64 l[k].port] = W2 at *
      have hcv : ({ addV l[k].v l[k].cost with own := l[k].port } : Vec) = candV l[k] := rfl
      rw [hcv] at hvb2
      have hcok := candV_ok hhok
      refine counts_spec hI2.l (hl.fr hI2.fr fun _ _ h => h) hkl ?_
      have stay : bestStep me acc k l[k] = acc → X (i64 acc.2) (i64 (k + 1)) W2 := fun e => by
        refine hX (l.length - (k + 1)) _ _ _ (by omega) ⟨k + 1, by omega, rfl, by rw [hsucc, e], rfl, by rw [hsucc, e]; exact hI2⟩
      simp only [push_cast, Nat.reduceAdd, Nat.reduceLeDiff, Nat.reduceLT, Int.reduceToNat, Nat.left_eq_add, Nat.add_eq_left, Nat.add_left_cancel_iff, Nat.reduceEqDiff, Nat.add_assoc, Nat.succ_ne_zero]
      refine br_intro (fun e1 => ?_) fun e1 => ?_
      · have ebr : (candV l[k]).br = l[k].v.br := addV_br _ _
        simp only [push_cast, Nat.reduceAdd, Nat.reduceLeDiff, Nat.reduceLT, Int.reduceToNat, Nat.left_eq_add, Nat.add_eq_left, Nat.add_left_cancel_iff, Nat.reduceEqDiff, Nat.add_assoc, Nat.succ_ne_zero, hvb2.1, hI2.m]
        rw [ebr]
        refine s_neId hvok.2.2.1 hm ?_
        simp only [push_cast, Nat.reduceAdd, Nat.reduceLeDiff, Nat.reduceLT, Int.reduceToNat, Nat.left_eq_add, Nat.add_eq_left, Nat.add_left_cancel_iff, Nat.reduceEqDiff, Nat.add_assoc, Nat.succ_ne_zero]
        refine br_intro (fun e2 => ?_) fun e2 => ?_
        · have e2 : l[k].v.br ≠ me := by simpa using e2
          simp only [push_cast, Nat.reduceAdd, Nat.reduceLeDiff, Nat.reduceLT, Int.reduceToNat, Nat.left_eq_add, Nat.add_eq_left, Nat.add_left_cancel_iff, Nat.reduceEqDiff, Nat.add_assoc, Nat.succ_ne_zero, hvb2.1, hI2.b]
          refine vcmp_spec hcok hbok fun W3 hF3 => ?_
          have hI3 := hI2.fr0 hF3
          have hvb3 := hvb2.fr0 hF3
          simp only [push_cast, Nat.reduceAdd, Nat.reduceLeDiff, Nat.reduceLT, Int.reduceToNat, Nat.left_eq_add, Nat.add_eq_left, Nat.add_left_cancel_iff, Nat.reduceEqDiff, Nat.add_assoc, Nat.succ_ne_zero]
          refine br_dec (fun e3 => ?_) fun e3 => ?_
          · have hst : bestStep me acc k l[k] = (candV l[k], (k : Int)) := by unfold bestStep; rw [if_pos ⟨e1, e2, e3⟩]
            simp only [push_cast, Nat.reduceAdd, Nat.reduceLeDiff, Nat.reduceLT, Int.reduceToNat, Nat.left_eq_add, Nat.add_eq_left, Nat.add_left_cancel_iff, Nat.reduceEqDiff, Nat.add_assoc, Nat.succ_ne_zero, hvb3.1, hI3.b]
            rw [wrap_i64 (by omega)]
            refine hX (l.length - (k + 1)) _ _ _ (by omega) ⟨k + 1, by omega, rfl, by rw [hsucc, hst], rfl, ?_⟩
            rw [hsucc, hst]
            obtain ⟨g1, g2, g3, g4, g5, g6⟩ := hI3
            refine ⟨?_, ?_, ?_, ?_, g5.step_wr (.inr (by omega)) _ _, g6⟩
            · rw [heap_wr, if_neg (by omega)]; exact g1
            · rw [heap_wr, if_neg (by omega)]; exact g2
            · rw [heap_wr, if_neg (by omega)]; exact g3
            · rw [heap_wr, if_pos rfl, g4, putAt_cells, Vec.sw]
          · have hst : bestStep me acc k l[k] = acc := by unfold bestStep; rw [if_neg (fun h => e3 h.2.2)]
            rw [wrap_i64 (by omega)]
            exact hX (l.length - (k + 1)) _ _ _ (by omega) ⟨k + 1, by omega, rfl, by rw [hsucc, hst], rfl, by rw [hsucc, hst]; exact hI3⟩
        · have e2 : l[k].v.br = me := by simpa using e2
          rw [wrap_i64 (by omega)]
          exact stay (by unfold bestStep; rw [if_neg (fun h => h.2.1 e2)])
      · rw [wrap_i64 (by omega)]
        exact stay (by unfold bestStep; rw [if_neg (fun h => by rw [e1] at h; exact absurd h.1 (by decide))])
    · obtain rfl : k = l.length := by omega
      exact hj _ _ ⟨rfl, hI⟩

end Go.Gx.S
end

section
/- What each port is to the tree, by the reference. -/
set_option linter.unusedVariables false
set_option linter.unusedSimpArgs false
set_option maxRecDepth 100000
namespace Go.Gx.S
open Go Go.Gx Go.Proofs
variable {K : Value → World → Prop} {w : World}

/-- while the reference's Select is at work -/
structure SQr (w : World) (me : Idn) (bb : Nat) (acc : Vec) (W : World) : Prop where
  m : W.heap[w.heap.size]? = some (cellsO me.cells 25)
  o : W.heap[w.heap.size + 1]? = some (cellsO zVec.cells 44)
  b : W.heap[bb]? = some (cellsO acc.cells 44)
  fr : Fr none_ w W
  ge : w.heap.size + 2 ≤ bb

section
variable {me : Idn} {bb : Nat} {acc : Vec} {W : World}
theorem SQr.fr0 {W' : World} (h : SQr w me bb acc W) (hF : Fr none_ W W') : SQr w me bb acc W' := ⟨hF.heap h.m fun h => h, hF.heap h.o fun h => h, hF.heap h.b fun h => h, h.fr.trans hF, h.ge⟩
theorem SQr.new {W' : World} {fp : Nat → Prop} (h : SQr w me bb acc W) (hF : Fr fp W W') (hn : ∀ b, fp b → bb < b) : SQr w me bb acc W' := by
  have h1 := h.ge
  exact ⟨hF.heap h.m fun h => by have := hn _ h; omega, hF.heap h.o fun h => by have := hn _ h; omega, hF.heap h.b fun h => by have := hn _ h; omega, h.fr.trans_new hF fun b hb h => by have := hn _ h; omega, h.ge⟩
def VQ (bb vb : Nat) (c : Vec) (W : World) : Prop := W.heap[vb]? = some (cellsO c.cells 44) ∧ bb < vb
theorem VQ.fr0 {vb : Nat} {c : Vec} {W' : World} (h : VQ bb vb c W) (hF : Fr none_ W W') : VQ bb vb c W' := ⟨hF.heap h.1 fun h => h, h.2⟩
theorem SQr.wr {vb : Nat} {c c' : Vec} {o : Nat} {vs : List Value} (h : SQr w me bb acc W) (hv : VQ bb vb c W) (he : splice c.cells o vs = c'.cells) : SQr w me bb acc (wr W vb o vs) ∧ VQ bb vb c' (Gx.wr W vb o vs) := by
  refine ⟨h.new (Fr.wr (fp := fun b => b = vb) W vb o vs rfl) fun b e => e ▸ hv.2, ?_, hv.2⟩
  rw [heap_wr, if_pos rfl, hv.1, putAt_cells, he]
theorem SQr.wrb {acc' : Vec} (h : SQr w me bb acc W) : SQr w me bb acc' (Gx.wr W bb 0 acc'.cells) := by
  obtain ⟨g1, g2, g4, g5, g6⟩ := h
  refine ⟨?_, ?_, ?_, g5.step_wr (.inr (by omega)) _ _, g6⟩
  · rw [heap_wr, if_neg (by omega)]; exact g1
  · rw [heap_wr, if_neg (by omega)]; exact g2
  · rw [heap_wr, if_pos rfl, g4, putAt_cells, Vec.sw]

theorem q_al {R : Value → World → Prop} (hI : SQr w me bb acc W) (hk : ∀ W' vb, SQr w me bb acc W' → VQ bb vb zVec W' → Fr none_ W W' → W.heap.size ≤ vb → R (pt vb 0) W') : opS Tryz.prog (S.alloc 44) R W := by
  rw [zalloc_vec]
  have h2 := lt_of_heap hI.b
  exact hk _ _ (hI.fr0 (by repeat' first | with_reducible exact Fr.refl _ _ | with_reducible refine Fr.step_alloc ?_ ?_ | with_reducible refine Fr.step_drew ?_ | with_reducible refine Fr.step_wr ?_ ?_ _ _ | exact rfl | exact Or.inr (by omega) | exact Or.inl rfl | exact Or.inl (Or.inl rfl) | exact Or.inl (Or.inr rfl))) ⟨by simp only [push_cast, Nat.reduceAdd, Nat.reduceLeDiff, Nat.reduceLT, Int.reduceToNat, Nat.left_eq_add, Nat.add_eq_left, Nat.add_left_cancel_iff, Nat.reduceEqDiff, Nat.add_assoc, Nat.succ_ne_zero], by omega⟩ (by repeat' first | with_reducible exact Fr.refl _ _ | with_reducible refine Fr.step_alloc ?_ ?_ | with_reducible refine Fr.step_drew ?_ | with_reducible refine Fr.step_wr ?_ ?_ _ _ | exact rfl | exact Or.inr (by omega) | exact Or.inl rfl | exact Or.inl (Or.inl rfl) | exact Or.inl (Or.inr rfl)) (Nat.le_refl _)
theorem q_stv {vb : Nat} {c c' : Vec} {R : Value → World → Prop} (hI : SQr w me bb acc W) (hv : VQ bb vb c W) (hk : ∀ W', SQr w me bb acc W' → VQ bb vb c' W' → Fr (fun b => b = vb) W W' → R undef W') : opS Tryz.prog (S.st 44 (pt vb 0) (.agg c'.cells.toArray)) R W := by
  obtain ⟨h1, h2⟩ := hI.wr hv (Vec.sw c c')
  simp only [push_cast, Nat.reduceAdd, Nat.reduceLeDiff, Nat.reduceLT, Int.reduceToNat, Nat.left_eq_add, Nat.add_eq_left, Nat.add_left_cancel_iff, Nat.reduceEqDiff, Nat.add_assoc, Nat.succ_ne_zero, hv.1]
  exact hk _ h1 h2 (Fr.wr W _ _ _ rfl)
theorem q_sto {vb : Nat} {c : Vec} {z : Int} {R : Value → World → Prop} (hI : SQr w me bb acc W) (hv : VQ bb vb c W) (hk : ∀ W', SQr w me bb acc W' → VQ bb vb { c with own := z } W' → Fr (fun b => b = vb) W W' → R undef W') : opS Tryz.prog (S.st 3 (pt vb 16) (i64 z)) R W := by
  obtain ⟨h1, h2⟩ := hI.wr hv (Vec.s_own c z)
  simp only [push_cast, Nat.reduceAdd, Nat.reduceLeDiff, Nat.reduceLT, Int.reduceToNat, Nat.left_eq_add, Nat.add_eq_left, Nat.add_left_cancel_iff, Nat.reduceEqDiff, Nat.add_assoc, Nat.succ_ne_zero, hv.1]
  exact hk _ h1 h2 (Fr.wr W _ _ _ rfl)
theorem q_ldV {b p : Nat} {h : Hrd} {R : Value → World → Prop} (he : El w b p h.cells) (hI : SQr w me bb acc W) (hk : R (.agg h.v.cells.toArray) W) : opS Tryz.prog (S.ld 44 (pt b (p + 4))) R W := by
  rw [s_ldN (by decide), (El.fr0 he hI.fr).agg 4 17 (by show 4 + 17 ≤ 21; decide), Hrd.d_v, onS_some]; exact hk
theorem q_ldH {b p : Nat} {h : Hrd} {R : Value → World → Prop} (he : El w b p h.cells) (hI : SQr w me bb acc W) (hk : R (.agg h.cells.toArray) W) : opS Tryz.prog (S.ld 61 (pt b p)) R W := by
  rw [s_ldN (by decide), (El.fr0 he hI.fr).agg0 h.len, onS_some]; exact hk
theorem q_ldR {b p : Nat} {h : Hrd} {R : Value → World → Prop} (he : El w b p h.cells) (hI : SQr w me bb acc W) (hk : R (.agg h.v.br.cells.toArray) W) : opS Tryz.prog (S.ld 25 (pt b (p + 12))) R W := by
  rw [s_ldN (by decide), (El.fr0 he hI.fr).agg 12 7 (by show 12 + 7 ≤ 21; decide), Hrd.d_v_br, onS_some]; exact hk
theorem q_ldC {b p : Nat} {h : Hrd} {R : Value → World → Prop} (he : El w b p h.cells) (hF : Fr none_ w W) (hk : R (i64 h.cost) W) : opS Tryz.prog (S.ld 3 (pt b (p + 1))) R W := by
  rw [s_ld1, (El.fr0 he hF).cell 1 (by show 1 < 21; decide), Hrd.g_cost, onS_some]; exact hk
theorem q_ldP {b p : Nat} {h : Hrd} {R : Value → World → Prop} (he : El w b p h.cells) (hF : Fr none_ w W) (hk : R (i64 h.port) W) : opS Tryz.prog (S.ld 3 (pt b p)) R W := by
  rw [s_ld1, (El.fr0 he hF).cell0 (by show 0 < 21; decide), Hrd.g_port, onS_some]; exact hk
theorem q_ldU {b p : Nat} {h : Hrd} {R : Value → World → Prop} (he : El w b p h.cells) (hI : SQr w me bb acc W) (hk : R (.bool h.up) W) : opS Tryz.prog (S.ld 4 (pt b (p + 2))) R W := by
  rw [s_ld1, (El.fr0 he hI.fr).cell 2 (by show 2 < 21; decide), Hrd.g_up, onS_some]; exact hk
theorem q_ldvb {vb : Nat} {c : Vec} {R : Value → World → Prop} (hv : VQ bb vb c W) (hk : R (.agg c.cells.toArray) W) : opS Tryz.prog (S.ld 44 (pt vb 0)) R W := by
  simp only [push_cast, Nat.reduceAdd, Nat.reduceLeDiff, Nat.reduceLT, Int.reduceToNat, Nat.left_eq_add, Nat.add_eq_left, Nat.add_left_cancel_iff, Nat.reduceEqDiff, Nat.add_assoc, Nat.succ_ne_zero, hv.1]; exact hk
theorem q_ldvr {vb : Nat} {c : Vec} {R : Value → World → Prop} (hv : VQ bb vb c W) (hk : R (.agg c.br.cells.toArray) W) : opS Tryz.prog (S.ld 25 (pt vb 8)) R W := by
  simp only [push_cast, Nat.reduceAdd, Nat.reduceLeDiff, Nat.reduceLT, Int.reduceToNat, Nat.left_eq_add, Nat.add_eq_left, Nat.add_left_cancel_iff, Nat.reduceEqDiff, Nat.add_assoc, Nat.succ_ne_zero, hv.1]; exact hk
theorem q_ldb {R : Value → World → Prop} (hI : SQr w me bb acc W) (hk : R (.agg acc.cells.toArray) W) : opS Tryz.prog (S.ld 44 (pt bb 0)) R W := by
  simp only [push_cast, Nat.reduceAdd, Nat.reduceLeDiff, Nat.reduceLT, Int.reduceToNat, Nat.left_eq_add, Nat.add_eq_left, Nat.add_left_cancel_iff, Nat.reduceEqDiff, Nat.add_assoc, Nat.succ_ne_zero, hI.b]; exact hk
theorem q_ldm {R : Value → World → Prop} (hI : SQr w me bb acc W) (hk : R (.agg me.cells.toArray) W) : opS Tryz.prog (S.ld 25 (pt w.heap.size 0)) R W := by
  simp only [push_cast, Nat.reduceAdd, Nat.reduceLeDiff, Nat.reduceLT, Int.reduceToNat, Nat.left_eq_add, Nat.add_eq_left, Nat.add_left_cancel_iff, Nat.reduceEqDiff, Nat.add_assoc, Nat.succ_ne_zero, hI.m]; exact hk
end

theorem rselect_spec {lv : Value} {l : List Hrd} {me : Idn} (hl : RdE 21 w lv (l.map Hrd.cells)) (hn : numbered l) (hok : ∀ h ∈ l, h.ok) (hm : me.ok) (hfair : fairB l = true)
    (h1 : ∀ v w', OwnE 3 1 w' v ((rolesL me l).map cellI) → Fr none_ w w' → New w v → K (.tuple #[.agg (bestL me l).1.cells.toArray, v, i64 0]) w') : CallsR Tryz.prog 73 #[.agg me.cells.toArray, lv] K w := by
  apply c73
  unfold p73
  obtain ⟨a, c, hv⟩ := hl.form
  rw [List.length_map] at hv
  have elen : ∀ (R : Value → World → Prop) W, opS Tryz.prog (S.len lv) R W = R (i64 l.length) W := fun R W => by rw [hv]; rfl
  have hf := hfair
  unfold fairB at hf
  rw [Bool.and_eq_true, decide_eq_true_iff, List.all_eq_true] at hf
  obtain ⟨h64, hcost⟩ := hf
  have hcost : ∀ h ∈ l, 1 ≤ h.cost ∧ h.cost ≤ 200000000 := fun h hh => by
    have := hcost h hh
    unfold costH at this
    rw [Bool.and_eq_true, decide_eq_true_iff, decide_eq_true_iff] at this
    exact this
  simp only [opS_box, cells_agg, alloc_cellsO]
  rw [zalloc_vec]
  refine at_w (fun W => W.heap[w.heap.size]? = some (cellsO me.cells 25) ∧ W.heap[w.heap.size + 1]? = some (cellsO zVec.cells 44) ∧ Fr none_ w W) ⟨by simp only [push_cast, Nat.reduceAdd, Nat.reduceLeDiff, Nat.reduceLT, Int.reduceToNat, Nat.left_eq_add, Nat.add_eq_left, Nat.add_left_cancel_iff, Nat.reduceEqDiff, Nat.add_assoc, Nat.succ_ne_zero], by simp only [push_cast, Nat.reduceAdd, Nat.reduceLeDiff, Nat.reduceLT, Int.reduceToNat, Nat.left_eq_add, Nat.add_eq_left, Nat.add_left_cancel_iff, Nat.reduceEqDiff, Nat.add_assoc, Nat.succ_ne_zero], (by repeat' first | with_reducible exact Fr.refl _ _ | with_reducible refine Fr.step_alloc ?_ ?_ | with_reducible refine Fr.step_drew ?_ | with_reducible refine Fr.step_wr ?_ ?_ _ _ | exact rfl | exact Or.inr (by omega) | exact Or.inl rfl | exact Or.inl (Or.inl rfl) | exact Or.inl (Or.inr rfl))⟩ ?_
  rintro W0 ⟨m0, o0, f0⟩
  simp only [size_alloc]
  rw [elen]
  simp only [push_cast, Nat.reduceAdd, Nat.reduceLeDiff, Nat.reduceLT, Int.reduceToNat, Nat.left_eq_add, Nat.add_eq_left, Nat.add_left_cancel_iff, Nat.reduceEqDiff, Nat.add_assoc, Nat.succ_ne_zero]
  refine br_dec (fun h => absurd h (by omega)) fun _ => ?_
  refine jn0 (fun W => W = W0) ?_ fun j hj => ?_
  · rintro W rfl
    refine jn0 (fun W' => Fr none_ W W') ?_ fun j hj => ?_
    · intro W1 hF1
      replace m0 := hF1.heap m0 fun h => h
      replace o0 := hF1.heap o0 fun h => h
      replace f0 := f0.trans hF1
      clear hF1
      simp only [push_cast, Nat.reduceAdd, Nat.reduceLeDiff, Nat.reduceLT, Int.reduceToNat, Nat.left_eq_add, Nat.add_eq_left, Nat.add_left_cancel_iff, Nat.reduceEqDiff, Nat.add_assoc, Nat.succ_ne_zero, m0]
      rw [build_vec2]
      have osz := lt_of_heap o0
      refine vec_slot fun _ W2 hb2 hF2 => ?_
      have hI0 : SQr w me W1.heap.size ⟨me, 0, me, 0, 0⟩ W2 := ⟨hF2.heap m0 fun h => h, hF2.heap o0 fun h => h, hb2, f0.trans hF2, by omega⟩
      generalize W1.heap.size = bb at *
      refine jn1 (fun v W => v = i64 (bestL me l).2 ∧ SQr w me bb (bestL me l).1 W) ?_ fun j hj => ?_
      · rintro v W ⟨rfl, hI⟩
        refine jn1 (fun v W => SQr w me bb (bestL me l).1 W ∧ OwnE 3 1 W v ((rolesL me l).map cellI) ∧ ∀ b, blkS v = some b → bb < b) ?_ fun j hj => ?_
        · rintro v W ⟨hI, hO, hbv⟩
          have hge := hI.ge
          simp only [push_cast, Nat.reduceAdd, Nat.reduceLeDiff, Nat.reduceLT, Int.reduceToNat, Nat.left_eq_add, Nat.add_eq_left, Nat.add_left_cancel_iff, Nat.reduceEqDiff, Nat.add_assoc, Nat.succ_ne_zero, hI.b, hI.o]
          have hF3 : Fr (fun b => b = w.heap.size + 1) W (wr W (w.heap.size + 1) 0 (bestL me l).1.cells) := Fr.wr W _ _ _ rfl
          refine h1 v _ (hO.fr hF3 fun b hb e => by have := hbv b hb; omega) (hI.fr.step_wr (.inr (by omega)) _ _) fun b hb => by have := hbv b hb; omega
        have hrl : (rolesL me l).length = l.length := by unfold rolesL; simp
        have hbok : (bestL me l).1.ok := bestK_ok hm hok _
        refine loop2 (fun n x y W => ∃ k : Nat, k ≤ l.length ∧ n = l.length - k ∧ y = i64 k ∧ SQr w me bb (bestL me l).1 W ∧ OwnE 3 1 W x (((rolesL me l).take k).map cellI) ∧ ∀ b, blkS x = some b → bb < b) ?_ l.length ⟨0, by omega, rfl, rfl, hI, own_nil _ _ _, fun b hb => absurd hb (by simp [blkS])⟩
        rintro n x y W X ⟨k, hk, rfl, rfl, hI, hO, hbx⟩ hX
        rw [elen]
        simp only [push_cast, Nat.reduceAdd, Nat.reduceLeDiff, Nat.reduceLT, Int.reduceToNat, Nat.left_eq_add, Nat.add_eq_left, Nat.add_left_cancel_iff, Nat.reduceEqDiff, Nat.add_assoc, Nat.succ_ne_zero]
        refine br_dec (fun hlt => ?_) fun hge => ?_
        · have hkl : k < l.length := by omega
          obtain ⟨b, p, hia, he⟩ := elem_at hl hkl
          have hhok := hok _ (List.getElem_mem hkl)
          have hrk : (rolesL me l)[k]? = some (roleOf me (bestL me l).1 (bestL me l).2 k l[k]) := by
            unfold rolesL
            rw [List.getElem?_mapIdx, List.getElem?_eq_getElem hkl]; rfl
          have hbb := lt_of_heap hI.b
          have fin : ∀ {r : Int} {W : World}, roleOf me (bestL me l).1 (bestL me l).2 k l[k] = r → SQr w me bb (bestL me l).1 W → OwnE 3 1 W x (((rolesL me l).take k).map cellI) →
              opS Tryz.prog (S.buildS 26 1 [(0, i64 r)]) (fun y => opS Tryz.prog (S.bi .append #[26, 26] 26 [x, y]) fun z => opS Tryz.prog (S.binI .add (i64 k) (.int .i64 1)) fun u => X z u) W := by
            intro r W hr hI hO
            have hbb := lt_of_heap hI.b
            refine s_app1 (by rfl) (by rfl) (by decide) hO (by rw [List.length_map, List.length_take]; omega) fun x' W' hO' hb' hF' => ?_
            simp only [push_cast, Nat.reduceAdd, Nat.reduceLeDiff, Nat.reduceLT, Int.reduceToNat, Nat.left_eq_add, Nat.add_eq_left, Nat.add_left_cancel_iff, Nat.reduceEqDiff, Nat.add_assoc, Nat.succ_ne_zero]
            rw [wrap_i64 (by omega)]
            refine hX (l.length - (k + 1)) _ _ _ (by omega) ⟨k + 1, by omega, rfl, rfl, hI.new hF' fun b hb => hbx b hb, ?_, fun b hb => ?_⟩
            · rw [List.take_add_one, hrk, hr, List.map_append]
              exact hO'
            · rcases hb' with hb' | hb'
              · rw [hb'] at hb; exact hbx b hb
              · have := hb' b hb; omega
          -- the way that was heard
          rw [hia]
          simp only [fa61_4]
          refine q_ldV he hI ?_
          refine q_al hI fun W3 vb hI3 hvb3 hF3 hsz => ?_
          have hO3 := hO.fr hF3 fun _ _ h => h
          have hne : ∀ y, blkS x = some y → ¬ y = vb := fun y hy e => by
            have := hO.lt hy; omega
          refine q_stv hI3 hvb3 (c' := l[k].v) fun W4 hI4 hvb4 hF4 => ?_
          have hO4 := hO3.fr hF4 hne
          simp only [fa44_4, Nat.zero_add]
          refine q_sto hI4 hvb4 fun W5 hI5 hvb5 hF5 => ?_
          have hO5 := hO4.fr hF5 hne
          clear hI hO hI3 hO3 hvb3 hI4 hO4 hvb4
          change VQ bb vb (bare l[k]) W5 at hvb5
          refine jn1 (fun v W => v = .bool (cntB l[k] && decide (cmpV (bare l[k]) (offer me (bestL me l).1 l[k].port) < 0)) ∧ SQr w me bb (bestL me l).1 W ∧ VQ bb vb (bare l[k]) W ∧ OwnE 3 1 W x (((rolesL me l).take k).map cellI)) ?_ fun j2 hj2 => ?_
          · rintro v W6 ⟨rfl, hI6, hvb6, hO6⟩
            rw [hia]
            simp only [fa61_2]
            refine q_ldU he hI6 ?_
            simp only [push_cast, Nat.reduceAdd, Nat.reduceLeDiff, Nat.reduceLT, Int.reduceToNat, Nat.left_eq_add, Nat.add_eq_left, Nat.add_left_cancel_iff, Nat.reduceEqDiff, Nat.add_assoc, Nat.succ_ne_zero]
            refine br_intro (fun e1 => ?_) fun e1 => ?_
            · have e1 : l[k].up = false := by simpa using e1
              exact fin (by unfold roleOf; rw [if_pos e1]) hI6 hO6
            have e1 : ¬ l[k].up = false := by simpa using e1
            refine br_dec (fun e2 => ?_) fun e2 => ?_
            · exact fin (by unfold roleOf; rw [if_neg e1, if_pos e2]) hI6 hO6
            have hro : roleOf me (bestL me l).1 (bestL me l).2 k l[k] = if (cntB l[k] && decide (cmpV (bare l[k]) (offer me (bestL me l).1 l[k].port) < 0)) = true then (if l[k].v.br = me then 4 else 3) else 2 := by
              unfold roleOf
              rw [if_neg e1, if_neg e2]
              cases cntB l[k] <;> by_cases h : cmpV (bare l[k]) (offer me (bestL me l).1 l[k].port) < 0 <;> simp [h]
            refine jn0 (fun W' => W' = W6 ∧ roleOf me (bestL me l).1 (bestL me l).2 k l[k] = (if (cntB l[k] && decide (cmpV (bare l[k]) (offer me (bestL me l).1 l[k].port) < 0)) = true then 3 else 2)) ?_ fun j2 hj2 => ?_
            · rintro W' ⟨rfl, e5⟩
              rw [brn_br]
              refine br_intro (fun e4 => ?_) fun e4 => ?_
              · exact fin (by rw [e5, if_pos e4]) hI6 hO6
              · exact fin (by rw [e5, if_neg (by rw [e4]; decide)]) hI6 hO6
            · rw [brn_br]
              refine br_intro (fun e4 => ?_) fun e4 => ?_
              · simp only [fa44_2, Nat.zero_add]
                refine q_ldvr hvb6 ?_
                refine q_ldm hI6 ?_
                have ebr : (bare l[k]).br = l[k].v.br := rfl
                rw [ebr]
                refine s_eqId hhok.2.2.2.2.1 hm ?_
                simp only [push_cast, Nat.reduceAdd, Nat.reduceLeDiff, Nat.reduceLT, Int.reduceToNat, Nat.left_eq_add, Nat.add_eq_left, Nat.add_left_cancel_iff, Nat.reduceEqDiff, Nat.add_assoc, Nat.succ_ne_zero]
                refine br_dec (fun e5 => ?_) fun e5 => ?_
                · exact fin (by rw [hro, if_pos e4, if_pos e5]) hI6 hO6
                · exact hj2 _ ⟨rfl, by rw [hro, if_pos e4, if_neg e5, if_pos e4]⟩
              · exact hj2 _ ⟨rfl, by rw [hro, if_neg (by rw [e4]; decide), if_neg (by rw [e4]; decide)]⟩
          · simp only [drw_eq]
            have hI6 := hI5.fr0 (Fr.drew W5)
            have hvb6 := hvb5.fr0 (Fr.drew W5)
            have hO6 := hO5.fr (Fr.drew (fp := none_) W5) fun _ _ h => h
            generalize W5.drew = W6 at *
            rw [hia]
            refine q_ldH he hI6 ?_
            rw [opS_cl]
            refine rcounts_spec fun W7 hF7 => ?_
            replace hI6 := hI6.fr0 hF7
            replace hvb6 := hvb6.fr0 hF7
            replace hO6 := hO6.fr hF7 fun _ _ h => h
            simp only [push_cast, Nat.reduceAdd, Nat.reduceLeDiff, Nat.reduceLT, Int.reduceToNat, Nat.left_eq_add, Nat.add_eq_left, Nat.add_left_cancel_iff, Nat.reduceEqDiff, Nat.add_assoc, Nat.succ_ne_zero]
            refine br_intro (fun e3 => ?_) fun e3 => ?_
            · simp only [push_cast, Nat.reduceAdd, Nat.reduceLeDiff, Nat.reduceLT, Int.reduceToNat, Nat.left_eq_add, Nat.add_eq_left, Nat.add_left_cancel_iff, Nat.reduceEqDiff, Nat.add_assoc, Nat.succ_ne_zero, hI6.m, hI6.b]
              rw [hia]
              simp only [fa61_0, Nat.add_zero]
              refine q_ldP he hI6.fr ?_
              have hofok : (offer me (bestL me l).1 l[k].port).ok := offer_ok hm hbok hhok.1
              refine allW_intro ?_ ?_
              · refine q_ldvb hvb6 ?_
                rw [opS_cl]
                refine roffer_spec fun W8 hF8 => ?_
                rw [opS_cl]
                refine rvcmp_spec (bare_ok hhok) hofok fun W9 hF9 => ?_
                simp only [push_cast, Nat.reduceAdd, Nat.reduceLeDiff, Nat.reduceLT, Int.reduceToNat, Nat.left_eq_add, Nat.add_eq_left, Nat.add_left_cancel_iff, Nat.reduceEqDiff, Nat.add_assoc, Nat.succ_ne_zero]
                exact hj2 _ _ ⟨by rw [e3, Bool.true_and], (hI6.fr0 hF8).fr0 hF9, (hvb6.fr0 hF8).fr0 hF9, (hO6.fr hF8 fun _ _ h => h).fr hF9 fun _ _ h => h⟩
              · rw [opS_cl]
                refine roffer_spec fun W8 hF8 => ?_
                refine q_ldvb (hvb6.fr0 hF8) ?_
                rw [opS_cl]
                refine rvcmp_spec (bare_ok hhok) hofok fun W9 hF9 => ?_
                simp only [push_cast, Nat.reduceAdd, Nat.reduceLeDiff, Nat.reduceLT, Int.reduceToNat, Nat.left_eq_add, Nat.add_eq_left, Nat.add_left_cancel_iff, Nat.reduceEqDiff, Nat.add_assoc, Nat.succ_ne_zero]
                exact hj2 _ _ ⟨by rw [e3, Bool.true_and], (hI6.fr0 hF8).fr0 hF9, (hvb6.fr0 hF8).fr0 hF9, (hO6.fr hF8 fun _ _ h => h).fr hF9 fun _ _ h => h⟩
            · have := hj2 _ _ ⟨by rw [e3, Bool.false_and], hI6, hvb6, hO6⟩
              exact allW_intro this this
        · obtain rfl : k = l.length := by omega
          rw [List.take_of_length_le (by omega)] at hO
          exact hj _ _ ⟨hI, hO, hbx⟩
      · refine loop2 (fun n x y W => ∃ k : Nat, k ≤ l.length ∧ n = l.length - k ∧ x = i64 (bestK me l k).2 ∧ y = i64 k ∧ SQr w me bb (bestK me l k).1 W) ?_ l.length ⟨0, by omega, rfl, rfl, rfl, hI0⟩
        rintro n x y W X ⟨k, hk, rfl, rfl, rfl, hI⟩ hX
        rw [elen]
        simp only [push_cast, Nat.reduceAdd, Nat.reduceLeDiff, Nat.reduceLT, Int.reduceToNat, Nat.left_eq_add, Nat.add_eq_left, Nat.add_left_cancel_iff, Nat.reduceEqDiff, Nat.add_assoc, Nat.succ_ne_zero]
        refine br_dec (fun hlt => ?_) fun hge => ?_
        · have hkl : k < l.length := by omega
          obtain ⟨b, p, hia, he⟩ := elem_at hl hkl
          have hhok := hok _ (List.getElem_mem hkl)
          have hvok : (l[k]).v.ok := hhok.2.2
          have hbok := bestK_ok hm hok k
          have hsucc := bestK_succ (me := me) hkl
          generalize hacc : bestK me l k = acc at *
          replace hI := hI.fr0 (Fr.drew W)
          generalize W.drew = W2 at *
          have stay : ∀ W, bestStep me acc k l[k] = acc → SQr w me bb acc.1 W → X (i64 acc.2) (i64 (k + 1)) W := fun W e hI => by
            refine hX (l.length - (k + 1)) _ _ _ (by omega) ⟨k + 1, by omega, rfl, by rw [hsucc, e], rfl, by rw [hsucc, e]; exact hI⟩
          rw [hia]
          refine q_ldH he hI ?_
          rw [opS_cl]
          refine rcounts_spec fun W3 hF3 => ?_
          replace hI := hI.fr0 hF3
          simp only [push_cast, Nat.reduceAdd, Nat.reduceLeDiff, Nat.reduceLT, Int.reduceToNat, Nat.left_eq_add, Nat.add_eq_left, Nat.add_left_cancel_iff, Nat.reduceEqDiff, Nat.add_assoc, Nat.succ_ne_zero]
          refine br_intro (fun e1 => ?_) fun e1 => ?_
          · rw [wrap_i64 (by omega)]
            exact stay _ (by unfold bestStep; rw [if_neg (fun h => by rw [h.1] at e1; exact absurd e1 (by decide))]) hI
          have e1 : cntB l[k] = true := by simpa using e1
          rw [hia]
          simp only [fa61_4, fa44_2, Nat.add_assoc, Nat.reduceAdd]
          refine q_ldR he hI ?_
          refine q_ldm hI ?_
          refine s_eqId hvok.2.2.1 hm ?_
          simp only [push_cast, Nat.reduceAdd, Nat.reduceLeDiff, Nat.reduceLT, Int.reduceToNat, Nat.left_eq_add, Nat.add_eq_left, Nat.add_left_cancel_iff, Nat.reduceEqDiff, Nat.add_assoc, Nat.succ_ne_zero]
          refine br_dec (fun e2 => ?_) fun e2 => ?_
          · rw [wrap_i64 (by omega)]
            exact stay _ (by unfold bestStep; rw [if_neg (fun h => h.2.1 e2)]) hI
          rw [hia]
          simp only [fa61_4]
          refine q_ldV he hI ?_
          refine q_al hI fun W4 vb hI4 hv4 hF4 hsz => ?_
          refine q_stv hI4 hv4 (c' := l[k].v) fun W5 hI5 hv5 hF5 => ?_
          rw [hia]
          simp only [fa61_0, fa44_4, Nat.add_zero, Nat.zero_add]
          refine q_ldP he hI5.fr ?_
          refine q_sto hI5 hv5 fun W6 hI6 hv6 hF6 => ?_
          simp only [drw_eq]
          replace hI6 := hI6.fr0 (Fr.drew W6)
          replace hv6 := hv6.fr0 (Fr.drew W6)
          generalize W6.drew = W7 at *
          refine q_ldvb hv6 ?_
          rw [hia]
          simp only [fa61_1]
          refine q_ldC he hI6.fr ?_
          rw [opS_cl]
          have hvo : ({ l[k].v with own := l[k].port } : Vec).ok := ⟨hvok.1, hvok.2.1, hvok.2.2.1, hvok.2.2.2.1, hhok.1⟩
          refine radd_spec hvo fun W8 hF8 => ?_
          rw [addV_with]
          replace hI6 := hI6.fr0 hF8
          replace hv6 := hv6.fr0 hF8
          refine q_stv hI6 hv6 (c' := candV l[k]) fun W9 hI9 hv9 hF9 => ?_
          refine q_ldvb hv9 ?_
          refine q_ldb hI9 ?_
          rw [opS_cl]
          refine rvcmp_spec (candV_ok hhok) hbok fun W10 hF10 => ?_
          replace hI9 := hI9.fr0 hF10
          replace hv9 := hv9.fr0 hF10
          simp only [push_cast, Nat.reduceAdd, Nat.reduceLeDiff, Nat.reduceLT, Int.reduceToNat, Nat.left_eq_add, Nat.add_eq_left, Nat.add_left_cancel_iff, Nat.reduceEqDiff, Nat.add_assoc, Nat.succ_ne_zero]
          refine br_dec (fun e3 => ?_) fun e3 => ?_
          · have hst : bestStep me acc k l[k] = (candV l[k], (k : Int)) := by unfold bestStep; rw [if_pos ⟨e1, e2, e3⟩]
            simp only [push_cast, Nat.reduceAdd, Nat.reduceLeDiff, Nat.reduceLT, Int.reduceToNat, Nat.left_eq_add, Nat.add_eq_left, Nat.add_left_cancel_iff, Nat.reduceEqDiff, Nat.add_assoc, Nat.succ_ne_zero, hv9.1, hI9.b]
            rw [wrap_i64 (by omega)]
            refine hX (l.length - (k + 1)) _ _ _ (by omega) ⟨k + 1, by omega, rfl, by rw [hsucc, hst], rfl, ?_⟩
            rw [hsucc, hst]
            exact hI9.wrb
          · rw [wrap_i64 (by omega)]
            exact stay _ (by unfold bestStep; rw [if_neg (fun h => e3 h.2.2)]) hI9
        · obtain rfl : k = l.length := by omega
          exact hj _ _ ⟨rfl, hI⟩
    · refine loop1 (fun n u W' => ∃ k : Nat, k ≤ l.length ∧ n = l.length - k ∧ u = i64 k ∧ Fr none_ W W') ?_ l.length ⟨0, by omega, rfl, rfl, Fr.refl _ _⟩
      rintro n u W' X ⟨k, hk, rfl, rfl, hF⟩ hX
      rw [elen]
      simp only [push_cast, Nat.reduceAdd, Nat.reduceLeDiff, Nat.reduceLT, Int.reduceToNat, Nat.left_eq_add, Nat.add_eq_left, Nat.add_left_cancel_iff, Nat.reduceEqDiff, Nat.add_assoc, Nat.succ_ne_zero]
      refine br_dec (fun hlt => ?_) fun hge => ?_
      · have hkl : k < l.length := by omega
        have hstep : ∀ W2, Fr none_ W' W2 → opS Tryz.prog (S.binI .add (i64 k) (.int .i64 1)) (fun y => X y) W2 := fun W2 h2 => by
          simp only [push_cast, Nat.reduceAdd, Nat.reduceLeDiff, Nat.reduceLT, Int.reduceToNat, Nat.left_eq_add, Nat.add_eq_left, Nat.add_left_cancel_iff, Nat.reduceEqDiff, Nat.add_assoc, Nat.succ_ne_zero]
          rw [wrap_i64 (by omega)]
          exact hX (l.length - (k + 1)) _ _ (by omega) ⟨k + 1, by omega, rfl, rfl, hF.trans h2⟩
        refine jn0 (fun W2 => Fr none_ W' W2) (fun W2 h2 => hstep W2 h2) fun j2 hj2 => ?_
        refine jn0 (fun W2 => Fr none_ W' W2) (fun W2 h2 => hj2 W2 h2) fun j3 hj3 => ?_
        refine loop1 (fun n u W2 => ∃ i : Nat, i ≤ k ∧ n = k - i ∧ u = i64 i ∧ Fr none_ W' W2) ?_ k ⟨0, by omega, rfl, rfl, Fr.refl _ _⟩
        rintro n u W2 Y ⟨i, hi, rfl, rfl, hF2⟩ hY
        simp only [push_cast, Nat.reduceAdd, Nat.reduceLeDiff, Nat.reduceLT, Int.reduceToNat, Nat.left_eq_add, Nat.add_eq_left, Nat.add_left_cancel_iff, Nat.reduceEqDiff, Nat.add_assoc, Nat.succ_ne_zero]
        refine br_dec (fun hlt2 => ?_) fun hge2 => ?_
        · obtain ⟨b, p, hia, he⟩ := elem_at hl (show i < l.length by omega)
          obtain ⟨b', p', hia', he'⟩ := elem_at hl hkl
          have hF3 := (f0.trans hF).trans (hF2.trans (Fr.drew W2))
          have hF4 := hF2.trans (Fr.drew W2)
          generalize W2.drew = W3 at *
          rw [hia]
          try simp only [fa61_0, Nat.add_zero]
          refine q_ldP he hF3 ?_
          rw [hia']
          try simp only [fa61_0, Nat.add_zero]
          refine q_ldP he' hF3 ?_
          rw [hn i _ (List.getElem?_eq_getElem (show i < l.length by omega)), hn k _ (List.getElem?_eq_getElem hkl)]
          simp only [push_cast, Nat.reduceAdd, Nat.reduceLeDiff, Nat.reduceLT, Int.reduceToNat, Nat.left_eq_add, Nat.add_eq_left, Nat.add_left_cancel_iff, Nat.reduceEqDiff, Nat.add_assoc, Nat.succ_ne_zero]
          refine br_dec (fun h => absurd h (by omega)) fun _ => ?_
          rw [wrap_i64 (by omega)]
          exact hY (k - (i + 1)) _ _ (by omega) ⟨i + 1, by omega, rfl, rfl, hF4⟩
        · exact hj3 _ hF2
      · exact hj _ hF
  · refine loop1 (fun n u W' => ∃ k : Nat, k ≤ l.length ∧ n = l.length - k ∧ u = i64 k ∧ W' = W0) ?_ l.length ⟨0, by omega, rfl, rfl, rfl⟩
    rintro n u W' X ⟨k, hk, rfl, rfl, rfl⟩ hX
    rw [elen]
    simp only [push_cast, Nat.reduceAdd, Nat.reduceLeDiff, Nat.reduceLT, Int.reduceToNat, Nat.left_eq_add, Nat.add_eq_left, Nat.add_left_cancel_iff, Nat.reduceEqDiff, Nat.add_assoc, Nat.succ_ne_zero]
    refine br_dec (fun hlt => ?_) fun hge => ?_
    · have hkl : k < l.length := by omega
      obtain ⟨b, p, hia, he⟩ := elem_at hl hkl
      have hc := hcost _ (List.getElem_mem hkl)
      have hp := hn k _ (List.getElem?_eq_getElem hkl)
      rw [hia]
      try simp only [fa61_0, Nat.add_zero]
      refine q_ldP he f0 ?_
      rw [hp]
      simp only [push_cast, Nat.reduceAdd, Nat.reduceLeDiff, Nat.reduceLT, Int.reduceToNat, Nat.left_eq_add, Nat.add_eq_left, Nat.add_left_cancel_iff, Nat.reduceEqDiff, Nat.add_assoc, Nat.succ_ne_zero]
      refine br_dec (fun h => absurd h (by omega)) fun _ => ?_
      rw [hia]
      try simp only [fa61_0, Nat.add_zero]
      refine q_ldP he f0 ?_
      rw [hp]
      simp only [push_cast, Nat.reduceAdd, Nat.reduceLeDiff, Nat.reduceLT, Int.reduceToNat, Nat.left_eq_add, Nat.add_eq_left, Nat.add_left_cancel_iff, Nat.reduceEqDiff, Nat.add_assoc, Nat.succ_ne_zero]
      refine br_dec (fun h => absurd h (by omega)) fun _ => ?_
      rw [hia]
      try simp only [fa61_1]
      refine q_ldC he f0 ?_
      simp only [push_cast, Nat.reduceAdd, Nat.reduceLeDiff, Nat.reduceLT, Int.reduceToNat, Nat.left_eq_add, Nat.add_eq_left, Nat.add_left_cancel_iff, Nat.reduceEqDiff, Nat.add_assoc, Nat.succ_ne_zero]
      refine br_dec (fun h => absurd h (by omega)) fun _ => ?_
      rw [hia]
      try simp only [fa61_1]
      refine q_ldC he f0 ?_
      simp only [push_cast, Nat.reduceAdd, Nat.reduceLeDiff, Nat.reduceLT, Int.reduceToNat, Nat.left_eq_add, Nat.add_eq_left, Nat.add_left_cancel_iff, Nat.reduceEqDiff, Nat.add_assoc, Nat.succ_ne_zero]
      refine br_dec (fun h => absurd h (by omega)) fun _ => ?_
      rw [wrap_i64 (by omega)]
      exact hX (l.length - (k + 1)) _ _ (by omega) ⟨k + 1, by omega, rfl, rfl, rfl⟩
    · exact hj _ rfl

end Go.Gx.S
end

section
/- Pointers that are compared. -/
namespace Go.Gx
open Go
variable {P : Program} {K : Value → World → Prop} {w : World}

/-- a type of pointers to what has cells -/
class PtT (P : Program) (T : TypeId) : Prop where
  und : ∃ E j, P.underlying T = some (.pointer E) ∧ P.info? E = some j ∧ j.size ≠ 0

theorem run_equal_ptr {T : TypeId} [hT : PtT P T] {a b : Nat} {x y : List Value} {TX TY : TypeId} (ha : w.heap[a]? = some (cellsO x TX)) (hb : w.heap[b]? = some (cellsO y TY)) :
    (Op.equal T (pt a 0) (pt b 0)).run P w = .ok (decide (a = b)) w := by
  obtain ⟨E, j, hp, hte, hsz⟩ := hT.und
  by_cases e : a = b
  · subst e
    have h : ∀ d : Nat, (Op.equalIn (d + 1) T (.pointer (some ⟨a, 0, none⟩)) (.pointer (some ⟨a, 0, none⟩))).run P w = .ok true w := fun d => by
      simp [Op.equalIn, run_underlying hp, sizeOf, typeInfo, hte, run_sameAddr_same]
    rw [decide_eq_true rfl]
    simp [Op.equal, Op.maxDepth, pt, h 9999]
  · have hne : (⟨a, 0, none⟩ : Addr) ≠ ⟨b, 0, none⟩ := fun h => e (by cases h; rfl)
    have h : ∀ d : Nat, (Op.equalIn (d + 1) T (.pointer (some ⟨a, 0, none⟩)) (.pointer (some ⟨b, 0, none⟩))).run P w = .ok false w := fun d => by
      simp [Op.equalIn, run_underlying hp, sizeOf, typeInfo, hte, hsz, run_sameAddr_other w hne ha hb]
    rw [decide_eq_false e]
    simp [Op.equal, Op.maxDepth, pt, h 9999]

theorem s_eqP {T : TypeId} [hT : PtT P T] {a b : Nat} {x y : List Value} {TX TY : TypeId} (ha : w.heap[a]? = some (cellsO x TX)) (hb : w.heap[b]? = some (cellsO y TY))
    (h : K (.bool (decide (a = b))) w) : opS P (S.binG .eql T (pt a 0) (pt b 0)) K w := by
  have hr := run_equal_ptr (P := P) (T := T) ha hb
  unfold opS S.binG pt
  simp only []
  have hg : ∀ op, (eqGuard op T (.tmp 0) (.tmp 0) (.pointer (some ⟨a, 0, none⟩)) (.pointer (some ⟨b, 0, none⟩))).run P w = .ok () w := fun op => by cases op <;> rfl
  rw [Sem.run_bind, hg, Result.andThen_ok, Sem.run_bind]
  simp only [binOp]
  rw [Sem.run_bind]
  unfold pt at hr
  rw [hr, Result.andThen_ok]
  exact h

theorem s_neP {T : TypeId} [hT : PtT P T] {a b : Nat} {x y : List Value} {TX TY : TypeId} (ha : w.heap[a]? = some (cellsO x TX)) (hb : w.heap[b]? = some (cellsO y TY))
    (h : K (.bool (!decide (a = b))) w) : opS P (S.binG .neq T (pt a 0) (pt b 0)) K w := by
  have hr := run_equal_ptr (P := P) (T := T) ha hb
  unfold opS S.binG pt
  simp only []
  have hg : ∀ op, (eqGuard op T (.tmp 0) (.tmp 0) (.pointer (some ⟨a, 0, none⟩)) (.pointer (some ⟨b, 0, none⟩))).run P w = .ok () w := fun op => by cases op <;> rfl
  rw [Sem.run_bind, hg, Result.andThen_ok, Sem.run_bind]
  simp only [binOp]
  rw [Sem.run_bind]
  unfold pt at hr
  rw [hr, Result.andThen_ok]
  exact h

end Go.Gx
end

section
/- A bridge's part of the tree: how it lies in memory. -/
set_option linter.unusedVariables false
set_option linter.unusedSimpArgs false
set_option maxRecDepth 100000
namespace Go.Gx.S
open Go Go.Gx Go.Proofs
variable {K : Value → World → Prop} {w : World}

instance : PtT Tryz.prog 59 := ⟨_, _, Tryz.underlying59, rfl, by decide⟩

theorem zVec_sw (v : Vec) : splice [.int .i64 0, .int .u8 0, .int .u8 0, .int .u8 0, .int .u8 0, .int .u8 0, .int .u8 0, .int .i64 0, .int .i64 0, .int .u8 0, .int .u8 0, .int .u8 0, .int .u8 0, .int .u8 0, .int .u8 0, .int .i64 0, .int .i64 0] 0 v.cells = v.cells := id rfl
theorem zHrd_sw (v : Hrd) : splice [.int .i64 0, .int .i64 0, .bool false, .bool false, .int .i64 0, .int .u8 0, .int .u8 0, .int .u8 0, .int .u8 0, .int .u8 0, .int .u8 0, .int .i64 0, .int .i64 0, .int .u8 0, .int .u8 0, .int .u8 0, .int .u8 0, .int .u8 0, .int .u8 0, .int .i64 0, .int .i64 0] 0 v.cells = v.cells := id rfl
attribute [push_cast] zVec_sw zHrd_sw

/-! ### Plain -/

/-- a bridge -/
@[ext] structure Sp where
  me : Idn
  l : List Prt
  best : Vec
  change : Int
  last : Int
  forget : List Bool

def Sp.hs (s : Sp) : List Hrd := s.l.map (·.h)
/-- one of its ports is set -/
def Sp.setP (s : Sp) (i : Nat) (p : Prt) : Sp := { s with l := s.l.set i p }
/-- what holds of every port -/
structure _root_.Go.Gx.Prt.inv (p : Prt) : Prop where
  role : 0 ≤ p.role ∧ p.role ≤ 4
  state : 0 ≤ p.state ∧ p.state ≤ 2
  age : 0 ≤ p.age ∧ p.age ≤ 65535
  reply : p.role = 2 → p.reply = false
/-- what holds of every bridge -/
structure Sp.wf (s : Sp) : Prop where
  me : s.me.ok
  l : ∀ p ∈ s.l, p.ok
  best : s.best.ok
  num : numbered s.hs
  fair : fairB s.hs = true
  fl : s.forget.length = s.l.length
  rl : ∀ p ∈ s.l, p.inv
  la : -1 ≤ s.last ∧ s.last ≤ 1099511627776

theorem Sp.wf.n64 {s : Sp} (h : s.wf) : s.l.length ≤ 64 := by
  have := h.fair
  unfold fairB at this
  rw [Bool.and_eq_true, decide_eq_true_iff] at this
  simpa [Sp.hs] using this.1

/-- what of a port never changes -/
def sameP (p q : Prt) : Prop := q.h.port = p.h.port ∧ q.h.cost = p.h.cost
theorem Sp.wf.setP {s : Sp} (h : s.wf) {i : Nat} {p q : Prt} (hp : s.l[i]? = some p) (hs : sameP p q) (hq : q.ok) (hr : p.inv → q.inv := by exact fun h => ⟨h.role, h.state, h.age, h.reply⟩) : (s.setP i q).wf := by
  obtain ⟨hi, e⟩ := List.getElem?_eq_some_iff.1 hp
  refine ⟨h.me, fun x hx => ?_, h.best, fun k x hx => ?_, ?_, by show s.forget.length = (s.l.set i q).length; rw [List.length_set]; exact h.fl, fun x hx => ?_, h.la⟩
  · rcases List.mem_or_eq_of_mem_set hx with hx | rfl
    · exact h.l x hx
    · exact hq
  · show x.port = _
    have hx : ((s.l.set i q).map (·.h))[k]? = some x := hx
    rw [List.getElem?_map, List.getElem?_set] at hx
    by_cases e2 : i = k
    · subst e2
      rw [if_pos rfl, if_pos hi] at hx
      simp only [Option.map_some, Option.some.injEq] at hx
      rw [← hx, hs.1]
      exact h.num i p.h (by unfold Sp.hs; rw [List.getElem?_map, hp]; rfl)
    · rw [if_neg e2] at hx
      exact h.num k x (by unfold Sp.hs; rw [List.getElem?_map]; exact hx)
  · have hf := h.fair
    unfold fairB Sp.hs at hf ⊢
    rw [Bool.and_eq_true, List.all_eq_true, List.length_map] at hf
    rw [Bool.and_eq_true, List.all_eq_true, List.length_map]
    refine ⟨by show decide ((s.l.set i q).length ≤ 64) = true; rw [List.length_set]; exact hf.1, fun x hx => ?_⟩
    obtain ⟨y, hy, rfl⟩ := List.mem_map.1 hx
    rcases List.mem_or_eq_of_mem_set hy with hy | rfl
    · exact hf.2 _ (List.mem_map.2 ⟨y, hy, rfl⟩)
    · have := hf.2 p.h (List.mem_map.2 ⟨p, List.mem_of_getElem? hp, rfl⟩)
      unfold costH at this ⊢
      rw [hs.2]; exact this
  · rcases List.mem_or_eq_of_mem_set hx with hx | rfl
    · exact h.rl x hx
    · exact hr (h.rl p (List.mem_of_getElem? hp))

/-! ### Memory -/

def spC (s : Sp) (pv fv : Value) : List Value :=
  [i64 s.me.prio, u8 s.me.mac.b0, u8 s.me.mac.b1, u8 s.me.mac.b2, u8 s.me.mac.b3, u8 s.me.mac.b4, u8 s.me.mac.b5, pv, i64 s.best.root.prio, u8 s.best.root.mac.b0, u8 s.best.root.mac.b1, u8 s.best.root.mac.b2, u8 s.best.root.mac.b3, u8 s.best.root.mac.b4, u8 s.best.root.mac.b5, i64 s.best.cost, i64 s.best.br.prio, u8 s.best.br.mac.b0, u8 s.best.br.mac.b1, u8 s.best.br.mac.b2, u8 s.best.br.mac.b3, u8 s.best.br.mac.b4, u8 s.best.br.mac.b5, i64 s.best.port, i64 s.best.own, i64 s.change, i64 s.last, fv]
section
variable (s : Sp) (pv fv : Value)
theorem spC_len : (spC s pv fv).length = 28 := id rfl
theorem spC_me : ((spC s pv fv).drop 0).take 7 = s.me.cells := id rfl
theorem spC_pv : (spC s pv fv)[7]? = some pv := id rfl
theorem spC_best : ((spC s pv fv).drop 8).take 17 = s.best.cells := id rfl
theorem spC_root : ((spC s pv fv).drop 8).take 7 = s.best.root.cells := id rfl
theorem spC_cost : (spC s pv fv)[15]? = some (i64 s.best.cost) := id rfl
theorem spC_change : (spC s pv fv)[25]? = some (i64 s.change) := id rfl
theorem spC_last : (spC s pv fv)[26]? = some (i64 s.last) := id rfl
theorem spC_fv : (spC s pv fv)[27]? = some fv := id rfl
theorem spC_sbest (v : Vec) : splice (spC s pv fv) 8 v.cells = spC { s with best := v } pv fv := id rfl
theorem spC_schange (v : Int) : splice (spC s pv fv) 25 [i64 v] = spC { s with change := v } pv fv := id rfl
theorem spC_slast (v : Int) : splice (spC s pv fv) 26 [i64 v] = spC { s with last := v } pv fv := id rfl
theorem spC_set (i : Nat) (p : Prt) : spC (s.setP i p) pv fv = spC s pv fv := id rfl
theorem spC_all (s : Sp) (l : List Prt) (f : List Bool) : spC { s with l := l, forget := f } pv fv = spC s pv fv := id rfl
end
attribute [push_cast] spC_sbest spC_schange spC_slast spC_len spC_me spC_pv spC_best spC_root spC_cost spC_change spC_last spC_fv

/-- a bridge's struct, and its ports -/
structure PS (T TP : TypeId) (w : World) (sp : Nat) (bs : List Nat) (pv fv : Value) (s : Sp) : Prop where
  main : w.heap[sp]? = some (cellsO (spC s pv fv) T)
  pvs : RdE 1 w pv (bs.map fun b => [pt b 0])
  len : bs.length = s.l.length
  port : ∀ (i b : Nat) (p : Prt), bs[i]? = some b → s.l[i]? = some p → w.heap[b]? = some (cellsO p.cells TP)
  nd : bs.Nodup
  nsp : sp ∉ bs
  npv : ∀ b, blkS pv = some b → b ≠ sp ∧ b ∉ bs

section
variable {T TP : TypeId} {sp : Nat} {bs : List Nat} {pv fv : Value} {s : Sp}
theorem PS.lenv {R : Value → World → Prop} (h : PS T TP w sp bs pv fv s) (W : World) : opS Tryz.prog (S.len pv) R W = R (i64 s.l.length) W := by
  obtain ⟨a, c, hv⟩ := h.pvs.form
  rw [hv, List.length_map, h.len]; rfl
theorem PS.one (h : PS T TP w sp bs pv fv s) : S.oneCell pv = true := h.pvs.one
theorem PS.fr {fp : Nat → Prop} {w' : World} (h : PS T TP w sp bs pv fv s) (hF : Fr fp w w') (h1 : ¬ fp sp) (h2 : ∀ b ∈ bs, ¬ fp b) (h3 : ∀ b, blkS pv = some b → ¬ fp b) : PS T TP w' sp bs pv fv s :=
  ⟨hF.heap h.main h1, h.pvs.fr hF h3, h.len, fun i b p hb hp => hF.heap (h.port i b p hb hp) (h2 b (List.mem_of_getElem? hb)), h.nd, h.nsp, h.npv⟩
theorem PS.fr0 {w' : World} (h : PS T TP w sp bs pv fv s) (hF : Fr none_ w w') : PS T TP w' sp bs pv fv s := h.fr hF (fun h => h) (fun _ _ h => h) fun _ _ h => h
theorem PS.blk (h : PS T TP w sp bs pv fv s) {i : Nat} {p : Prt} (hp : s.l[i]? = some p) : ∃ b, bs[i]? = some b ∧ b ∈ bs := by
  obtain ⟨hi, e⟩ := List.getElem?_eq_some_iff.1 hp
  have hb : bs[i]? = some (bs[i]'(by rw [h.len]; exact hi)) := List.getElem?_eq_getElem _
  exact ⟨_, hb, List.mem_of_getElem? hb⟩
theorem PS.inj (h : PS T TP w sp bs pv fv s) {i j b : Nat} (hi : bs[i]? = some b) (hj : bs[j]? = some b) : i = j := by
  obtain ⟨h1, e1⟩ := List.getElem?_eq_some_iff.1 hi
  exact (List.getElem?_inj h1 h.nd).1 (hi.trans hj.symm)
/-- a port is written -/
theorem PS.stp (h : PS T TP w sp bs pv fv s) {i b o : Nat} {p p' : Prt} {vs : List Value} (hb : bs[i]? = some b) (hp : s.l[i]? = some p) (he : splice p.cells o vs = p'.cells) :
    PS T TP (wr w b o vs) sp bs pv fv (s.setP i p') ∧ Fr (fun x => x = b) w (wr w b o vs) := by
  have hF : Fr (fun x => x = b) w (wr w b o vs) := Fr.wr w _ _ _ rfl
  have hm := List.mem_of_getElem? hb
  refine ⟨⟨?_, h.pvs.fr hF fun x hx e => (h.npv x hx).2 (e ▸ hm), by show bs.length = (s.l.set i p').length; rw [List.length_set]; exact h.len, fun k c q hc hq => ?_, h.nd, h.nsp, h.npv⟩, hF⟩
  · rw [spC_set]; exact hF.heap h.main fun e => h.nsp (e ▸ hm)
  · have hq : (s.l.set i p')[k]? = some q := hq
    rw [List.getElem?_set] at hq
    by_cases e : i = k
    · subst e
      obtain ⟨hi, _⟩ := List.getElem?_eq_some_iff.1 hp
      rw [if_pos rfl, if_pos hi] at hq
      rw [hb] at hc; cases hc; cases hq
      rw [heap_wr, if_pos rfl, h.port i b p hb hp, putAt_cells, he]
    · rw [if_neg e] at hq
      exact hF.heap (h.port k c q hc hq) fun e2 => e (h.inj hb (e2 ▸ hc))
/-- the struct is written -/
theorem PS.stm (h : PS T TP w sp bs pv fv s) {o : Nat} {vs : List Value} {s' : Sp} (hl : s'.l = s.l) (he : splice (spC s pv fv) o vs = spC s' pv fv) :
    PS T TP (wr w sp o vs) sp bs pv fv s' ∧ Fr (fun x => x = sp) w (wr w sp o vs) := by
  have hF : Fr (fun x => x = sp) w (wr w sp o vs) := Fr.wr w _ _ _ rfl
  refine ⟨⟨?_, h.pvs.fr hF fun x hx e => (h.npv x hx).1 e, by rw [hl]; exact h.len, fun k c q hc hq => hF.heap (h.port k c q hc (by rw [← hl]; exact hq)) fun e => h.nsp (e ▸ List.mem_of_getElem? hc), h.nd, h.nsp, h.npv⟩, hF⟩
  rw [heap_wr, if_pos rfl, h.main, putAt_cells, he]
/-- only what is not in memory changes -/
theorem PS.forget (h : PS T TP w sp bs pv fv s) (f : List Bool) : PS T TP w sp bs pv fv { s with forget := f } := ⟨h.main, h.pvs, h.len, h.port, h.nd, h.nsp, h.npv⟩
end

def cellB (b : Bool) : List Value := [.bool b]

/-! ### The code's and the reference's -/

/-- the numbers of those ports whose stations are to be forgotten -/
def FM (m : List (Int × Bool)) (f : List Bool) : Prop := ∀ k : Int, getL m k = if 1 ≤ k ∧ f[(k - 1).toNat]? = some true then some true else none

structure CS (w : World) (sp : Nat) (bs : List Nat) (pv : Value) (mb : Nat) (s : Sp) : Prop where
  ps : PS 58 63 w sp bs pv (.map (some mb)) s
  mp : ∃ m, MapR kI Value.bool isI w mb m ∧ FM m s.forget
  nmb : mb ≠ sp ∧ mb ∉ bs ∧ blkS pv ≠ some mb

structure RS (w : World) (sp : Nat) (bs : List Nat) (pv fv : Value) (s : Sp) : Prop where
  ps : PS 49 70 w sp bs pv fv s
  fo : OwnE 4 1 w fv (s.forget.map cellB)
  nfv : ∀ b, blkS fv = some b → b ≠ sp ∧ b ∉ bs ∧ blkS pv ≠ some b

/-- whose blocks -/
def fC (sp : Nat) (bs : List Nat) (mb : Nat) : Nat → Prop := fun b => b = sp ∨ b ∈ bs ∨ b = mb
def fR (sp : Nat) (bs : List Nat) (fv : Value) : Nat → Prop := fun b => b = sp ∨ b ∈ bs ∨ blkS fv = some b

section
variable {sp mb : Nat} {bs : List Nat} {pv fv : Value} {s : Sp}
theorem CS.fr {fp : Nat → Prop} {w' : World} (h : CS w sp bs pv mb s) (hF : Fr fp w w') (h1 : ∀ b, fC sp bs mb b → ¬ fp b) (h3 : ∀ b, blkS pv = some b → ¬ fp b) : CS w' sp bs pv mb s := by
  obtain ⟨h4, ⟨m, h5, h6⟩, h7⟩ := h
  exact ⟨h4.fr hF (h1 _ (.inl rfl)) (fun b hb => h1 _ (.inr (.inl hb))) h3, ⟨m, h5.fr hF (h1 _ (.inr (.inr rfl))), h6⟩, h7⟩
theorem CS.fr0 {w' : World} (h : CS w sp bs pv mb s) (hF : Fr none_ w w') : CS w' sp bs pv mb s := h.fr hF (fun _ _ h => h) fun _ _ h => h
theorem CS.stp (h : CS w sp bs pv mb s) {i b o : Nat} {p p' : Prt} {vs : List Value} (hb : bs[i]? = some b) (hp : s.l[i]? = some p) (he : splice p.cells o vs = p'.cells) :
    CS (wr w b o vs) sp bs pv mb (s.setP i p') ∧ Fr (fC sp bs mb) w (wr w b o vs) := by
  obtain ⟨h4, ⟨m, h5, h6⟩, h7⟩ := h
  obtain ⟨g1, g2⟩ := h4.stp hb hp he
  have hm := List.mem_of_getElem? hb
  exact ⟨⟨g1, ⟨m, h5.fr g2 fun e => h7.2.1 (e ▸ hm), h6⟩, h7⟩, g2.mono fun x _ e => .inr (.inl (e ▸ hm))⟩
theorem CS.stm (h : CS w sp bs pv mb s) {o : Nat} {vs : List Value} {s' : Sp} (hl : s'.l = s.l) (hf : s'.forget = s.forget) (he : splice (spC s pv (.map (some mb))) o vs = spC s' pv (.map (some mb))) :
    CS (wr w sp o vs) sp bs pv mb s' ∧ Fr (fC sp bs mb) w (wr w sp o vs) := by
  obtain ⟨h4, ⟨m, h5, h6⟩, h7⟩ := h
  obtain ⟨g1, g2⟩ := h4.stm hl he
  exact ⟨⟨g1, ⟨m, h5.fr g2 h7.1, by rw [hf]; exact h6⟩, h7⟩, g2.mono fun x _ e => .inl e⟩
theorem RS.fr {fp : Nat → Prop} {w' : World} (h : RS w sp bs pv fv s) (hF : Fr fp w w') (h1 : ∀ b, fR sp bs fv b → ¬ fp b) (h3 : ∀ b, blkS pv = some b → ¬ fp b) : RS w' sp bs pv fv s := by
  obtain ⟨h4, h5, h7⟩ := h
  exact ⟨h4.fr hF (h1 _ (.inl rfl)) (fun b hb => h1 _ (.inr (.inl hb))) h3, h5.fr hF fun b hb => h1 _ (.inr (.inr hb)), h7⟩
theorem RS.fr0 {w' : World} (h : RS w sp bs pv fv s) (hF : Fr none_ w w') : RS w' sp bs pv fv s := h.fr hF (fun _ _ h => h) fun _ _ h => h
theorem RS.stp (h : RS w sp bs pv fv s) {i b o : Nat} {p p' : Prt} {vs : List Value} (hb : bs[i]? = some b) (hp : s.l[i]? = some p) (he : splice p.cells o vs = p'.cells) :
    RS (wr w b o vs) sp bs pv fv (s.setP i p') ∧ Fr (fR sp bs fv) w (wr w b o vs) := by
  obtain ⟨h4, h5, h7⟩ := h
  obtain ⟨g1, g2⟩ := h4.stp hb hp he
  have hm := List.mem_of_getElem? hb
  exact ⟨⟨g1, h5.fr g2 fun x hx e => (h7 x hx).2.1 (e ▸ hm), h7⟩, g2.mono fun x _ e => .inr (.inl (e ▸ hm))⟩
theorem RS.stm (h : RS w sp bs pv fv s) {o : Nat} {vs : List Value} {s' : Sp} (hl : s'.l = s.l) (hf : s'.forget = s.forget) (he : splice (spC s pv fv) o vs = spC s' pv fv) :
    RS (wr w sp o vs) sp bs pv fv s' ∧ Fr (fR sp bs fv) w (wr w sp o vs) := by
  obtain ⟨h4, h5, h7⟩ := h
  obtain ⟨g1, g2⟩ := h4.stm hl he
  exact ⟨⟨g1, by rw [hf]; exact h5.fr g2 fun x hx e => (h7 x hx).1 e, h7⟩, g2.mono fun x _ e => .inl e⟩
end

end Go.Gx.S
end

section
/- Small steps of a bridge. -/
set_option linter.unusedVariables false
set_option linter.unusedSimpArgs false
set_option maxRecDepth 100000
namespace Go.Gx.S
open Go Go.Gx Go.Proofs
variable {K : Value → World → Prop} {w : World} {sp mb : Nat} {bs : List Nat} {pv fv : Value} {s : Sp}

theorem Sp.setP_setP (s : Sp) (i : Nat) (p q : Prt) : (s.setP i p).setP i q = s.setP i q := by
  unfold Sp.setP; simp
theorem Sp.setP_get (s : Sp) {i : Nat} {p : Prt} (h : s.l[i]? = some p) (q : Prt) : (s.setP i q).l[i]? = some q := by
  show (s.l.set i q)[i]? = _
  rw [List.getElem?_set, if_pos rfl, if_pos (List.getElem?_eq_some_iff.1 h).1]
theorem Sp.setP_ne (s : Sp) {i k : Nat} (h : i ≠ k) (q : Prt) : (s.setP i q).l[k]? = s.l[k]? := by
  show (s.l.set i q)[k]? = _
  rw [List.getElem?_set, if_neg h]
theorem Sp.setP_same (s : Sp) {i : Nat} {p : Prt} (h : s.l[i]? = some p) : s.setP i p = s := by
  obtain ⟨hi, e⟩ := List.getElem?_eq_some_iff.1 h
  have : s.l.set i p = s.l := by
    apply List.ext_getElem?
    intro k
    rw [List.getElem?_set]
    by_cases e2 : i = k
    · subst e2; rw [if_pos rfl, if_pos hi, h]
    · rw [if_neg e2]
  unfold Sp.setP
  rw [this]

/-- moments -/
def momB (now : Int) : Prop := 0 ≤ now ∧ now ≤ 1099511627776

/-! ### holds -/

def holdP (p : Prt) (now : Int) : Prt := { p with state := 0, on := now + 15 }

theorem holds_spec {i b : Nat} {p : Prt} {now : Int} (h : CS w sp bs pv mb s) (hb : bs[i]? = some b) (hp : s.l[i]? = some p) (hn : momB now)
    (hk : ∀ w', CS w' sp bs pv mb (s.setP i (holdP p now)) → Fr (fC sp bs mb) w w' → K (.tuple #[]) w') : CallsR Tryz.prog 69 #[pt b 0, i64 now] K w := by
  apply c69
  unfold p69
  have hc := h.ps.port i b p hb hp
  obtain ⟨h1, f1⟩ := h.stp hb hp (Prt.s_state p 0)
  obtain ⟨h2, f2⟩ := h1.stp hb (s.setP_get hp _) (Prt.s_on { p with state := 0 } (now + 15))
  rw [Sp.setP_setP] at h2
  have hw : IntKind.i64.wrap (now + 15) = now + 15 := by unfold momB at hn; exact wrap_i64 (by omega)
  simp only [push_cast, Nat.reduceAdd, Nat.reduceLeDiff, Nat.reduceLT, Int.reduceToNat, Nat.left_eq_add, Nat.add_eq_left, Nat.add_left_cancel_iff, Nat.reduceEqDiff, Nat.add_assoc, Nat.succ_ne_zero, hc, hw]
  exact hk _ h2 (f1.trans f2)

theorem rholds_spec {i b : Nat} {p : Prt} {now : Int} (h : RS w sp bs pv fv s) (hb : bs[i]? = some b) (hp : s.l[i]? = some p) (hn : momB now)
    (hk : ∀ w', RS w' sp bs pv fv (s.setP i (holdP p now)) → Fr (fR sp bs fv) w w' → K (.tuple #[]) w') : CallsR Tryz.prog 74 #[pt b 0, i64 now] K w := by
  apply c74
  unfold p74
  have hc := h.ps.port i b p hb hp
  obtain ⟨h1, f1⟩ := h.stp hb hp (Prt.s_state p 0)
  obtain ⟨h2, f2⟩ := h1.stp hb (s.setP_get hp _) (Prt.s_on { p with state := 0 } (now + 15))
  rw [Sp.setP_setP] at h2
  have hw : IntKind.i64.wrap (now + 15) = now + 15 := by unfold momB at hn; exact wrap_i64 (by omega)
  simp only [push_cast, Nat.reduceAdd, Nat.reduceLeDiff, Nat.reduceLT, Int.reduceToNat, Nat.left_eq_add, Nat.add_eq_left, Nat.add_left_cancel_iff, Nat.reduceEqDiff, Nat.add_assoc, Nat.succ_ne_zero, hc, hw]
  exact hk _ h2 (f1.trans f2)

/-! ### changed -/

def chgF (f : List Bool) (but : Nat) (k : Nat) : List Bool := f.mapIdx fun i x => if i < k ∧ i ≠ but then true else x
def Sp.changeP (s : Sp) (but : Nat) (now : Int) : Sp := { s with forget := chgF s.forget but s.l.length, change := now + 4 }

theorem chgF_len (f : List Bool) (but k : Nat) : (chgF f but k).length = f.length := by unfold chgF; simp
theorem chgF_0 (f : List Bool) (but : Nat) : chgF f but 0 = f := by
  unfold chgF
  apply List.ext_getElem?
  intro i
  rw [List.getElem?_mapIdx]
  cases f[i]? <;> simp
theorem chgF_get (f : List Bool) (but k i : Nat) : (chgF f but k)[i]? = (f[i]?).map fun x => if i < k ∧ i ≠ but then true else x := by
  unfold chgF; rw [List.getElem?_mapIdx]
theorem chgF_but (f : List Bool) (k : Nat) : chgF f k (k + 1) = chgF f k k := by
  apply List.ext_getElem?
  intro i
  rw [chgF_get, chgF_get]
  congr 1
  funext x
  by_cases h : i = k
  · simp [h]
  · have : (i < k + 1) ↔ i < k := by omega
    simp [this]
theorem chgF_set {f : List Bool} {but k : Nat} (h : k ≠ but) : chgF f but (k + 1) = (chgF f but k).set k true := by
  apply List.ext_getElem?
  intro i
  rw [List.getElem?_set, chgF_get, chgF_get, chgF_len]
  by_cases e : k = i
  · subst e
    rw [if_pos rfl]
    by_cases hk : k < f.length
    · rw [if_pos hk, List.getElem?_eq_getElem hk]
      simp [h]
    · rw [if_neg hk, List.getElem?_eq_none (by omega)]; rfl
  · rw [if_neg e]
    congr 1
    funext x
    have : (i < k + 1) ↔ i < k := by omega
    simp [this]
theorem FM.set {m : List (Int × Bool)} {f : List Bool} (h : FM m f) {k : Nat} (hk : k < f.length) : FM (setL m ((k : Int) + 1) true) (f.set k true) := by
  intro j
  rw [lookup_setL]
  by_cases e : j = (k : Int) + 1
  · subst e
    have e1 : ((k : Int) + 1 - 1).toNat = k := by omega
    rw [if_pos rfl, if_pos ⟨by omega, by rw [e1, List.getElem?_set, if_pos rfl, if_pos hk]⟩]
  · rw [if_neg e, h j]
    by_cases h1 : 1 ≤ j
    · have : k ≠ (j - 1).toNat := by omega
      rw [List.getElem?_set, if_neg this]
    · rw [if_neg (fun h => h1 h.1), if_neg (fun h => h1 h.1)]

/-- an element of one's own slice is written -/
theorem own_st {TS E : TypeId} [hS : SlT Tryz.prog TS E] [hs : Sz Tryz.prog E 1 false] {v x : Value} {es : List (List Value)} (h : OwnE E 1 w v es) {i : Nat} (hi : i < es.length) (hx : S.oneCell x = true) {R : Value → World → Prop}
    (hk : ∀ b w', blkS v = some b → OwnE E 1 w' v (es.set i [x]) → Fr (fun y => y = b) w w' → R undef w') : opS Tryz.prog (S.ia TS v (i64 i)) (fun p => opS Tryz.prog (S.st E p x) R) w := by
  have h0 := h
  obtain ⟨h1, h2⟩ := h
  rcases h1 with ⟨_, h1, _⟩ | ⟨b, o, c, cs, rfl, hb, hc, ho, hl⟩
  · omega
  · obtain ⟨g1, g2⟩ := h0.put (e := [x]) rfl hi
    rw [opS_iaS, if_pos (by omega), Int.toNat_natCast, s_st1 _ _ _ hx, g1, onB_true]
    exact hk b _ rfl g2 (Fr.wr w _ _ _ rfl)

theorem bs_at {T TP : TypeId} (h : PS T TP w sp bs pv fv s) {k : Nat} (hk : k < s.l.length) : ∃ b p, bs[k]? = some b ∧ s.l[k]? = some p := by
  refine ⟨bs[k]'(by rw [h.len]; exact hk), s.l[k], List.getElem?_eq_getElem _, List.getElem?_eq_getElem _⟩
/-- the pointer to a port -/
theorem ld_ptr {T TP TS TQ : TypeId} [hS : SlT Tryz.prog TS TQ] [hs : Sz Tryz.prog TQ 1 false] (h : PS T TP w sp bs pv fv s) {k b : Nat} {W : World} (hF : Fr none_ w W) {R : Value → World → Prop} (hb : bs[k]? = some b) (hk : R (pt b 0) W) :
    opS Tryz.prog (S.ia TS pv (i64 k)) (fun x => opS Tryz.prog (S.ld TQ x) R) W := by
  obtain ⟨hi, e⟩ := List.getElem?_eq_some_iff.1 hb
  refine s_iaE (h.pvs.fr hF fun _ _ h => h) (by omega) (by simpa using hi) fun c o c' _ he => ?_
  simp only [Int.toNat_natCast, List.getElem_map, e] at he ⊢
  rw [s_ld1, he.cell0 (by exact Nat.one_pos)]
  exact hk

theorem wrapm {now k : Int} (hn : momB now) (h0 : 0 ≤ k) (h1 : k ≤ 1000) : IntKind.i64.wrap (now + k) = now + k := by unfold momB at hn; exact wrap_i64 (by omega)

theorem changed_spec {i b : Nat} {now : Int} (h : CS w sp bs pv mb s) (hw : s.wf) (hb : bs[i]? = some b) (hn : momB now)
    (hk : ∀ w', CS w' sp bs pv mb (s.changeP i now) → Fr (fC sp bs mb) w w' → K (.tuple #[]) w') : CallsR Tryz.prog 40 #[pt sp 0, pt b 0, i64 now] K w := by
  apply c40
  unfold p40
  have hw4 := wrapm hn (show (0 : Int) ≤ 4 by decide) (by decide)
  simp only [push_cast, Nat.reduceAdd, Nat.reduceLeDiff, Nat.reduceLT, Int.reduceToNat, Nat.left_eq_add, Nat.add_eq_left, Nat.add_left_cancel_iff, Nat.reduceEqDiff, Nat.add_assoc, Nat.succ_ne_zero, h.ps.main]
  rw [h.ps.lenv]
  refine jn0 (fun W => CS W sp bs pv mb { s with forget := chgF s.forget i s.l.length } ∧ Fr (fC sp bs mb) w W) ?_ fun j hj => ?_
  · rintro W ⟨hI, hF⟩
    simp only [push_cast, Nat.reduceAdd, Nat.reduceLeDiff, Nat.reduceLT, Int.reduceToNat, Nat.left_eq_add, Nat.add_eq_left, Nat.add_left_cancel_iff, Nat.reduceEqDiff, Nat.add_assoc, Nat.succ_ne_zero, hw4, hI.ps.main]
    obtain ⟨g1, g2⟩ := hI.stm (s' := s.changeP i now) rfl rfl (spC_schange _ _ _ (now + 4))
    exact hk _ g1 (hF.trans g2)
  refine loop1 (fun n u W => ∃ k : Nat, k ≤ s.l.length ∧ n = s.l.length - k ∧ u = i64 k ∧ CS W sp bs pv mb { s with forget := chgF s.forget i k } ∧ Fr (fC sp bs mb) w W) ?_ s.l.length ⟨0, by omega, rfl, rfl, by rw [chgF_0]; exact h, Fr.refl _ _⟩
  rintro n u W X ⟨k, hk2, rfl, rfl, hI, hF⟩ hX
  have h64 := hw.n64
  have hfl := hw.fl
  simp only [push_cast, Nat.reduceAdd, Nat.reduceLeDiff, Nat.reduceLT, Int.reduceToNat, Nat.left_eq_add, Nat.add_eq_left, Nat.add_left_cancel_iff, Nat.reduceEqDiff, Nat.add_assoc, Nat.succ_ne_zero]
  refine br_dec (fun hlt => ?_) fun hge => ?_
  · have hkl : k < s.l.length := by omega
    obtain ⟨c, q, hc, hq⟩ := bs_at h.ps hkl
    refine ld_ptr hI.ps (Fr.refl _ _) hc ?_
    obtain ⟨_, qi, _, hqi⟩ := bs_at h.ps (show i < s.l.length by rw [← h.ps.len]; exact (List.getElem?_eq_some_iff.1 hb).1)
    refine s_neP (hI.ps.port k c q hc hq) (hI.ps.port i b qi hb hqi) ?_
    simp only [push_cast, Nat.reduceAdd, Nat.reduceLeDiff, Nat.reduceLT, Int.reduceToNat, Nat.left_eq_add, Nat.add_eq_left, Nat.add_left_cancel_iff, Nat.reduceEqDiff, Nat.add_assoc, Nat.succ_ne_zero]
    have hwk : IntKind.i64.wrap ((k : Int) + 1) = ((k + 1 : Nat) : Int) := by rw [wrap_i64 (by omega)]; rfl
    refine br_intro (fun e => ?_) fun e => ?_
    · have e : c ≠ b := by simpa using e
      have hki : k ≠ i := fun e2 => by subst e2; rw [hb] at hc; exact e (Option.some.inj hc).symm
      simp only [push_cast, Nat.reduceAdd, Nat.reduceLeDiff, Nat.reduceLT, Int.reduceToNat, Nat.left_eq_add, Nat.add_eq_left, Nat.add_left_cancel_iff, Nat.reduceEqDiff, Nat.add_assoc, Nat.succ_ne_zero, hI.ps.main, hwk]
      obtain ⟨m, hm, hfm⟩ := hI.mp
      refine s_mu (kc := kI) (vc := Value.bool) (k := (k : Int) + 1) (v := true) hm (isI_iff.2 (by omega)) fun W3 hm3 hF3 => ?_
      simp only [push_cast, Nat.reduceAdd, Nat.reduceLeDiff, Nat.reduceLT, Int.reduceToNat, Nat.left_eq_add, Nat.add_eq_left, Nat.add_left_cancel_iff, Nat.reduceEqDiff, Nat.add_assoc, Nat.succ_ne_zero, hwk]
      have hps := hI.ps.fr hF3 (fun e => hI.nmb.1 e.symm) (fun b hb e => hI.nmb.2.1 (e ▸ hb)) fun b hb e => hI.nmb.2.2 (e ▸ hb)
      refine hX (s.l.length - (k + 1)) _ _ (by omega) ⟨k + 1, by omega, rfl, rfl, ⟨hps.forget _, ⟨_, hm3, ?_⟩, hI.nmb⟩, hF.trans (hF3.mono fun x _ e => .inr (.inr e))⟩
      show FM _ (chgF s.forget i (k + 1))
      rw [chgF_set hki]
      exact hfm.set (by rw [chgF_len]; omega)
    · have e : c = b := by simpa using e
      have hki : k = i := hI.ps.inj hc (e ▸ hb)
      simp only [hwk]
      refine hX (s.l.length - (k + 1)) _ _ (by omega) ⟨k + 1, by omega, rfl, rfl, ?_, hF⟩
      subst hki
      rw [chgF_but]; exact hI
  · obtain rfl : k = s.l.length := by omega
    exact hj _ ⟨hI, hF⟩

theorem rchange_spec {i : Nat} {now : Int} (h : RS w sp bs pv fv s) (hw : s.wf) (hi : i < s.l.length) (hn : momB now)
    (hk : ∀ w', RS w' sp bs pv fv (s.changeP i now) → Fr (fR sp bs fv) w w' → K (.tuple #[]) w') : CallsR Tryz.prog 48 #[pt sp 0, i64 i, i64 now] K w := by
  apply c48
  unfold p48
  have hw4 := wrapm hn (show (0 : Int) ≤ 4 by decide) (by decide)
  have h64 := hw.n64
  have hfl := hw.fl
  refine jn0 (fun W => RS W sp bs pv fv { s with forget := chgF s.forget i s.l.length } ∧ Fr (fR sp bs fv) w W) ?_ fun j hj => ?_
  · rintro W ⟨hI, hF⟩
    simp only [push_cast, Nat.reduceAdd, Nat.reduceLeDiff, Nat.reduceLT, Int.reduceToNat, Nat.left_eq_add, Nat.add_eq_left, Nat.add_left_cancel_iff, Nat.reduceEqDiff, Nat.add_assoc, Nat.succ_ne_zero, hw4, hI.ps.main]
    obtain ⟨g1, g2⟩ := hI.stm (s' := s.changeP i now) rfl rfl (spC_schange _ _ _ (now + 4))
    exact hk _ g1 (hF.trans g2)
  refine loop1 (fun n u W => ∃ k : Nat, k ≤ s.l.length ∧ n = s.l.length - k ∧ u = i64 k ∧ RS W sp bs pv fv { s with forget := chgF s.forget i k } ∧ Fr (fR sp bs fv) w W) ?_ s.l.length ⟨0, by omega, rfl, rfl, by rw [chgF_0]; exact h, Fr.refl _ _⟩
  rintro n u W X ⟨k, hk2, rfl, rfl, hI, hF⟩ hX
  simp only [push_cast, Nat.reduceAdd, Nat.reduceLeDiff, Nat.reduceLT, Int.reduceToNat, Nat.left_eq_add, Nat.add_eq_left, Nat.add_left_cancel_iff, Nat.reduceEqDiff, Nat.add_assoc, Nat.succ_ne_zero, hI.ps.main]
  rw [h.ps.lenv]
  simp only [push_cast, Nat.reduceAdd, Nat.reduceLeDiff, Nat.reduceLT, Int.reduceToNat, Nat.left_eq_add, Nat.add_eq_left, Nat.add_left_cancel_iff, Nat.reduceEqDiff, Nat.add_assoc, Nat.succ_ne_zero]
  have hwk : IntKind.i64.wrap ((k : Int) + 1) = ((k + 1 : Nat) : Int) := by rw [wrap_i64 (by omega)]; rfl
  refine br_dec (fun hlt => ?_) fun hge => ?_
  · have hkl : k < s.l.length := by omega
    refine br_intro (fun e => ?_) fun e => ?_
    · have hki : k ≠ i := fun e2 => by subst e2; simp at e
      simp only [push_cast, Nat.reduceAdd, Nat.reduceLeDiff, Nat.reduceLT, Int.reduceToNat, Nat.left_eq_add, Nat.add_eq_left, Nat.add_left_cancel_iff, Nat.reduceEqDiff, Nat.add_assoc, Nat.succ_ne_zero, hI.ps.main]
      refine own_st hI.fo (by rw [List.length_map, chgF_len]; omega) rfl fun b W' hb hfo' hF' => ?_
      obtain ⟨n1, n2, n3⟩ := hI.nfv b hb
      have hps := hI.ps.fr hF' (fun e => n1 e.symm) (fun c hc e => n2 (e ▸ hc)) fun c hc e => n3 (e ▸ hc)
      simp only [push_cast, Nat.reduceAdd, Nat.reduceLeDiff, Nat.reduceLT, Int.reduceToNat, Nat.left_eq_add, Nat.add_eq_left, Nat.add_left_cancel_iff, Nat.reduceEqDiff, Nat.add_assoc, Nat.succ_ne_zero, hwk]
      refine hX (s.l.length - (k + 1)) _ _ (by omega) ⟨k + 1, by omega, rfl, rfl, ⟨hps.forget _, ?_, hI.nfv⟩, hF.trans (hF'.mono fun x _ e => .inr (.inr (e ▸ hb)))⟩
      show OwnE 4 1 W' fv ((chgF s.forget i (k + 1)).map cellB)
      rw [chgF_set hki]
      have : ((chgF s.forget i k).set k true).map cellB = ((chgF s.forget i k).map cellB).set k [.bool true] := List.map_set ..
      rw [this]; exact hfo'
    · have hki : k = i := by
        by_cases e2 : k = i
        · exact e2
        · exact absurd e (by simp; omega)
      simp only [hwk]
      refine hX (s.l.length - (k + 1)) _ _ (by omega) ⟨k + 1, by omega, rfl, rfl, ?_, hF⟩
      subst hki
      rw [chgF_but]; exact hI
  · obtain rfl : k = s.l.length := by omega
    exact hj _ ⟨hI, hF⟩

/-! ### forwards -/

def Sp.forwQ (s : Sp) (i : Nat) (p : Prt) (now : Int) : Sp := (if p.state ≠ 2 ∧ p.edge = false then s.changeP i now else s).setP i { p with state := 2 }

theorem forwards_spec {i b : Nat} {p : Prt} {now : Int} (h : CS w sp bs pv mb s) (hw : s.wf) (hb : bs[i]? = some b) (hp : s.l[i]? = some p) (hn : momB now)
    (hk : ∀ w', CS w' sp bs pv mb (s.forwQ i p now) → Fr (fC sp bs mb) w w' → K (.tuple #[]) w') : CallsR Tryz.prog 45 #[pt sp 0, pt b 0, i64 now] K w := by
  apply c45
  unfold p45
  have hc := h.ps.port i b p hb hp
  have hst : ∀ s' W, CS W sp bs pv mb s' → Fr (fC sp bs mb) w W → s'.l[i]? = some p → s'.setP i { p with state := 2 } = s.forwQ i p now → K (.tuple #[]) (wr W b 25 [i64 2]) := fun s' W h1 hF e1 e2 => by
    obtain ⟨g1, g2⟩ := h1.stp hb e1 (Prt.s_state p 2)
    rw [e2] at g1
    exact hk _ g1 (hF.trans g2)
  simp only [push_cast, Nat.reduceAdd, Nat.reduceLeDiff, Nat.reduceLT, Int.reduceToNat, Nat.left_eq_add, Nat.add_eq_left, Nat.add_left_cancel_iff, Nat.reduceEqDiff, Nat.add_assoc, Nat.succ_ne_zero, hc]
  refine br_intro (fun e => ?_) fun e => ?_
  · have e : p.state ≠ 2 := by simpa using e
    refine br_intro (fun e2 => ?_) fun e2 => ?_
    · have e2 : p.edge = false := by simpa using e2
      refine changed_spec h hw hb hn fun W h1 hF => ?_
      simp only [push_cast, Nat.reduceAdd, Nat.reduceLeDiff, Nat.reduceLT, Int.reduceToNat, Nat.left_eq_add, Nat.add_eq_left, Nat.add_left_cancel_iff, Nat.reduceEqDiff, Nat.add_assoc, Nat.succ_ne_zero, h1.ps.port i b p hb hp]
      exact hst _ _ h1 hF hp (by unfold Sp.forwQ; rw [if_pos ⟨e, e2⟩])
    · have e2 : ¬ p.edge = false := by simpa using e2
      exact hst _ _ h (Fr.refl _ _) hp (by unfold Sp.forwQ; rw [if_neg (fun h => e2 h.2)])
  · have e : ¬ p.state ≠ 2 := by simpa using e
    exact hst _ _ h (Fr.refl _ _) hp (by unfold Sp.forwQ; rw [if_neg (fun h => e h.1)])

theorem rforwards_spec {i : Nat} {p : Prt} {now : Int} (h : RS w sp bs pv fv s) (hw : s.wf) (hp : s.l[i]? = some p) (hn : momB now)
    (hk : ∀ w', RS w' sp bs pv fv (s.forwQ i p now) → Fr (fR sp bs fv) w w' → K (.tuple #[]) w') : CallsR Tryz.prog 52 #[pt sp 0, i64 i, i64 now] K w := by
  apply c52
  unfold p52
  have hi := (List.getElem?_eq_some_iff.1 hp).1
  obtain ⟨b, _, hb, _⟩ := bs_at h.ps hi
  have hc := h.ps.port i b p hb hp
  have hst : ∀ s' W, RS W sp bs pv fv s' → Fr (fR sp bs fv) w W → s'.l[i]? = some p → s'.setP i { p with state := 2 } = s.forwQ i p now → K (.tuple #[]) (wr W b 25 [i64 2]) := fun s' W h1 hF e1 e2 => by
    obtain ⟨g1, g2⟩ := h1.stp hb e1 (Prt.s_state p 2)
    rw [e2] at g1
    exact hk _ g1 (hF.trans g2)
  simp only [push_cast, Nat.reduceAdd, Nat.reduceLeDiff, Nat.reduceLT, Int.reduceToNat, Nat.left_eq_add, Nat.add_eq_left, Nat.add_left_cancel_iff, Nat.reduceEqDiff, Nat.add_assoc, Nat.succ_ne_zero, h.ps.main]
  refine ld_ptr h.ps (Fr.refl _ _) hb ?_
  simp only [push_cast, Nat.reduceAdd, Nat.reduceLeDiff, Nat.reduceLT, Int.reduceToNat, Nat.left_eq_add, Nat.add_eq_left, Nat.add_left_cancel_iff, Nat.reduceEqDiff, Nat.add_assoc, Nat.succ_ne_zero, hc]
  refine br_intro (fun e => ?_) fun e => ?_
  · have e : p.state ≠ 2 := by simpa using e
    refine br_intro (fun e2 => ?_) fun e2 => ?_
    · have e2 : p.edge = false := by simpa using e2
      refine rchange_spec h hw hi hn fun W h1 hF => ?_
      simp only [push_cast, Nat.reduceAdd, Nat.reduceLeDiff, Nat.reduceLT, Int.reduceToNat, Nat.left_eq_add, Nat.add_eq_left, Nat.add_left_cancel_iff, Nat.reduceEqDiff, Nat.add_assoc, Nat.succ_ne_zero, h1.ps.port i b p hb hp]
      exact hst _ _ h1 hF hp (by unfold Sp.forwQ; rw [if_pos ⟨e, e2⟩])
    · have e2 : ¬ p.edge = false := by simpa using e2
      exact hst _ _ h (Fr.refl _ _) hp (by unfold Sp.forwQ; rw [if_neg (fun h => e2 h.2)])
  · have e : ¬ p.state ≠ 2 := by simpa using e
    exact hst _ _ h (Fr.refl _ _) hp (by unfold Sp.forwQ; rw [if_neg (fun h => e h.1)])

theorem Sp.wf.changeP (h : s.wf) (i : Nat) (now : Int) : (s.changeP i now).wf := ⟨h.me, h.l, h.best, h.num, h.fair, by show (chgF _ _ _).length = _; rw [chgF_len]; exact h.fl, h.rl, h.la⟩
theorem st0 : (0 : Int) ≤ 0 ∧ (0 : Int) ≤ 2 := by decide
theorem st1 : (0 : Int) ≤ 1 ∧ (1 : Int) ≤ 2 := by decide
theorem st2 : (0 : Int) ≤ 2 ∧ (2 : Int) ≤ 2 := by decide
theorem isI2 : isI 2 := isI_iff.2 (by omega)
theorem isIm {now k : Int} (hn : momB now) (h0 : 0 ≤ k) (h1 : k ≤ 1000) : isI (now + k) := by unfold momB at hn; exact isI_iff.2 (by omega)
theorem Sp.wf.forwQ (h : s.wf) {i : Nat} {p : Prt} (hp : s.l[i]? = some p) (now : Int) : (s.forwQ i p now).wf := by
  have hpo := h.l p (List.mem_of_getElem? hp)
  have hq : ({ p with state := 2 } : Prt).ok := ⟨hpo.1, hpo.2.1, hpo.2.2.1, hpo.2.2.2.1, isI2, hpo.2.2.2.2.2⟩
  unfold Sp.forwQ
  split
  · exact (h.changeP i now).setP hp ⟨rfl, rfl⟩ hq fun h => ⟨h.role, st2, h.age, h.reply⟩
  · exact h.setP hp ⟨rfl, rfl⟩ hq fun h => ⟨h.role, st2, h.age, h.reply⟩
theorem Sp.wf.holdP (h : s.wf) {i : Nat} {p : Prt} (hp : s.l[i]? = some p) {now : Int} (hn : momB now) : (s.setP i (holdP p now)).wf := by
  have hpo := h.l p (List.mem_of_getElem? hp)
  exact h.setP hp ⟨rfl, rfl⟩ ⟨hpo.1, hpo.2.1, hpo.2.2.1, hpo.2.2.2.1, isI0, isIm hn (by decide) (by decide)⟩ fun h => ⟨h.role, st0, h.age, h.reply⟩

end Go.Gx.S
end
