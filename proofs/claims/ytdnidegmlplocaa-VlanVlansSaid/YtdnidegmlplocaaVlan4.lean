/- What the statements on tables of VLANs ask is so. -/
import Derived.Test.YtdnidegmlplocaaVlan4T
import Derived.Test.YtdnidegmlplocaaVlan3
import Derived.Test.YtdnidegmlplocaaGxVlan2
set_option linter.unusedVariables false
set_option linter.unusedSimpArgs false
set_option maxRecDepth 100000
namespace Go.Gx.S
open Go Go.Gx Go.Proofs
variable {K : Value → World → Prop} {w : World}

theorem zalloc (w : World) : w.alloc (cellsO [Value.int IntKind.u8 0, Value.int IntKind.u8 0, Value.int IntKind.u8 0, Value.int IntKind.u8 0, Value.int IntKind.u8 0, Value.int IntKind.u8 0, Value.int IntKind.u8 0, Value.int IntKind.u8 0, Value.int IntKind.u8 0, Value.int IntKind.u8 0, Value.int IntKind.u8 0, Value.int IntKind.u8 0,
    Value.bool false, Value.int IntKind.i64 0, Value.int IntKind.i64 0, Value.int IntKind.i64 0, Value.slice none 0 0] 27) = w.alloc (cellsO zFrm.cells 27) := id rfl

theorem ok_steps {t : VT} (h : t.ok) (l : List Stp) : (vsteps t l).ok := by
  unfold vsteps
  induction l generalizing t with
  | nil => exact h
  | cons s l ih =>
    refine ih (?_ : (vstep t s).1.ok)
    unfold vstep
    split
    · exact VT.ok_add h _ _ _
    · split
      · exact VT.ok_remove h _ _
      · exact VT.ok_native h _ _

theorem out_one {t : VT} {v n : Int} {f : Frm} {bs : List Int} {m : Nat} (h : FrmR w f bs) : (t.out v n f m).1.cells.all S.oneCell = true := by
  have h1 := h.2.one
  unfold VT.out
  split
  · split
    · rfl
    · exact Frm.one _ h1
    · exact Frm.one _ h1
  · rfl
/-- a frame that goes out -/
theorem out_R {t : VT} {v n : Int} {f : Frm} {bs : List Int} {m : Nat} (h : FrmR w f bs) (hv : isI v) : ∃ cs, FrmR w (t.out v n f m).1 cs ∧ ((t.out v n f m).2 = 0 → cs = bs) := by
  unfold VT.out
  split
  · split
    · exact ⟨[], zFrmR w, fun h => by cases h⟩
    · exact ⟨bs, ⟨⟨h.1.1, h.1.2.1, hv, h.1.2.2.2.1, h.1.2.2.2.2⟩, h.2⟩, fun _ => rfl⟩
    · exact ⟨bs, ⟨⟨h.1.1, h.1.2.1, isI_iff.2 (by simp [Frm.untag]), isI_iff.2 (by simp [Frm.untag]), h.1.2.2.2.2⟩, h.2⟩, fun _ => rfl⟩
  · exact ⟨[], zFrmR w, fun h => by cases h⟩

theorem ia2_0 (b : Nat) : opS Try.prog (S.ia 28 (pt b 0) (.int .i64 0)) K w = K (pt b 0) w := opS_iaA (T := 28) (E := 3) (m := 2) (n := 1) b 0 .i64 0 (by decide)
theorem ia2_1 (b : Nat) : opS Try.prog (S.ia 28 (pt b 0) (.int .i64 1)) K w = K (pt b 1) w := opS_iaA (T := 28) (E := 3) (m := 2) (n := 1) b 0 .i64 1 (by decide)

theorem frames_law {lv : Value} {st : List Stp} {f : Frm} {bs : List Int} {x0 x1 : Int} (hl : RdE 4 w lv (st.map Stp.cells)) (hf : FrmR w f bs) (hx : isI x0 ∧ isI x1)
    (h : ∀ w', Fr none_ w w' → K (.bool true) w') : CallsR Try.prog 3 #[lv, .agg f.cells.toArray, .agg #[i64 x0, i64 x1]] K w := by
  apply c3
  unfold p3
  obtain ⟨a, c, hbd⟩ := hf.2.form
  have hF : Fr none_ w ((w.alloc (cellsO f.cells 27)).alloc (cellsO [i64 x0, i64 x1] 28)) := (by repeat' first | with_reducible exact Fr.refl _ _ | with_reducible refine Fr.step_alloc ?_ ?_ | with_reducible refine Fr.step_drew ?_ | with_reducible refine Fr.step_wr ?_ ?_ _ _ | exact rfl | exact Or.inr (by omega) | exact Or.inl rfl | exact Or.inl (Or.inl rfl) | exact Or.inl (Or.inr rfl))
  have h0 : ((w.alloc (cellsO f.cells 27)).alloc (cellsO [i64 x0, i64 x1] 28)).heap[w.heap.size]? = some (cellsO f.cells 27) := by simp only [push_cast, Nat.reduceAdd, Nat.reduceLeDiff, Nat.reduceLT, Int.reduceToNat, Nat.left_eq_add, Nat.add_eq_left, Nat.add_left_cancel_iff, Nat.reduceEqDiff, Nat.add_assoc, Nat.succ_ne_zero]
  have h1 : ((w.alloc (cellsO f.cells 27)).alloc (cellsO [i64 x0, i64 x1] 28)).heap[w.heap.size + 1]? = some (cellsO [i64 x0, i64 x1] 28) := by simp only [push_cast, Nat.reduceAdd, Nat.reduceLeDiff, Nat.reduceLT, Int.reduceToNat, Nat.left_eq_add, Nat.add_eq_left, Nat.add_left_cancel_iff, Nat.reduceEqDiff, Nat.add_assoc, Nat.succ_ne_zero]
  simp only [opS_box, cells_agg, alloc_cellsO, size_alloc]
  generalize (w.alloc (cellsO f.cells 27)).alloc (cellsO [i64 x0, i64 x1] 28) = W at *
  simp only [push_cast, Nat.reduceAdd, Nat.reduceLeDiff, Nat.reduceLT, Int.reduceToNat, Nat.left_eq_add, Nat.add_eq_left, Nat.add_left_cancel_iff, Nat.reduceEqDiff, Nat.add_assoc, Nat.succ_ne_zero]
  refine awake_spec fun w1 hF1 => ?_
  replace hF := hF.trans hF1
  simp only [push_cast, Nat.reduceAdd, Nat.reduceLeDiff, Nat.reduceLT, Int.reduceToNat, Nat.left_eq_add, Nat.add_eq_left, Nat.add_left_cancel_iff, Nat.reduceEqDiff, Nat.add_assoc, Nat.succ_ne_zero]
  refine made_spec (hl.fr hF (fun _ _ h => h)) (fun h => absurd ⟨by decide, by decide⟩ h) fun _ _ w2 p m nb q nc Lv hB hF2 hfp => ?_
  replace h0 := (hF1.trans hF2).heap h0 (fun h => h)
  replace h1 := (hF1.trans hF2).heap h1 (fun h => h)
  replace hF := hF.trans hF2
  clear hF1 hF2
  generalize vsteps _ _ = t at *
  have hex : ∀ w', Fr none_ w w' → jnJ 1 (fun x10 => K x10) (fun j0 => brn (.bool true) (j0 (.bool true)) (j0 (.bool false))) w' := fun w' hF => by
    rw [jn_1]
    simp only [push_cast, Nat.reduceAdd, Nat.reduceLeDiff, Nat.reduceLT, Int.reduceToNat, Nat.left_eq_add, Nat.add_eq_left, Nat.add_left_cancel_iff, Nat.reduceEqDiff, Nat.add_assoc, Nat.succ_ne_zero]
    exact h _ hF
  simp only [push_cast, Nat.reduceAdd, Nat.reduceLeDiff, Nat.reduceLT, Int.reduceToNat, Nat.left_eq_add, Nat.add_eq_left, Nat.add_left_cancel_iff, Nat.reduceEqDiff, Nat.add_assoc, Nat.succ_ne_zero]
  refine jn0 (fun w' => Fr none_ w w') (fun w' hF => hex w' hF) fun j hj => ?_
  simp only [push_cast, Nat.reduceAdd, Nat.reduceLeDiff, Nat.reduceLT, Int.reduceToNat, Nat.left_eq_add, Nat.add_eq_left, Nat.add_left_cancel_iff, Nat.reduceEqDiff, Nat.add_assoc, Nat.succ_ne_zero, h0, hbd]
  refine br_dec (fun _ => hj _ hF) fun hbl => ?_
  simp only [push_cast, Nat.reduceAdd, Nat.reduceLeDiff, Nat.reduceLT, Int.reduceToNat, Nat.left_eq_add, Nat.add_eq_left, Nat.add_left_cancel_iff, Nat.reduceEqDiff, Nat.add_assoc, Nat.succ_ne_zero, h0, h1, ia2_0, ia2_1]
  refine vin_spec hB.v (hf.fr0 hF) fun w3 hF3 => ?_
  replace h0 := hF3.heap h0 (fun h => h)
  replace h1 := hF3.heap h1 (fun h => h)
  replace hF := hF.trans hF3
  replace hB := hB.fr0 hF3
  simp only [push_cast, Nat.reduceAdd, Nat.reduceLeDiff, Nat.reduceLT, Int.reduceToNat, Nat.left_eq_add, Nat.add_eq_left, Nat.add_left_cancel_iff, Nat.reduceEqDiff, Nat.add_assoc, Nat.succ_ne_zero, h0, h1, ia2_0, ia2_1]
  refine rin_spec hB.r (hf.fr0 hF) fun w4 hF4 => ?_
  replace h0 := hF4.heap h0 (fun h => h)
  replace h1 := hF4.heap h1 (fun h => h)
  replace hF := hF.trans hF4
  replace hB := hB.fr0 hF4
  simp only [push_cast, Nat.reduceAdd, Nat.reduceLeDiff, Nat.reduceLT, Int.reduceToNat, Nat.left_eq_add, Nat.add_eq_left, Nat.add_left_cancel_iff, Nat.reduceEqDiff, Nat.add_assoc, Nat.succ_ne_zero, h0, h1, ia2_0, ia2_1]
  refine vout_spec hB.v (hf.fr0 hF) fun w5 hF5 => ?_
  replace h0 := hF5.heap h0 (fun h => h)
  replace h1 := hF5.heap h1 (fun h => h)
  replace hF := hF.trans hF5
  replace hB := hB.fr0 hF5
  obtain ⟨cs, hcs, _⟩ := out_R (t := t) (v := x0) (n := x1) (m := bs.length) (hf.fr0 hF) hx.1
  have ho := hcs.one
  have hlt0 := lt_of_heap h0
  have hlt1 := lt_of_heap h1
  have n0 : w.heap.size ≠ w5.heap.size := by omega
  have n1 : w.heap.size + 1 ≠ w5.heap.size := by omega
  have hF6 : Fr none_ w5 (wr (w5.alloc (cellsO zFrm.cells 27)) w5.heap.size 0 (t.out x0 x1 f bs.length).1.cells) := (by repeat' first | with_reducible exact Fr.refl _ _ | with_reducible refine Fr.step_alloc ?_ ?_ | with_reducible refine Fr.step_drew ?_ | with_reducible refine Fr.step_wr ?_ ?_ _ _ | exact rfl | exact Or.inr (by omega) | exact Or.inl rfl | exact Or.inl (Or.inl rfl) | exact Or.inl (Or.inr rfl))
  have h5 : (wr (w5.alloc (cellsO zFrm.cells 27)) w5.heap.size 0 (t.out x0 x1 f bs.length).1.cells).heap[w5.heap.size]? = some (cellsO (t.out x0 x1 f bs.length).1.cells 27) := by simp only [push_cast, Nat.reduceAdd, Nat.reduceLeDiff, Nat.reduceLT, Int.reduceToNat, Nat.left_eq_add, Nat.add_eq_left, Nat.add_left_cancel_iff, Nat.reduceEqDiff, Nat.add_assoc, Nat.succ_ne_zero]
  simp only [push_cast, Nat.reduceAdd, Nat.reduceLeDiff, Nat.reduceLT, Int.reduceToNat, Nat.left_eq_add, Nat.add_eq_left, Nat.add_left_cancel_iff, Nat.reduceEqDiff, Nat.add_assoc, Nat.succ_ne_zero, zalloc, ho, h0, h1, n0, n1, ia2_0, ia2_1]
  replace h0 := hF6.heap h0 (fun h => h)
  replace h1 := hF6.heap h1 (fun h => h)
  replace hF := hF.trans hF6
  replace hB := hB.fr0 hF6
  generalize wr (w5.alloc (cellsO zFrm.cells 27)) w5.heap.size 0 (t.out x0 x1 f bs.length).1.cells = W5 at *
  refine rout_spec hB.r (hf.fr0 hF) fun w6 hF7 => ?_
  replace h0 := hF7.heap h0 (fun h => h)
  replace h1 := hF7.heap h1 (fun h => h)
  replace h5 := hF7.heap h5 (fun h => h)
  replace hF := hF.trans hF7
  have hlt5 := lt_of_heap h5
  have n5 : w5.heap.size ≠ w6.heap.size := by omega
  have hF8 : Fr none_ w6 (wr (w6.alloc (cellsO zFrm.cells 27)) w6.heap.size 0 (t.out x0 x1 f bs.length).1.cells) := (by repeat' first | with_reducible exact Fr.refl _ _ | with_reducible refine Fr.step_alloc ?_ ?_ | with_reducible refine Fr.step_drew ?_ | with_reducible refine Fr.step_wr ?_ ?_ _ _ | exact rfl | exact Or.inr (by omega) | exact Or.inl rfl | exact Or.inl (Or.inl rfl) | exact Or.inl (Or.inr rfl))
  simp only [push_cast, Nat.reduceAdd, Nat.reduceLeDiff, Nat.reduceLT, Int.reduceToNat, Nat.left_eq_add, Nat.add_eq_left, Nat.add_left_cancel_iff, Nat.reduceEqDiff, Nat.add_assoc, Nat.succ_ne_zero, zalloc, ho, h5, n5]
  have hcs6 := hcs.fr0 ((hF6.trans hF7).trans hF8)
  refine same_spec hcs6 hcs6 fun w9 hF9 => ?_
  have eqb : ∀ n : Int, (n == n) = true := fun n => by simp
  simp only [push_cast, Nat.reduceAdd, Nat.reduceLeDiff, Nat.reduceLT, Int.reduceToNat, Nat.left_eq_add, Nat.add_eq_left, Nat.add_left_cancel_iff, Nat.reduceEqDiff, Nat.add_assoc, Nat.succ_ne_zero, eqb, and_self]
  exact h _ ((hF.trans hF8).trans hF9)

theorem native_law {lv : Value} {st : List Stp} {f : Frm} {bs : List Int} {n : Int} (hl : RdE 4 w lv (st.map Stp.cells)) (hf : FrmR w f bs)
    (h : ∀ w', Fr none_ w w' → K (.bool true) w') : CallsR Try.prog 4 #[lv, i64 n, .agg f.cells.toArray] K w := by
  apply c4
  unfold p4
  obtain ⟨a, c, hbd⟩ := hf.2.form
  have hF : Fr none_ w (w.alloc (cellsO f.cells 27)) := (by repeat' first | with_reducible exact Fr.refl _ _ | with_reducible refine Fr.step_alloc ?_ ?_ | with_reducible refine Fr.step_drew ?_ | with_reducible refine Fr.step_wr ?_ ?_ _ _ | exact rfl | exact Or.inr (by omega) | exact Or.inl rfl | exact Or.inl (Or.inl rfl) | exact Or.inl (Or.inr rfl))
  have h0 : (w.alloc (cellsO f.cells 27)).heap[w.heap.size]? = some (cellsO f.cells 27) := by simp only [push_cast, Nat.reduceAdd, Nat.reduceLeDiff, Nat.reduceLT, Int.reduceToNat, Nat.left_eq_add, Nat.add_eq_left, Nat.add_left_cancel_iff, Nat.reduceEqDiff, Nat.add_assoc, Nat.succ_ne_zero]
  simp only [opS_box, cells_agg, alloc_cellsO, size_alloc]
  generalize w.alloc (cellsO f.cells 27) = W at *
  simp only [push_cast, Nat.reduceAdd, Nat.reduceLeDiff, Nat.reduceLT, Int.reduceToNat, Nat.left_eq_add, Nat.add_eq_left, Nat.add_left_cancel_iff, Nat.reduceEqDiff, Nat.add_assoc, Nat.succ_ne_zero]
  refine awake_spec fun w1 hF1 => ?_
  replace hF := hF.trans hF1
  simp only [push_cast, Nat.reduceAdd, Nat.reduceLeDiff, Nat.reduceLT, Int.reduceToNat, Nat.left_eq_add, Nat.add_eq_left, Nat.add_left_cancel_iff, Nat.reduceEqDiff, Nat.add_assoc, Nat.succ_ne_zero]
  refine made_spec (hl.fr hF (fun _ _ h => h)) (fun h => absurd ⟨by decide, by decide⟩ h) fun _ _ w2 p m nb q nc Lv hB hF2 hfp => ?_
  replace h0 := (hF1.trans hF2).heap h0 (fun h => h)
  have hsz1 := hF.size
  replace hF := hF.trans hF2
  clear hF1 hF2
  have hok := ok_steps (VT.ok_new (n := (Int.toNat 5)) (by decide)) (st.take 100)
  generalize vsteps _ _ = t at *
  have hex : ∀ w', Fr none_ w w' → jnJ 1 (fun x10 => K x10) (fun j0 => brn (.bool true) (j0 (.bool true)) (j0 (.bool false))) w' := fun w' hF => by
    rw [jn_1]
    simp only [push_cast, Nat.reduceAdd, Nat.reduceLeDiff, Nat.reduceLT, Int.reduceToNat, Nat.left_eq_add, Nat.add_eq_left, Nat.add_left_cancel_iff, Nat.reduceEqDiff, Nat.add_assoc, Nat.succ_ne_zero]
    exact h _ hF
  simp only [push_cast, Nat.reduceAdd, Nat.reduceLeDiff, Nat.reduceLT, Int.reduceToNat, Nat.left_eq_add, Nat.add_eq_left, Nat.add_left_cancel_iff, Nat.reduceEqDiff, Nat.add_assoc, Nat.succ_ne_zero]
  refine jn0 (fun w' => Fr none_ w w') (fun w' hF => hex w' hF) fun j hj => ?_
  simp only [push_cast, Nat.reduceAdd, Nat.reduceLeDiff, Nat.reduceLT, Int.reduceToNat, Nat.left_eq_add, Nat.add_eq_left, Nat.add_left_cancel_iff, Nat.reduceEqDiff, Nat.add_assoc, Nat.succ_ne_zero, h0, hbd]
  refine br_dec (fun _ => hj _ hF) fun hbl => ?_
  have g1 : f.untag.cells.all S.oneCell = true := Frm.one _ hf.2.one
  have g2 := hf.one
  have hlt0 := lt_of_heap h0
  have n0 : w.heap.size ≠ w2.heap.size := by omega
  have n0' : w.heap.size ≠ w2.heap.size + 1 := by omega
  have e1 : ({ ({ ({ f with tagged := false } : Frm) with vlan := 0 } : Frm) with prio := 0 } : Frm) = f.untag := rfl
  simp only [push_cast, Nat.reduceAdd, Nat.reduceLeDiff, Nat.reduceLT, Int.reduceToNat, Nat.left_eq_add, Nat.add_eq_left, Nat.add_left_cancel_iff, Nat.reduceEqDiff, Nat.add_assoc, Nat.succ_ne_zero, h0, zalloc, g1, g2, e1, n0, n0']
  refine at_w (fun W => Fr none_ w2 W ∧ W.heap[w2.heap.size]? = some (cellsO f.untag.cells 27) ∧ W.heap[w2.heap.size + 1]? = some (cellsO ({ f.untag with tagged := true } : Frm).cells 27))
    ⟨(by repeat' first | with_reducible exact Fr.refl _ _ | with_reducible refine Fr.step_alloc ?_ ?_ | with_reducible refine Fr.step_drew ?_ | with_reducible refine Fr.step_wr ?_ ?_ _ _ | exact rfl | exact Or.inr (by omega) | exact Or.inl rfl | exact Or.inl (Or.inl rfl) | exact Or.inl (Or.inr rfl)), by simp only [push_cast, Nat.reduceAdd, Nat.reduceLeDiff, Nat.reduceLT, Int.reduceToNat, Nat.left_eq_add, Nat.add_eq_left, Nat.add_left_cancel_iff, Nat.reduceEqDiff, Nat.add_assoc, Nat.succ_ne_zero]; rfl, by simp only [push_cast, Nat.reduceAdd, Nat.reduceLeDiff, Nat.reduceLT, Int.reduceToNat, Nat.left_eq_add, Nat.add_eq_left, Nat.add_left_cancel_iff, Nat.reduceEqDiff, Nat.add_assoc, Nat.succ_ne_zero]⟩ ?_
  rintro W3 ⟨hF3, h3, h4⟩
  have hg : FrmR w f.untag bs := ⟨⟨hf.1.1, hf.1.2.1, isI_iff.2 (by simp [Frm.untag]), isI_iff.2 (by simp [Frm.untag]), hf.1.2.2.2.2⟩, hf.2⟩
  have hh : FrmR w ({ f.untag with tagged := true } : Frm) bs := ⟨⟨hf.1.1, hf.1.2.1, isI_iff.2 (by simp [Frm.untag]), isI_iff.2 (by simp [Frm.untag]), hf.1.2.2.2.2⟩, hf.2⟩
  refine vin_spec (hB.v.fr0 hF3) (hg.fr0 (hF.trans hF3)) fun w4 hF4 => ?_
  replace h3 := hF4.heap h3 (fun h => h)
  replace h4 := hF4.heap h4 (fun h => h)
  simp only [push_cast, Nat.reduceAdd, Nat.reduceLeDiff, Nat.reduceLT, Int.reduceToNat, Nat.left_eq_add, Nat.add_eq_left, Nat.add_left_cancel_iff, Nat.reduceEqDiff, Nat.add_assoc, Nat.succ_ne_zero, h3, h4]
  refine vin_spec (hB.v.fr0 (hF3.trans hF4)) (hh.fr0 (hF.trans (hF3.trans hF4))) fun w5 hF5 => ?_
  replace h3 := hF5.heap h3 (fun h => h)
  simp only [push_cast, Nat.reduceAdd, Nat.reduceLeDiff, Nat.reduceLT, Int.reduceToNat, Nat.left_eq_add, Nat.add_eq_left, Nat.add_left_cancel_iff, Nat.reduceEqDiff, Nat.add_assoc, Nat.succ_ne_zero]
  refine vnative_spec (hB.v.fr0 ((hF3.trans hF4).trans hF5)) fun w6 hv6 hF6 => ?_
  have hvl := hB.v.lt
  have hF6' : Fr none_ w w6 := (hF.trans ((hF3.trans hF4).trans hF5)).trans_new hF6 (fun b hb h => by have := hfp b (.inl h); omega)
  replace h3 := hF6.heap h3 (fun h => by unfold vfp at h; omega)
  simp only [push_cast, Nat.reduceAdd, Nat.reduceLeDiff, Nat.reduceLT, Int.reduceToNat, Nat.left_eq_add, Nat.add_eq_left, Nat.add_left_cancel_iff, Nat.reduceEqDiff, Nat.add_assoc, Nat.succ_ne_zero, h3]
  refine vin_spec hv6 (hg.fr0 hF6') fun w7 hF7 => ?_
  have hK := h _ (hF6'.trans hF7)
  have e2 : t.inn n ({ f.untag with tagged := true } : Frm) bs.length = t.inn n f.untag bs.length := by
    unfold VT.inn
    have : ({ f.untag with tagged := true } : Frm).right bs.length = f.untag.right bs.length := by
      unfold Frm.right Frm.untag
      simp
    rw [this]
  rw [e2]
  have e3 := VT.native_none hok n f.untag rfl bs.length
  obtain ⟨e4, e5, e6⟩ := e3
  have b1 : ∀ n : Int, (n == n) = true := fun n => by simp
  have b2 : (((t.native n 0).1.inn n f.untag bs.length).1 == 0) = true := by rw [e4]; rfl
  have b3 : (((t.native n 0).1.inn n f.untag bs.length).2 != 0) = true := by simpa using e5
  simp only [push_cast, Nat.reduceAdd, Nat.reduceLeDiff, Nat.reduceLT, Int.reduceToNat, Nat.left_eq_add, Nat.add_eq_left, Nat.add_left_cancel_iff, Nat.reduceEqDiff, Nat.add_assoc, Nat.succ_ne_zero, b1, b2, b3]
  refine br_intro (fun _ => hK) fun h8 => ?_
  have b4 : ((t.native n 0).2 == 0) = true := by
    rcases e6 with e6 | e6
    · rw [e6] at h8; cases h8
    · rw [e6]; rfl
  rw [b4]
  exact hK

theorem apart_law {lv : Value} {st : List Stp} {s : Stp} {v : Int} (hl : RdE 4 w lv (st.map Stp.cells)) (hs : s.ok) (hv : isI v)
    (h : ∀ w', Fr none_ w w' → K (.bool true) w') : CallsR Try.prog 6 #[lv, i64 v, .agg s.cells.toArray] K w := by
  apply c6
  unfold p6
  have hF : Fr none_ w (w.alloc (cellsO s.cells 46)) := (by repeat' first | with_reducible exact Fr.refl _ _ | with_reducible refine Fr.step_alloc ?_ ?_ | with_reducible refine Fr.step_drew ?_ | with_reducible refine Fr.step_wr ?_ ?_ _ _ | exact rfl | exact Or.inr (by omega) | exact Or.inl rfl | exact Or.inl (Or.inl rfl) | exact Or.inl (Or.inr rfl))
  have h0 : (w.alloc (cellsO s.cells 46)).heap[w.heap.size]? = some (cellsO s.cells 46) := by simp only [push_cast, Nat.reduceAdd, Nat.reduceLeDiff, Nat.reduceLT, Int.reduceToNat, Nat.left_eq_add, Nat.add_eq_left, Nat.add_left_cancel_iff, Nat.reduceEqDiff, Nat.add_assoc, Nat.succ_ne_zero]
  simp only [opS_box, cells_agg, alloc_cellsO, size_alloc]
  generalize w.alloc (cellsO s.cells 46) = W at *
  simp only [push_cast, Nat.reduceAdd, Nat.reduceLeDiff, Nat.reduceLT, Int.reduceToNat, Nat.left_eq_add, Nat.add_eq_left, Nat.add_left_cancel_iff, Nat.reduceEqDiff, Nat.add_assoc, Nat.succ_ne_zero]
  refine awake_spec fun w1 hF1 => ?_
  replace hF := hF.trans hF1
  have hsz1 := hF.size
  simp only [push_cast, Nat.reduceAdd, Nat.reduceLeDiff, Nat.reduceLT, Int.reduceToNat, Nat.left_eq_add, Nat.add_eq_left, Nat.add_left_cancel_iff, Nat.reduceEqDiff, Nat.add_assoc, Nat.succ_ne_zero]
  refine made_spec (hl.fr hF (fun _ _ h => h)) (fun h => absurd ⟨by decide, by decide⟩ h) fun _ _ w2 p m nb q nc Lv hB hF2 hfp => ?_
  replace h0 := (hF1.trans hF2).heap h0 (fun h => h)
  replace hF := hF.trans hF2
  clear hF1 hF2
  generalize vsteps _ _ = t at *
  have hex : ∀ w', Fr none_ w w' → jnJ 1 (fun x10 => K x10) (fun j0 => brn (.bool true) (j0 (.bool true)) (j0 (.bool false))) w' := fun w' hF => by
    rw [jn_1]
    simp only [push_cast, Nat.reduceAdd, Nat.reduceLeDiff, Nat.reduceLT, Int.reduceToNat, Nat.left_eq_add, Nat.add_eq_left, Nat.add_left_cancel_iff, Nat.reduceEqDiff, Nat.add_assoc, Nat.succ_ne_zero]
    exact h _ hF
  simp only [push_cast, Nat.reduceAdd, Nat.reduceLeDiff, Nat.reduceLT, Int.reduceToNat, Nat.left_eq_add, Nat.add_eq_left, Nat.add_left_cancel_iff, Nat.reduceEqDiff, Nat.add_assoc, Nat.succ_ne_zero]
  refine jn0 (fun w' => Fr none_ w w') (fun w' hF => hex w' hF) fun j hj => ?_
  simp only [push_cast, Nat.reduceAdd, Nat.reduceLeDiff, Nat.reduceLT, Int.reduceToNat, Nat.left_eq_add, Nat.add_eq_left, Nat.add_left_cancel_iff, Nat.reduceEqDiff, Nat.add_assoc, Nat.succ_ne_zero, h0, Stp.g0, Stp.g1, Stp.g2, Stp.g3]
  refine br_intro (fun _ => hj _ hF) fun hne => ?_
  have hne : s.vlan ≠ v := by simpa using hne
  refine vmembers_spec hB.v hv fun w3 x hx hF3 hNx => ?_
  replace h0 := hF3.heap h0 (fun h => h)
  have hv3 := hB.v.fr0 hF3
  have hvl := hB.v.lt
  have hsh := VT.small hB.v.ok
  simp only [push_cast, Nat.reduceAdd, Nat.reduceLeDiff, Nat.reduceLT, Int.reduceToNat, Nat.left_eq_add, Nat.add_eq_left, Nat.add_left_cancel_iff, Nat.reduceEqDiff, Nat.add_assoc, Nat.succ_ne_zero, h0, Stp.g0, Stp.g1, Stp.g2, Stp.g3]
  have hlen : (t.members v).length < 2 ^ 62 := by
    have h1 := hB.v.ok.len
    have : (t.members v).length ≤ t.nat.length := by
      unfold VT.members
      refine Nat.le_trans (List.length_filter_le _ _) ?_
      simp
    omega
  have key : ∀ t' w4, VRep w4 p m nb t' → t'.members v = t.members v → Fr (vfp p m nb) w3 w4 → opS Try.prog (S.cl 18 [pt p 0, i64 v]) (fun x26 => opS Try.prog (S.cl 21 [x26, x]) fun x27 => K x27) w4 := by
    intro t' w4 hv4 hm hF4
    simp only [push_cast, Nat.reduceAdd, Nat.reduceLeDiff, Nat.reduceLT, Int.reduceToNat, Nat.left_eq_add, Nat.add_eq_left, Nat.add_left_cancel_iff, Nat.reduceEqDiff, Nat.add_assoc, Nat.succ_ne_zero]
    refine vmembers_spec hv4 hv fun w5 y hy hF5 hNy => ?_
    simp only [push_cast, Nat.reduceAdd, Nat.reduceLeDiff, Nat.reduceLT, Int.reduceToNat, Nat.left_eq_add, Nat.add_eq_left, Nat.add_left_cancel_iff, Nat.reduceEqDiff, Nat.add_assoc, Nat.succ_ne_zero]
    have hx5 : RdE 1 w5 x _ := (hx.rd.fr hF4 (fun b hb e => by have := hNx b hb; unfold vfp at e; omega)).fr hF5 (fun _ _ h => h)
    refine sameints_spec hy.rd hx5 (by rw [hm]; exact hlen) fun w6 hF6 => ?_
    rw [hm, decide_eq_true rfl]
    exact h _ (((hF.trans hF3).trans_new hF4 (fun b hb e => by have := hfp b (.inl e); omega)).trans (hF5.trans hF6))
  simp only [push_cast, Nat.reduceAdd, Nat.reduceLeDiff, Nat.reduceLT, Int.reduceToNat, Nat.left_eq_add, Nat.add_eq_left, Nat.add_left_cancel_iff, Nat.reduceEqDiff, Nat.add_assoc, Nat.succ_ne_zero] at key
  refine br_intro (fun e0 => ?_) fun e0 => ?_
  · refine vadd_spec hv3 fun w4 hv4 hF4 => ?_
    simp only [push_cast, Nat.reduceAdd, Nat.reduceLeDiff, Nat.reduceLT, Int.reduceToNat, Nat.left_eq_add, Nat.add_eq_left, Nat.add_left_cancel_iff, Nat.reduceEqDiff, Nat.add_assoc, Nat.succ_ne_zero]
    exact key _ _ hv4 (VT.members_add hne) hF4
  · refine br_intro (fun e1 => ?_) fun e1 => ?_
    · refine vremove_spec hv3 fun w4 hv4 hF4 => ?_
      simp only [push_cast, Nat.reduceAdd, Nat.reduceLeDiff, Nat.reduceLT, Int.reduceToNat, Nat.left_eq_add, Nat.add_eq_left, Nat.add_left_cancel_iff, Nat.reduceEqDiff, Nat.add_assoc, Nat.succ_ne_zero]
      exact key _ _ hv4 (VT.members_remove hne) hF4
    · refine vnative_spec hv3 fun w4 hv4 hF4 => ?_
      simp only [push_cast, Nat.reduceAdd, Nat.reduceLeDiff, Nat.reduceLT, Int.reduceToNat, Nat.left_eq_add, Nat.add_eq_left, Nat.add_left_cancel_iff, Nat.reduceEqDiff, Nat.add_assoc, Nat.succ_ne_zero]
      exact key _ _ hv4 (VT.members_native _ _ _) hF4

end Go.Gx.S
