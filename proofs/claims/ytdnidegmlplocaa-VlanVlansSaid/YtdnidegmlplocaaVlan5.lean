/- What comes in at one member goes out at another one; what was said last of a member counts. -/
import Derived.Test.YtdnidegmlplocaaVlan5T
import Derived.Test.YtdnidegmlplocaaVlan4
set_option linter.unusedVariables false
set_option linter.unusedSimpArgs false
set_option maxRecDepth 100000
namespace Go.Gx.S
open Go Go.Gx Go.Proofs
variable {K : Value → World → Prop} {w : World}

theorem members_short {t : VT} (h : t.ok) (v : Int) : (t.members v).length ≤ 64 := by
  have h1 := h.len
  have : (t.members v).length ≤ t.nat.length := by
    unfold VT.members
    refine Nat.le_trans (List.length_filter_le _ _) ?_
    simp
  omega

theorem through_law {lv : Value} {st : List Stp} {f : Frm} {bs : List Int} {x0 x1 : Int} (hl : RdE 4 w lv (st.map Stp.cells)) (hf : FrmR w f bs) (hx : isI x0 ∧ isI x1)
    (h : ∀ w', Fr none_ w w' → K (.bool true) w') : CallsR Try.prog 5 #[lv, .agg f.cells.toArray, .agg #[i64 x0, i64 x1]] K w := by
  apply c5
  unfold p5
  obtain ⟨a, c, hbd⟩ := hf.2.form
  have hF : Fr none_ w ((w.alloc (cellsO f.cells 27)).alloc (cellsO [i64 x0, i64 x1] 28)) := (by repeat' first | with_reducible exact Fr.refl _ _ | with_reducible refine Fr.step_alloc ?_ ?_ | with_reducible refine Fr.step_drew ?_ | with_reducible refine Fr.step_wr ?_ ?_ _ _ | exact rfl | exact Or.inr (by omega) | exact Or.inl rfl | exact Or.inl (Or.inl rfl) | exact Or.inl (Or.inr rfl))
  have h0 : ((w.alloc (cellsO f.cells 27)).alloc (cellsO [i64 x0, i64 x1] 28)).heap[w.heap.size]? = some (cellsO f.cells 27) := by simp only [push_cast, Nat.reduceAdd, Nat.reduceLeDiff, Nat.reduceLT, Int.reduceToNat, Nat.left_eq_add, Nat.add_eq_left, Nat.add_left_cancel_iff, Nat.reduceEqDiff, Nat.add_assoc, Nat.succ_ne_zero]
  have h1 : ((w.alloc (cellsO f.cells 27)).alloc (cellsO [i64 x0, i64 x1] 28)).heap[w.heap.size + 1]? = some (cellsO [i64 x0, i64 x1] 28) := by simp only [push_cast, Nat.reduceAdd, Nat.reduceLeDiff, Nat.reduceLT, Int.reduceToNat, Nat.left_eq_add, Nat.add_eq_left, Nat.add_left_cancel_iff, Nat.reduceEqDiff, Nat.add_assoc, Nat.succ_ne_zero]
  simp only [opS_box, cells_agg, alloc_cellsO, size_alloc]
  generalize (w.alloc (cellsO f.cells 27)).alloc (cellsO [i64 x0, i64 x1] 28) = W at *
  simp only [push_cast, Nat.reduceAdd, Nat.reduceLeDiff, Nat.reduceLT, Int.reduceToNat, Nat.left_eq_add, Nat.add_eq_left, Nat.add_left_cancel_iff, Nat.reduceEqDiff, Nat.add_assoc, Nat.succ_ne_zero]
  refine awake_spec fun w1 hF1 => ?_
  replace hF := hF.trans hF1
  have hsz1 := hF.size
  have hold : w.heap.size + 1 < w1.heap.size := lt_of_heap (hF1.heap h1 (fun h => h))
  simp only [push_cast, Nat.reduceAdd, Nat.reduceLeDiff, Nat.reduceLT, Int.reduceToNat, Nat.left_eq_add, Nat.add_eq_left, Nat.add_left_cancel_iff, Nat.reduceEqDiff, Nat.add_assoc, Nat.succ_ne_zero]
  refine made_spec (hl.fr hF (fun _ _ h => h)) (fun h => absurd ⟨by decide, by decide⟩ h) fun _ _ w2 p m nb q nc Lv hB hF2 hfp => ?_
  replace h0 := (hF1.trans hF2).heap h0 (fun h => h)
  replace h1 := (hF1.trans hF2).heap h1 (fun h => h)
  replace hF := hF.trans hF2
  clear hF1 hF2
  have hok := ok_steps (VT.ok_new (n := (Int.toNat 5)) (by decide)) (st.take 100)
  generalize vsteps _ _ = t at *
  have hex : ∀ w', Fr none_ w w' → jnJ 1 (fun x10 => K x10) (fun j0 => brn (.bool true) (j0 (.bool true)) (j0 (.bool false))) w' := fun w' hF => by
    rw [jn_1]
    simp only [push_cast, Nat.reduceAdd, Nat.reduceLeDiff, Nat.reduceLT, Int.reduceToNat, Nat.left_eq_add, Nat.add_eq_left, Nat.add_left_cancel_iff, Nat.reduceEqDiff, Nat.add_assoc, Nat.succ_ne_zero]
    exact h _ hF
  simp only [push_cast, Nat.reduceAdd, Nat.reduceLeDiff, Nat.reduceLT, Int.reduceToNat, Nat.left_eq_add, Nat.add_eq_left, Nat.add_left_cancel_iff, Nat.reduceEqDiff, Nat.add_assoc, Nat.succ_ne_zero]
  refine jn0 (fun w' => Fr none_ w w') (fun w' hF => hex w' hF) fun j hj => ?_
  simp only [push_cast, Nat.reduceAdd, Nat.reduceLeDiff, Nat.reduceLT, Int.reduceToNat, Nat.left_eq_add, Nat.add_eq_left, Nat.add_left_cancel_iff, Nat.reduceEqDiff, Nat.add_assoc, Nat.succ_ne_zero, h0, hbd]
  refine br_dec (fun _ => hj _ hF) fun hbl => ?_
  simp only [push_cast, Nat.reduceAdd, Nat.reduceLeDiff, Nat.reduceLT, Int.reduceToNat, Nat.left_eq_add, Nat.add_eq_left, Nat.add_left_cancel_iff, Nat.reduceEqDiff, Nat.add_assoc, Nat.succ_ne_zero, h0, h1, ia2_0, ia2_1]
  refine vin_spec hB.v (hf.fr0 hF) fun w3 hF3 => ?_
  replace h0 := hF3.heap h0 (fun h => h)
  replace h1 := hF3.heap h1 (fun h => h)
  replace hF := hF.trans hF3
  replace hB := hB.fr0 hF3
  simp only [push_cast, Nat.reduceAdd, Nat.reduceLeDiff, Nat.reduceLT, Int.reduceToNat, Nat.left_eq_add, Nat.add_eq_left, Nat.add_left_cancel_iff, Nat.reduceEqDiff, Nat.add_assoc, Nat.succ_ne_zero]
  refine br_intro (fun he => ?_) fun he => ?_
  · have he : (t.inn x0 f bs.length).2 ≠ 0 := by simpa using he
    have := VT.inn_none he
    rw [this]
    exact h _ hF
  have he : (t.inn x0 f bs.length).2 = 0 := by simpa using he
  obtain ⟨hp0, hr, hi0⟩ := VT.inn_some he
  generalize (t.inn x0 f bs.length).1 = v at *
  have hr0 := VT.is_right hok hi0
  have hvi : isI v := (right_isI hok hr0).1
  refine vmembers_spec hB.v hvi fun w4 x hx4 hF4 hNx => ?_
  replace h0 := hF4.heap h0 (fun h => h)
  replace h1 := hF4.heap h1 (fun h => h)
  replace hF := hF.trans hF4
  replace hB := hB.fr0 hF4
  have hshort := members_short hok v
  obtain ⟨xa, xc, rfl⟩ := hx4.rd.form
  rw [List.length_map] at hx4 ⊢
  refine jn1 (fun y w' => y = .bool (decide (x1 ∈ t.members v)) ∧ Fr none_ w4 w') ?_ fun jj hjj => ?_
  · rintro y w5 ⟨rfl, hF5⟩
    replace h0 := hF5.heap h0 (fun h => h)
    replace h1 := hF5.heap h1 (fun h => h)
    replace hF := hF.trans hF5
    replace hB := hB.fr0 hF5
    simp only [push_cast, Nat.reduceAdd, Nat.reduceLeDiff, Nat.reduceLT, Int.reduceToNat, Nat.left_eq_add, Nat.add_eq_left, Nat.add_left_cancel_iff, Nat.reduceEqDiff, Nat.add_assoc, Nat.succ_ne_zero, h0, h1, ia2_0, ia2_1]
    refine vout_spec hB.v (hf.fr0 hF) fun w6 hF6 => ?_
    replace h0 := hF6.heap h0 (fun h => h)
    replace h1 := hF6.heap h1 (fun h => h)
    replace hF := hF.trans hF6
    replace hB := hB.fr0 hF6
    have hvl6 := hB.v.lt
    obtain ⟨cs, hcs, hcb⟩ := out_R (t := t) (v := v) (n := x1) (m := bs.length) (hf.fr0 hF) hvi
    have ho := hcs.one
    have hlt0 := lt_of_heap h0
    have hlt1 := lt_of_heap h1
    have n0 : w.heap.size ≠ w6.heap.size := by omega
    have n1 : w.heap.size + 1 ≠ w6.heap.size := by omega
    simp only [push_cast, Nat.reduceAdd, Nat.reduceLeDiff, Nat.reduceLT, Int.reduceToNat, Nat.left_eq_add, Nat.add_eq_left, Nat.add_left_cancel_iff, Nat.reduceEqDiff, Nat.add_assoc, Nat.succ_ne_zero, zalloc, ho]
    have hF7 : Fr none_ w6 (wr (w6.alloc (cellsO zFrm.cells 27)) w6.heap.size 0 (t.out v x1 f bs.length).1.cells) := (by repeat' first | with_reducible exact Fr.refl _ _ | with_reducible refine Fr.step_alloc ?_ ?_ | with_reducible refine Fr.step_drew ?_ | with_reducible refine Fr.step_wr ?_ ?_ _ _ | exact rfl | exact Or.inr (by omega) | exact Or.inl rfl | exact Or.inl (Or.inl rfl) | exact Or.inl (Or.inr rfl))
    have h7 : (wr (w6.alloc (cellsO zFrm.cells 27)) w6.heap.size 0 (t.out v x1 f bs.length).1.cells).heap[w6.heap.size]? = some (cellsO (t.out v x1 f bs.length).1.cells 27) := by simp only [push_cast, Nat.reduceAdd, Nat.reduceLeDiff, Nat.reduceLT, Int.reduceToNat, Nat.left_eq_add, Nat.add_eq_left, Nat.add_left_cancel_iff, Nat.reduceEqDiff, Nat.add_assoc, Nat.succ_ne_zero]
    generalize wr (w6.alloc (cellsO zFrm.cells 27)) w6.heap.size 0 (t.out v x1 f bs.length).1.cells = W7 at *
    replace h0 := hF7.heap h0 (fun h => h)
    replace h1 := hF7.heap h1 (fun h => h)
    replace hF := hF.trans hF7
    replace hB := hB.fr0 hF7
    replace hcs := hcs.fr0 hF7
    refine br_intro (fun hh => ?_) fun hh => ?_
    · have hh : (t.out v x1 f bs.length).2 ≠ 0 := by simpa using hh
      have hnm : x1 ∉ t.members v := fun hm => hh (VT.out_is ⟨hr0.1, hr0.2.1, (VT.mem_members.1 hm).1⟩ hr (VT.mem_members.1 hm).2)
      rw [decide_eq_false hnm]
      simp only [jn_1, push_cast, Nat.reduceAdd, Nat.reduceLeDiff, Nat.reduceLT, Int.reduceToNat, Nat.left_eq_add, Nat.add_eq_left, Nat.add_left_cancel_iff, Nat.reduceEqDiff, Nat.add_assoc, Nat.succ_ne_zero]
      exact h _ hF
    have hh : (t.out v x1 f bs.length).2 = 0 := by simpa using hh
    obtain ⟨hr1, _, hcase⟩ := VT.out_some hh
    have hi1 : t.is v x1 = true := by
      unfold VT.is
      rcases hcase with ⟨e, _⟩ | ⟨e, _⟩ <;> rw [e] <;> rfl
    have hm : x1 ∈ t.members v := VT.mem_members.2 ⟨hr1.2.2, hi1⟩
    rw [decide_eq_true hm]
    obtain rfl := hcb hh
    generalize (t.out v x1 f cs.length).1 = g at *
    simp only [push_cast, Nat.reduceAdd, Nat.reduceLeDiff, Nat.reduceLT, Int.reduceToNat, Nat.left_eq_add, Nat.add_eq_left, Nat.add_left_cancel_iff, Nat.reduceEqDiff, Nat.add_assoc, Nat.succ_ne_zero, h1, h7, ia2_1]
    refine vin_spec hB.v hcs fun w8 hF8 => ?_
    replace h0 := hF8.heap h0 (fun h => h)
    replace h1 := hF8.heap h1 (fun h => h)
    replace h7 := hF8.heap h7 (fun h => h)
    replace hF := hF.trans hF8
    replace hB := hB.fr0 hF8
    replace hcs := hcs.fr0 hF8
    have b1 : ∀ n : Int, (n == n) = true := fun n => by simp
    rcases hcase with ⟨e, rfl⟩ | ⟨e, rfl⟩
    · have g1 : (f.tag v f.prio).tagged = true := rfl
      have g2 : (f.tag v f.prio).vlan = v := rfl
      have g3 : (f.tag v f.prio).prio = f.prio := rfl
      rw [VT.back_tag hr1 hr hi1]
      have b2 : ((0 : Int) == 0) = true := rfl
      simp only [push_cast, Nat.reduceAdd, Nat.reduceLeDiff, Nat.reduceLT, Int.reduceToNat, Nat.left_eq_add, Nat.add_eq_left, Nat.add_left_cancel_iff, Nat.reduceEqDiff, Nat.add_assoc, Nat.succ_ne_zero, h7, h0, g1, g2, g3, jn_1, b1, b2]
      exact h _ hF
    · have g1 : f.untag.tagged = false := rfl
      have g2 : f.untag.vlan = 0 := rfl
      simp only [push_cast, Nat.reduceAdd, Nat.reduceLeDiff, Nat.reduceLT, Int.reduceToNat, Nat.left_eq_add, Nat.add_eq_left, Nat.add_left_cancel_iff, Nat.reduceEqDiff, Nat.add_assoc, Nat.succ_ne_zero, h7, h0, h1, ia2_1, g1]
      refine vnative_spec hB.v fun w9 hv9 hF9 => ?_
      have hvl := hB.v.lt
      have hne : ∀ b, vfp p m nb b → w1.heap.size ≤ b := fun b hb => hfp b (.inl hb)
      have hF9' : Fr none_ w w9 := hF.trans_new hF9 (fun b hb hh => by have := hne b hh; omega)
      replace h1 := hF9.heap h1 (fun hh => by have := hne _ hh; omega)
      replace h7 := hF9.heap h7 (fun hh => by unfold vfp at hh; omega)
      simp only [push_cast, Nat.reduceAdd, Nat.reduceLeDiff, Nat.reduceLT, Int.reduceToNat, Nat.left_eq_add, Nat.add_eq_left, Nat.add_left_cancel_iff, Nat.reduceEqDiff, Nat.add_assoc, Nat.succ_ne_zero, h7, h1, ia2_1]
      have hcs9 : FrmR w f.untag cs := ⟨⟨hf.1.1, hf.1.2.1, isI_iff.2 (by simp [Frm.untag]), isI_iff.2 (by simp [Frm.untag]), hf.1.2.2.2.2⟩, hf.2⟩
      refine vin_spec hv9 (hcs9.fr0 hF9') fun w10 hF10 => ?_
      replace h7 := hF10.heap h7 (fun h => h)
      rw [VT.back_untag hr1 hr hi1]
      have b2 : ((0 : Int) == 0) = true := rfl
      simp only [push_cast, Nat.reduceAdd, Nat.reduceLeDiff, Nat.reduceLT, Int.reduceToNat, Nat.left_eq_add, Nat.add_eq_left, Nat.add_left_cancel_iff, Nat.reduceEqDiff, Nat.add_assoc, Nat.succ_ne_zero, h7, b1, b2, g2]
      exact h _ (hF9'.trans hF10)
  · refine loop2 (fun k y z w' => ∃ i : Nat, y = .bool (decide (x1 ∈ (t.members v).take i)) ∧ z = i64 i ∧ i + k = (t.members v).length ∧ Fr none_ w4 w') ?_ (t.members v).length ⟨0, by simp, rfl, by omega, Fr.refl _ _⟩
    rintro k y z w' X ⟨i, rfl, rfl, hi, hF'⟩ hX
    simp only [push_cast, Nat.reduceAdd, Nat.reduceLeDiff, Nat.reduceLT, Int.reduceToNat, Nat.left_eq_add, Nat.add_eq_left, Nat.add_left_cancel_iff, Nat.reduceEqDiff, Nat.add_assoc, Nat.succ_ne_zero]
    refine br_dec (fun hlt => ?_) fun hge => hjj _ _ ⟨by rw [List.take_of_length_le (by omega)], hF'⟩
    have hi2 : i < (t.members v).length := by omega
    have hw : IntKind.i64.wrap ((i : Int) + 1) = ((i + 1 : Nat) : Int) := by rw [wrap_i64 (by omega)]; omega
    have hstep : (t.members v).take (i + 1) = (t.members v).take i ++ [(t.members v)[i]] := by rw [List.take_add_one, List.getElem?_eq_getElem hi2]; rfl
    refine br_intro (fun hy => ?_) fun hy => ?_
    · have hy : x1 ∈ (t.members v).take i := by simpa using hy
      simp only [push_cast, Nat.reduceAdd, Nat.reduceLeDiff, Nat.reduceLT, Int.reduceToNat, Nat.left_eq_add, Nat.add_eq_left, Nat.add_left_cancel_iff, Nat.reduceEqDiff, Nat.add_assoc, Nat.succ_ne_zero, hw]
      refine hX (k - 1) _ _ _ (by omega) ⟨i + 1, ?_, rfl, by omega, hF'.step_drew⟩
      rw [decide_eq_true]
      rw [hstep]; exact List.mem_append_left _ hy
    · have hy : x1 ∉ (t.members v).take i := by simpa using hy
      have hx5 : RdE 1 w'.drew _ _ := hx4.rd.fr hF'.step_drew (fun _ _ h => h)
      refine s_iaE hx5 (by omega) (by simpa using hi2) fun b1 o1 c1 _ hE => ?_
      simp only [Int.toNat_natCast, List.getElem_map] at hE ⊢
      have hE0 := hE.cell0 (show 0 < 1 by decide)
      simp only [push_cast, Nat.reduceAdd, Nat.reduceLeDiff, Nat.reduceLT, Int.reduceToNat, Nat.left_eq_add, Nat.add_eq_left, Nat.add_left_cancel_iff, Nat.reduceEqDiff, Nat.add_assoc, Nat.succ_ne_zero, cellI] at hE0
      have h1' := hF'.heap h1 (fun h => h)
      simp only [push_cast, Nat.reduceAdd, Nat.reduceLeDiff, Nat.reduceLT, Int.reduceToNat, Nat.left_eq_add, Nat.add_eq_left, Nat.add_left_cancel_iff, Nat.reduceEqDiff, Nat.add_assoc, Nat.succ_ne_zero, hE0, h1', ia2_1, hw]
      refine hX (k - 1) _ _ _ (by omega) ⟨i + 1, ?_, rfl, by omega, hF'.step_drew⟩
      rw [hstep]
      congr 1
      rw [Bool.eq_iff_iff]
      simp only [beq_iff_eq, decide_eq_true_eq, List.mem_append, List.mem_singleton]
      exact ⟨fun e => .inr e.symm, fun e => (e.resolve_left hy).symm⟩

theorem last_law {lv : Value} {st : List Stp} {s : Stp} (hl : RdE 4 w lv (st.map Stp.cells)) (hs : s.ok)
    (h : ∀ w', Fr none_ w w' → K (.bool true) w') : CallsR Try.prog 7 #[lv, .agg s.cells.toArray] K w := by
  apply c7
  unfold p7
  have hF : Fr none_ w (w.alloc (cellsO s.cells 46)) := (by repeat' first | with_reducible exact Fr.refl _ _ | with_reducible refine Fr.step_alloc ?_ ?_ | with_reducible refine Fr.step_drew ?_ | with_reducible refine Fr.step_wr ?_ ?_ _ _ | exact rfl | exact Or.inr (by omega) | exact Or.inl rfl | exact Or.inl (Or.inl rfl) | exact Or.inl (Or.inr rfl))
  have h0 : (w.alloc (cellsO s.cells 46)).heap[w.heap.size]? = some (cellsO s.cells 46) := by simp only [push_cast, Nat.reduceAdd, Nat.reduceLeDiff, Nat.reduceLT, Int.reduceToNat, Nat.left_eq_add, Nat.add_eq_left, Nat.add_left_cancel_iff, Nat.reduceEqDiff, Nat.add_assoc, Nat.succ_ne_zero]
  simp only [opS_box, cells_agg, alloc_cellsO, size_alloc]
  generalize w.alloc (cellsO s.cells 46) = W at *
  simp only [push_cast, Nat.reduceAdd, Nat.reduceLeDiff, Nat.reduceLT, Int.reduceToNat, Nat.left_eq_add, Nat.add_eq_left, Nat.add_left_cancel_iff, Nat.reduceEqDiff, Nat.add_assoc, Nat.succ_ne_zero]
  refine awake_spec fun w1 hF1 => ?_
  replace hF := hF.trans hF1
  have hsz1 := hF.size
  have hold : w.heap.size < w1.heap.size := lt_of_heap (hF1.heap h0 (fun h => h))
  simp only [push_cast, Nat.reduceAdd, Nat.reduceLeDiff, Nat.reduceLT, Int.reduceToNat, Nat.left_eq_add, Nat.add_eq_left, Nat.add_left_cancel_iff, Nat.reduceEqDiff, Nat.add_assoc, Nat.succ_ne_zero]
  refine made_spec (hl.fr hF (fun _ _ h => h)) (fun h => absurd ⟨by decide, by decide⟩ h) fun _ _ w2 p m nb q nc Lv hB hF2 hfp => ?_
  replace h0 := (hF1.trans hF2).heap h0 (fun h => h)
  replace hF := hF.trans hF2
  clear hF1 hF2
  have hok := ok_steps (VT.ok_new (n := (Int.toNat 5)) (by decide)) (st.take 100)
  generalize vsteps _ _ = t at *
  have hex : ∀ w', Fr none_ w w' → jnJ 1 (fun x10 => K x10) (fun j0 => brn (.bool true) (j0 (.bool true)) (j0 (.bool false))) w' := fun w' hF => by
    rw [jn_1]
    simp only [push_cast, Nat.reduceAdd, Nat.reduceLeDiff, Nat.reduceLT, Int.reduceToNat, Nat.left_eq_add, Nat.add_eq_left, Nat.add_left_cancel_iff, Nat.reduceEqDiff, Nat.add_assoc, Nat.succ_ne_zero]
    exact h _ hF
  simp only [push_cast, Nat.reduceAdd, Nat.reduceLeDiff, Nat.reduceLT, Int.reduceToNat, Nat.left_eq_add, Nat.add_eq_left, Nat.add_left_cancel_iff, Nat.reduceEqDiff, Nat.add_assoc, Nat.succ_ne_zero]
  refine jn0 (fun w' => Fr none_ w w') (fun w' hF => hex w' hF) fun j hj => ?_
  have hne : ∀ b, vfp p m nb b → w1.heap.size ≤ b := fun b hb => hfp b (.inl hb)
  have hvl := hB.v.lt
  simp only [push_cast, Nat.reduceAdd, Nat.reduceLeDiff, Nat.reduceLT, Int.reduceToNat, Nat.left_eq_add, Nat.add_eq_left, Nat.add_left_cancel_iff, Nat.reduceEqDiff, Nat.add_assoc, Nat.succ_ne_zero, h0, Stp.g0, Stp.g1, Stp.g2, Stp.g3]
  refine vadd_spec hB.v fun w3 hv3 hF3 => ?_
  replace h0 := hF3.heap h0 (fun hh => by have := hne _ hh; omega)
  replace hF := hF.trans_new hF3 (fun b hb hh => by have := hne b hh; omega)
  simp only [push_cast, Nat.reduceAdd, Nat.reduceLeDiff, Nat.reduceLT, Int.reduceToNat, Nat.left_eq_add, Nat.add_eq_left, Nat.add_left_cancel_iff, Nat.reduceEqDiff, Nat.add_assoc, Nat.succ_ne_zero, h0, Stp.g0, Stp.g1, Stp.g2, Stp.g3]
  by_cases hr : t.right s.vlan s.port
  case neg =>
    have e : t.add s.vlan s.port s.tagged = (t, 1) := by unfold VT.add; rw [if_neg hr]
    have b1 : ((1 : Int) != 0) = true := rfl
    have b2 : ((1 : Int) == 1) = true := rfl
    rw [e, b1, b2]
    exact h _ hF
  have e : t.add s.vlan s.port s.tagged = ({ t with tab := setL t.tab (s.vlan, s.port) s.tagged }, 0) := by unfold VT.add; rw [if_pos hr]
  have hok3 := hv3.ok
  rw [e] at hv3 hok3 ⊢
  dsimp only at hv3 hok3 ⊢
  have hg : getL (setL t.tab (s.vlan, s.port) s.tagged) (s.vlan, s.port) = some s.tagged := by rw [lookup_setL, if_pos rfl]
  generalize ht : ({ t with tab := setL t.tab (s.vlan, s.port) s.tagged } : VT) = u at *
  have hgu : getL u.tab (s.vlan, s.port) = some s.tagged := by rw [← ht]; exact hg
  have hru : u.right s.vlan s.port := by rw [← ht]; exact hr
  have b1 : ((0 : Int) != 0) = false := rfl
  rw [b1, br_false]
  have hvi := hs.2.1
  refine vmembers_spec hv3 hvi fun w4 x hx hF4 hNx => ?_
  have hv4 := hv3.fr0 hF4
  replace h0 := hF4.heap h0 (fun h => h)
  replace hF := hF.trans hF4
  have hv3l := hv3.lt
  have hshort := members_short hok3 s.vlan
  obtain ⟨xa, xc, rfl⟩ := hx.rd.form
  rw [List.length_map] at hx hNx ⊢
  simp only [push_cast, Nat.reduceAdd, Nat.reduceLeDiff, Nat.reduceLT, Int.reduceToNat, Nat.left_eq_add, Nat.add_eq_left, Nat.add_left_cancel_iff, Nat.reduceEqDiff, Nat.add_assoc, Nat.succ_ne_zero, h0, Stp.g0, Stp.g1, Stp.g2, Stp.g3, build_f800]
  refine vout_spec hv4 (f800R _) fun w5 hF5 => ?_
  replace h0 := hF5.heap h0 (fun h => h)
  replace hF := hF.trans hF5
  have hv5 := hv4.fr0 hF5
  obtain ⟨cs, hcs, hcb⟩ := out_R (t := u) (v := s.vlan) (n := s.port) (m := ([] : List Int).length) (f800R w5) hvi
  have ho := hcs.one
  have hrf : f800.right ([] : List Int).length = true := rfl
  have hout : (u.out s.vlan s.port f800 ([] : List Int).length).2 = 0 ∧ (u.out s.vlan s.port f800 ([] : List Int).length).1.tagged = s.tagged := by
    unfold VT.out
    rw [if_pos ⟨hru, hrf⟩, hgu]
    cases s.tagged <;> exact ⟨rfl, rfl⟩
  obtain ⟨ho1, ho2⟩ := hout
  generalize (u.out s.vlan s.port f800 ([] : List Int).length) = og at *
  have hlt0 := lt_of_heap h0
  have n0 : w.heap.size ≠ w5.heap.size := by omega
  simp only [push_cast, Nat.reduceAdd, Nat.reduceLeDiff, Nat.reduceLT, Int.reduceToNat, Nat.left_eq_add, Nat.add_eq_left, Nat.add_left_cancel_iff, Nat.reduceEqDiff, Nat.add_assoc, Nat.succ_ne_zero, zalloc, ho, h0, n0, Stp.g0, Stp.g1, Stp.g2, Stp.g3]
  refine at_w (fun W => Fr none_ w5 W ∧ W.heap[w5.heap.size]? = some (cellsO og.1.cells 27)) ⟨(by repeat' first | with_reducible exact Fr.refl _ _ | with_reducible refine Fr.step_alloc ?_ ?_ | with_reducible refine Fr.step_drew ?_ | with_reducible refine Fr.step_wr ?_ ?_ _ _ | exact rfl | exact Or.inr (by omega) | exact Or.inl rfl | exact Or.inl (Or.inl rfl) | exact Or.inl (Or.inr rfl)), by simp only [push_cast, Nat.reduceAdd, Nat.reduceLeDiff, Nat.reduceLT, Int.reduceToNat, Nat.left_eq_add, Nat.add_eq_left, Nat.add_left_cancel_iff, Nat.reduceEqDiff, Nat.add_assoc, Nat.succ_ne_zero]⟩ ?_
  rintro W6 ⟨hF6, h6⟩
  replace h0 := hF6.heap h0 (fun h => h)
  replace hF := hF.trans hF6
  have hv6 := hv5.fr0 hF6
  have hv5l := hv5.lt
  have hrem : u.remove s.vlan s.port = ({ u with tab := delL u.tab (s.vlan, s.port) }, 0) := by unfold VT.remove; rw [if_pos hru, if_pos (by rw [hgu]; rfl)]
  refine vremove_spec hv6 fun w7 hv7 hF7 => ?_
  have h67 := hF7
  replace h0 := hF7.heap h0 (fun hh => by have := hne _ hh; omega)
  replace h6 := hF7.heap h6 (fun hh => by unfold vfp at hh; omega)
  replace hF := hF.trans_new hF7 (fun b hb hh => by have := hne b hh; omega)
  rw [hrem] at hv7 ⊢
  simp only [push_cast, Nat.reduceAdd, Nat.reduceLeDiff, Nat.reduceLT, Int.reduceToNat, Nat.left_eq_add, Nat.add_eq_left, Nat.add_left_cancel_iff, Nat.reduceEqDiff, Nat.add_assoc, Nat.succ_ne_zero, h0, Stp.g0, Stp.g1, Stp.g2, Stp.g3]
  refine vmembers_spec hv7 hvi fun w8 y hy hF8 hNy => ?_
  replace h0 := hF8.heap h0 (fun h => h)
  replace h6 := hF8.heap h6 (fun h => h)
  replace hF := hF.trans hF8
  have hv8 := hv7.fr0 hF8
  obtain ⟨ya, yc, rfl⟩ := hy.rd.form
  have hxr : RdE 1 w8 (.slice xa (u.members s.vlan).length xc) ((u.members s.vlan).map cellI) := by
    have h1 := ((hx.rd.fr hF5 (fun _ _ h => h)).fr hF6 (fun _ _ h => h)).fr h67 (fun b hb hh => by
      have h2 := hNx b hb
      unfold vfp at hh
      omega)
    exact h1.fr hF8 (fun _ _ h => h)
  have hrise := VT.members_rise u s.vlan
  have hdel : (VT.members { u with tab := delL u.tab (s.vlan, s.port) } s.vlan).length + 1 = (u.members s.vlan).length := by
    unfold VT.members
    refine VT.filter_one_less (p := s.port) (VT.range_nodup _) ?_ ?_ ?_ ?_
    · have := hru.2.2
      unfold VT.port at this
      rw [List.mem_map]
      exact ⟨s.port.toNat, by rw [List.mem_range]; show s.port.toNat < u.nat.length; omega, by simp; omega⟩
    · unfold VT.is; rw [hgu]; rfl
    · unfold VT.is; simp only []; rw [lookup_delL, if_pos rfl]; rfl
    · intro q hq
      unfold VT.is
      simp only []
      rw [lookup_delL, if_neg]
      intro e
      exact hq (congrArg Prod.snd e)
  rw [List.length_map]
  simp only [push_cast, Nat.reduceAdd, Nat.reduceLeDiff, Nat.reduceLT, Int.reduceToNat, Nat.left_eq_add, Nat.add_eq_left, Nat.add_left_cancel_iff, Nat.reduceEqDiff, Nat.add_assoc, Nat.succ_ne_zero]
  refine jn0 (fun w' => Fr none_ w8 w') ?_ fun jj hjj => ?_
  · intro w9 hF9
    replace h0 := hF9.heap h0 (fun h => h)
    replace h6 := hF9.heap h6 (fun h => h)
    replace hF := hF.trans hF9
    have b3 : (og.2 == 0) = true := by rw [ho1]; rfl
    have b4 : (og.1.tagged == s.tagged) = true := by rw [ho2]; simp
    have b5 : ((0 : Int) == 0) = true := rfl
    have b6 : IntKind.i64.wrap (((u.members s.vlan).length : Int) - 1) = (u.members s.vlan).length - 1 := wrap_i64 (by omega)
    have b7 : (((VT.members { u with tab := delL u.tab (s.vlan, s.port) } s.vlan).length : Int) == ((u.members s.vlan).length : Int) - 1) = true := by simp; omega
    simp only [push_cast, Nat.reduceAdd, Nat.reduceLeDiff, Nat.reduceLT, Int.reduceToNat, Nat.left_eq_add, Nat.add_eq_left, Nat.add_left_cancel_iff, Nat.reduceEqDiff, Nat.add_assoc, Nat.succ_ne_zero, h0, h6, Stp.g0, Stp.g1, Stp.g2, Stp.g3, b3, b4, b5, b6, b7]
    refine vremove_spec (hv8.fr0 hF9) fun w10 hv10 hF10 => ?_
    have hrem2 : (VT.remove { u with tab := delL u.tab (s.vlan, s.port) } s.vlan s.port).2 = 4 := by
      unfold VT.remove
      rw [if_pos (show VT.right { u with tab := delL u.tab (s.vlan, s.port) } s.vlan s.port from hru), if_neg]
      simp only []
      rw [lookup_delL, if_pos rfl]
      simp
    rw [hrem2]
    have b8 : ((4 : Int) == 4) = true := rfl
    simp only [push_cast, Nat.reduceAdd, Nat.reduceLeDiff, Nat.reduceLT, Int.reduceToNat, Nat.left_eq_add, Nat.add_eq_left, Nat.add_left_cancel_iff, Nat.reduceEqDiff, Nat.add_assoc, Nat.succ_ne_zero, b8]
    exact h _ (hF.trans_new hF10 (fun b hb hh => by have := hne b hh; omega))
  · refine loop1 (fun k z w' => ∃ i : Nat, z = i64 i ∧ 1 ≤ i ∧ i + k = (u.members s.vlan).length + 1 ∧ Fr none_ w8 w') ?_ (u.members s.vlan).length ⟨1, rfl, by omega, by omega, Fr.refl _ _⟩
    rintro k z w' X ⟨i, rfl, hi1, hi, hF'⟩ hX
    simp only [push_cast, Nat.reduceAdd, Nat.reduceLeDiff, Nat.reduceLT, Int.reduceToNat, Nat.left_eq_add, Nat.add_eq_left, Nat.add_left_cancel_iff, Nat.reduceEqDiff, Nat.add_assoc, Nat.succ_ne_zero]
    refine br_dec (fun hlt => ?_) fun hge => hjj _ hF'
    have hi2 : i < (u.members s.vlan).length := by omega
    have hw : IntKind.i64.wrap ((i : Int) + 1) = ((i + 1 : Nat) : Int) := by rw [wrap_i64 (by omega)]; omega
    have hw2 : IntKind.i64.wrap ((i : Int) - 1) = ((i - 1 : Nat) : Int) := by rw [wrap_i64 (by omega)]; omega
    have hx5 : RdE 1 w'.drew _ _ := hxr.fr hF'.step_drew (fun _ _ h => h)
    refine s_iaE hx5 (by omega) (by simpa using hi2) fun b1 o1 c1 _ hE => ?_
    simp only [Int.toNat_natCast, List.getElem_map] at hE ⊢
    have hE0 := hE.cell0 (show 0 < 1 by decide)
    simp only [push_cast, Nat.reduceAdd, Nat.reduceLeDiff, Nat.reduceLT, Int.reduceToNat, Nat.left_eq_add, Nat.add_eq_left, Nat.add_left_cancel_iff, Nat.reduceEqDiff, Nat.add_assoc, Nat.succ_ne_zero, cellI] at hE0
    simp only [push_cast, Nat.reduceAdd, Nat.reduceLeDiff, Nat.reduceLT, Int.reduceToNat, Nat.left_eq_add, Nat.add_eq_left, Nat.add_left_cancel_iff, Nat.reduceEqDiff, Nat.add_assoc, Nat.succ_ne_zero, hE0, hw2]
    have hi3 : i - 1 < (u.members s.vlan).length := by omega
    have e3 : ((i - 1 : Nat) : Int).toNat = i - 1 := by omega
    refine s_iaE hx5 (by omega) (by simpa using hi3) fun b2 o2 c2 _ hE2 => ?_
    simp only [List.getElem_map] at hE2 ⊢
    have hE3 := hE2.cell0 (show 0 < 1 by decide)
    simp only [push_cast, Nat.reduceAdd, Nat.reduceLeDiff, Nat.reduceLT, Int.reduceToNat, Nat.left_eq_add, Nat.add_eq_left, Nat.add_left_cancel_iff, Nat.reduceEqDiff, Nat.add_assoc, Nat.succ_ne_zero, cellI] at hE3
    simp only [push_cast, Nat.reduceAdd, Nat.reduceLeDiff, Nat.reduceLT, Int.reduceToNat, Nat.left_eq_add, Nat.add_eq_left, Nat.add_left_cancel_iff, Nat.reduceEqDiff, Nat.add_assoc, Nat.succ_ne_zero, hE3, hw]
    refine br_dec (fun hd => ?_) fun hd => ?_
    · have := (List.pairwise_iff_getElem.1 hrise) (i - 1) i hi3 hi2 (by omega)
      simp at hd
      omega
    · exact hX (k - 1) _ _ (by omega) ⟨i + 1, rfl, by omega, by omega, hF'.step_drew⟩

end Go.Gx.S
