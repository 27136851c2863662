/- Frames that may be; tags; frames that are compared. -/
import Derived.Test.YtdnidegmlplocaaEther0T
import Derived.Test.YtdnidegmlplocaaBaseMac
set_option linter.unusedVariables false
set_option linter.unusedSimpArgs false
set_option maxRecDepth 100000
namespace Go.Gx.S
open Go Go.Gx Go.Proofs
variable {K : Value → World → Prop} {w : World}

theorem right_spec {f : Frm} {a : Option Addr} {n c : Nat} (hb : f.body = .slice a n c) (h : ∀ w', Fr none_ w w' → K (.bool (f.right n)) w') : CallsR Try.prog 29 #[.agg f.cells.toArray] K w := by
  apply c29
  unfold p29
  have hF : Fr none_ w (w.alloc (cellsO f.cells 27)) := (Fr.refl _ _).step_alloc rfl
  simp only [push_cast, Nat.reduceAdd, Nat.reduceLeDiff, Nat.reduceLT, Int.reduceToNat, Nat.left_eq_add, Nat.add_eq_left, Nat.add_left_cancel_iff, Nat.reduceEqDiff, Nat.add_assoc, Nat.succ_ne_zero, hb, jn_1]
  generalize w.alloc (cellsO f.cells 27) = W at *
  have h' : ∀ b, f.right n = b → K (.bool b) W := fun b e => e ▸ h W hF
  clear h
  repeat' first | with_reducible refine br_dec (fun _ => ?_) fun _ => ?_ | with_reducible refine br_intro (fun _ => ?_) fun _ => ?_
  all_goals
    refine h' _ ?_
    unfold Frm.right
    simp_all
    try first | omega | (rw [Bool.eq_iff_iff]; simp; omega)

theorem rright_spec {f : Frm} {a : Option Addr} {n c : Nat} (hb : f.body = .slice a n c) (h : ∀ w', Fr none_ w w' → K (.bool (f.right n)) w') : CallsR Try.prog 30 #[.agg f.cells.toArray] K w := by
  apply c30
  unfold p30
  have hF : Fr none_ w (w.alloc (cellsO f.cells 27)) := (Fr.refl _ _).step_alloc rfl
  simp only [push_cast, Nat.reduceAdd, Nat.reduceLeDiff, Nat.reduceLT, Int.reduceToNat, Nat.left_eq_add, Nat.add_eq_left, Nat.add_left_cancel_iff, Nat.reduceEqDiff, Nat.add_assoc, Nat.succ_ne_zero, hb, jn_1]
  generalize w.alloc (cellsO f.cells 27) = W at *
  have h' : ∀ b, f.right n = b → K (.bool b) W := fun b e => e ▸ h W hF
  clear h
  repeat' first | with_reducible refine br_dec (fun _ => ?_) fun _ => ?_ | with_reducible refine br_intro (fun _ => ?_) fun _ => ?_
  all_goals
    refine h' _ ?_
    unfold Frm.right
    simp_all
    try first | omega | (rw [Bool.eq_iff_iff]; simp; omega)


theorem build_zFrm : opS Try.prog (S.build 27 []) K w = K (.agg zFrm.cells.toArray) w := by
  rw [opS_build _ rfl]; rfl

theorem tag_spec {f : Frm} {bs : List Int} {v p : Int} (hb : FrmR w f bs) (h : ∀ w', Fr none_ w w' → K (if (f.tag v p).right bs.length then .tuple #[.agg (f.tag v p).cells.toArray, i64 0] else .tuple #[.agg zFrm.cells.toArray, i64 1]) w') :
    CallsR Try.prog 33 #[.agg f.cells.toArray, i64 v, i64 p] K w := by
  apply c33
  unfold p33
  obtain ⟨a, c, hbd⟩ := hb.2.form
  have hone : (f.tag v p).cells.all S.oneCell = true := Frm.one _ (by show S.oneCell f.body = true; rw [hbd]; rfl)
  have hone0 : zFrm.cells.all S.oneCell = true := rfl
  simp only [push_cast, Nat.reduceAdd, Nat.reduceLeDiff, Nat.reduceLT, Int.reduceToNat, Nat.left_eq_add, Nat.add_eq_left, Nat.add_left_cancel_iff, Nat.reduceEqDiff, Nat.add_assoc, Nat.succ_ne_zero]
  refine right_spec (f := f.tag v p) hbd fun W' hF' => ?_
  have h0 := hF'.heap (b := w.heap.size) (o := cellsO (f.tag v p).cells 27) (by simp only [push_cast, Nat.reduceAdd, Nat.reduceLeDiff, Nat.reduceLT, Int.reduceToNat, Nat.left_eq_add, Nat.add_eq_left, Nat.add_left_cancel_iff, Nat.reduceEqDiff, Nat.add_assoc, Nat.succ_ne_zero]; rfl) (fun h => h)
  have h1 := hF'.heap (b := w.heap.size + 1) (o := cellsO zFrm.cells 27) (by simp only [push_cast, Nat.reduceAdd, Nat.reduceLeDiff, Nat.reduceLT, Int.reduceToNat, Nat.left_eq_add, Nat.add_eq_left, Nat.add_left_cancel_iff, Nat.reduceEqDiff, Nat.add_assoc, Nat.succ_ne_zero]; rfl) (fun h => h)
  have hF : Fr none_ w W' := Fr.trans (by repeat' first | with_reducible exact Fr.refl _ _ | with_reducible refine Fr.step_alloc ?_ ?_ | with_reducible refine Fr.step_drew ?_ | with_reducible refine Fr.step_wr ?_ ?_ _ _ | exact rfl | exact Or.inr (by omega) | exact Or.inl rfl | exact Or.inl (Or.inl rfl) | exact Or.inl (Or.inr rfl)) hF'
  clear hF'
  simp only [push_cast, Nat.reduceAdd, Nat.reduceLeDiff, Nat.reduceLT, Int.reduceToNat, Nat.left_eq_add, Nat.add_eq_left, Nat.add_left_cancel_iff, Nat.reduceEqDiff, Nat.add_assoc, Nat.succ_ne_zero, h0, h1, hone]
  refine br_intro (fun hr => ?_) fun hr => ?_
  · simp only [build_zFrm, push_cast, Nat.reduceAdd, Nat.reduceLeDiff, Nat.reduceLT, Int.reduceToNat, Nat.left_eq_add, Nat.add_eq_left, Nat.add_left_cancel_iff, Nat.reduceEqDiff, Nat.add_assoc, Nat.succ_ne_zero, h0, h1, hone0]
    rw [show (f.tag v p).right bs.length = false by simpa using hr] at h
    exact h _ (hF.step_wr (Or.inr (by omega)) _ _)
  · rw [show (f.tag v p).right bs.length = true by simpa using hr] at h
    exact h _ (hF.step_wr (Or.inr (by omega)) _ _)

theorem rtag_spec {f : Frm} {bs : List Int} {v p : Int} (hb : FrmR w f bs) (h : ∀ w', Fr none_ w w' → K (if (f.tag v p).right bs.length then .tuple #[.agg (f.tag v p).cells.toArray, i64 0] else .tuple #[.agg zFrm.cells.toArray, i64 1]) w') :
    CallsR Try.prog 36 #[.agg f.cells.toArray, i64 v, i64 p] K w := by
  apply c36
  unfold p36
  obtain ⟨a, c, hbd⟩ := hb.2.form
  have hone : (f.tag v p).cells.all S.oneCell = true := Frm.one _ (by show S.oneCell f.body = true; rw [hbd]; rfl)
  have hone0 : zFrm.cells.all S.oneCell = true := rfl
  simp only [push_cast, Nat.reduceAdd, Nat.reduceLeDiff, Nat.reduceLT, Int.reduceToNat, Nat.left_eq_add, Nat.add_eq_left, Nat.add_left_cancel_iff, Nat.reduceEqDiff, Nat.add_assoc, Nat.succ_ne_zero]
  refine rright_spec (f := f.tag v p) hbd fun W' hF' => ?_
  have h0 := hF'.heap (b := w.heap.size) (o := cellsO (f.tag v p).cells 27) (by simp only [push_cast, Nat.reduceAdd, Nat.reduceLeDiff, Nat.reduceLT, Int.reduceToNat, Nat.left_eq_add, Nat.add_eq_left, Nat.add_left_cancel_iff, Nat.reduceEqDiff, Nat.add_assoc, Nat.succ_ne_zero]; rfl) (fun h => h)
  have h1 := hF'.heap (b := w.heap.size + 1) (o := cellsO zFrm.cells 27) (by simp only [push_cast, Nat.reduceAdd, Nat.reduceLeDiff, Nat.reduceLT, Int.reduceToNat, Nat.left_eq_add, Nat.add_eq_left, Nat.add_left_cancel_iff, Nat.reduceEqDiff, Nat.add_assoc, Nat.succ_ne_zero]; rfl) (fun h => h)
  have hF : Fr none_ w W' := Fr.trans (by repeat' first | with_reducible exact Fr.refl _ _ | with_reducible refine Fr.step_alloc ?_ ?_ | with_reducible refine Fr.step_drew ?_ | with_reducible refine Fr.step_wr ?_ ?_ _ _ | exact rfl | exact Or.inr (by omega) | exact Or.inl rfl | exact Or.inl (Or.inl rfl) | exact Or.inl (Or.inr rfl)) hF'
  clear hF'
  simp only [push_cast, Nat.reduceAdd, Nat.reduceLeDiff, Nat.reduceLT, Int.reduceToNat, Nat.left_eq_add, Nat.add_eq_left, Nat.add_left_cancel_iff, Nat.reduceEqDiff, Nat.add_assoc, Nat.succ_ne_zero, h0, h1, hone]
  refine br_intro (fun hr => ?_) fun hr => ?_
  · simp only [build_zFrm, push_cast, Nat.reduceAdd, Nat.reduceLeDiff, Nat.reduceLT, Int.reduceToNat, Nat.left_eq_add, Nat.add_eq_left, Nat.add_left_cancel_iff, Nat.reduceEqDiff, Nat.add_assoc, Nat.succ_ne_zero, h0, h1, hone0]
    rw [show (f.tag v p).right bs.length = false by simpa using hr] at h
    exact h _ (hF.step_wr (Or.inr (by omega)) _ _)
  · rw [show (f.tag v p).right bs.length = true by simpa using hr] at h
    exact h _ (hF.step_wr (Or.inr (by omega)) _ _)

theorem untag_spec {f : Frm} {bs : List Int} (hb : FrmR w f bs) (h : ∀ w', Fr none_ w w' → K (.agg f.untag.cells.toArray) w') : CallsR Try.prog 34 #[.agg f.cells.toArray] K w := by
  apply c34
  unfold p34
  obtain ⟨a, c, hbd⟩ := hb.2.form
  have hone : f.untag.cells.all S.oneCell = true := Frm.one _ (by show S.oneCell f.body = true; rw [hbd]; rfl)
  have e : ({ ({ ({ f with tagged := false } : Frm) with vlan := 0 } : Frm) with prio := 0 } : Frm) = f.untag := rfl
  simp only [push_cast, Nat.reduceAdd, Nat.reduceLeDiff, Nat.reduceLT, Int.reduceToNat, Nat.left_eq_add, Nat.add_eq_left, Nat.add_left_cancel_iff, Nat.reduceEqDiff, Nat.add_assoc, Nat.succ_ne_zero, e, hone]
  exact h _ (by repeat' first | with_reducible exact Fr.refl _ _ | with_reducible refine Fr.step_alloc ?_ ?_ | with_reducible refine Fr.step_drew ?_ | with_reducible refine Fr.step_wr ?_ ?_ _ _ | exact rfl | exact Or.inr (by omega) | exact Or.inl rfl | exact Or.inl (Or.inl rfl) | exact Or.inl (Or.inr rfl))

theorem runtag_spec {f : Frm} {bs : List Int} (hb : FrmR w f bs) (h : ∀ w', Fr none_ w w' → K (.agg f.untag.cells.toArray) w') : CallsR Try.prog 37 #[.agg f.cells.toArray] K w := by
  apply c37
  unfold p37
  obtain ⟨a, c, hbd⟩ := hb.2.form
  have hone : f.untag.cells.all S.oneCell = true := Frm.one _ (by show S.oneCell f.body = true; rw [hbd]; rfl)
  have e : ({ ({ ({ f with tagged := false } : Frm) with vlan := 0 } : Frm) with prio := 0 } : Frm) = f.untag := rfl
  simp only [push_cast, Nat.reduceAdd, Nat.reduceLeDiff, Nat.reduceLT, Int.reduceToNat, Nat.left_eq_add, Nat.add_eq_left, Nat.add_left_cancel_iff, Nat.reduceEqDiff, Nat.add_assoc, Nat.succ_ne_zero, e, hone]
  exact h _ (by repeat' first | with_reducible exact Fr.refl _ _ | with_reducible refine Fr.step_alloc ?_ ?_ | with_reducible refine Fr.step_drew ?_ | with_reducible refine Fr.step_wr ?_ ?_ _ _ | exact rfl | exact Or.inr (by omega) | exact Or.inl rfl | exact Or.inl (Or.inl rfl) | exact Or.inl (Or.inr rfl))

theorem same_spec {f g : Frm} {bs cs : List Int} (hf : FrmR w f bs) (hg : FrmR w g cs) (h : ∀ w', Fr none_ w w' → K (.bool (decide (f.dst = g.dst ∧ f.src = g.src ∧ f.tagged = g.tagged ∧ f.vlan = g.vlan ∧ f.prio = g.prio ∧ f.type = g.type ∧ bs = cs))) w') :
    CallsR Try.prog 16 #[.agg f.cells.toArray, .agg g.cells.toArray] K w := by
  apply c16
  unfold p16
  have hF : Fr none_ w ((w.alloc (cellsO f.cells 27)).alloc (cellsO g.cells 27)) := (by repeat' first | with_reducible exact Fr.refl _ _ | with_reducible refine Fr.step_alloc ?_ ?_ | with_reducible refine Fr.step_drew ?_ | with_reducible refine Fr.step_wr ?_ ?_ _ _ | exact rfl | exact Or.inr (by omega) | exact Or.inl rfl | exact Or.inl (Or.inl rfl) | exact Or.inl (Or.inr rfl))
  have h0 : ((w.alloc (cellsO f.cells 27)).alloc (cellsO g.cells 27)).heap[w.heap.size]? = some (cellsO f.cells 27) := by simp only [push_cast, Nat.reduceAdd, Nat.reduceLeDiff, Nat.reduceLT, Int.reduceToNat, Nat.left_eq_add, Nat.add_eq_left, Nat.add_left_cancel_iff, Nat.reduceEqDiff, Nat.add_assoc, Nat.succ_ne_zero]
  have h1 : ((w.alloc (cellsO f.cells 27)).alloc (cellsO g.cells 27)).heap[w.heap.size + 1]? = some (cellsO g.cells 27) := by simp only [push_cast, Nat.reduceAdd, Nat.reduceLeDiff, Nat.reduceLT, Int.reduceToNat, Nat.left_eq_add, Nat.add_eq_left, Nat.add_left_cancel_iff, Nat.reduceEqDiff, Nat.add_assoc, Nat.succ_ne_zero]
  simp only [opS_box, cells_agg, alloc_cellsO, size_alloc]
  generalize (w.alloc (cellsO f.cells 27)).alloc (cellsO g.cells 27) = W at *
  have hf' := hf.fr0 hF
  have hg' := hg.fr0 hF
  have h' : ∀ b, decide (f.dst = g.dst ∧ f.src = g.src ∧ f.tagged = g.tagged ∧ f.vlan = g.vlan ∧ f.prio = g.prio ∧ f.type = g.type ∧ bs = cs) = b → K (.bool b) W := fun b e => e ▸ h W hF
  clear h
  simp only [push_cast, Nat.reduceAdd, Nat.reduceLeDiff, Nat.reduceLT, Int.reduceToNat, Nat.left_eq_add, Nat.add_eq_left, Nat.add_left_cancel_iff, Nat.reduceEqDiff, Nat.add_assoc, Nat.succ_ne_zero, h0, h1]
  refine s_eqG (MacT.enc (d := 6) hf.1.1) (MacT.enc (d := 6) hg.1.1) fun r hr => ?_
  rw [Mac.lits_inj] at hr
  simp only [push_cast, Nat.reduceAdd, Nat.reduceLeDiff, Nat.reduceLT, Int.reduceToNat, Nat.left_eq_add, Nat.add_eq_left, Nat.add_left_cancel_iff, Nat.reduceEqDiff, Nat.add_assoc, Nat.succ_ne_zero]
  refine br_intro (fun e => ?_) fun e => h' _ ?_
  case' refine_2 => subst e; simp at hr; simp [hr]
  have hr1 := hr.1 e
  clear hr
  simp only [push_cast, Nat.reduceAdd, Nat.reduceLeDiff, Nat.reduceLT, Int.reduceToNat, Nat.left_eq_add, Nat.add_eq_left, Nat.add_left_cancel_iff, Nat.reduceEqDiff, Nat.add_assoc, Nat.succ_ne_zero, h0, h1]
  refine s_eqG (MacT.enc (d := 6) hf.1.2.1) (MacT.enc (d := 6) hg.1.2.1) fun r hr => ?_
  rw [Mac.lits_inj] at hr
  simp only [push_cast, Nat.reduceAdd, Nat.reduceLeDiff, Nat.reduceLT, Int.reduceToNat, Nat.left_eq_add, Nat.add_eq_left, Nat.add_left_cancel_iff, Nat.reduceEqDiff, Nat.add_assoc, Nat.succ_ne_zero]
  refine br_intro (fun e => ?_) fun e => h' _ ?_
  case' refine_2 => subst e; simp at hr; simp [hr]
  have hr2 := hr.1 e
  clear hr
  simp only [push_cast, Nat.reduceAdd, Nat.reduceLeDiff, Nat.reduceLT, Int.reduceToNat, Nat.left_eq_add, Nat.add_eq_left, Nat.add_left_cancel_iff, Nat.reduceEqDiff, Nat.add_assoc, Nat.succ_ne_zero, h0, h1]
  rw [s_b2s hf'.2]
  simp only [push_cast, Nat.reduceAdd, Nat.reduceLeDiff, Nat.reduceLT, Int.reduceToNat, Nat.left_eq_add, Nat.add_eq_left, Nat.add_left_cancel_iff, Nat.reduceEqDiff, Nat.add_assoc, Nat.succ_ne_zero, h0, h1]
  rw [s_b2s hg'.2, s_eqS hf.2.2 hg.2.2]
  repeat' first | with_reducible refine br_dec (fun _ => ?_) fun _ => ?_ | with_reducible refine br_intro (fun _ => ?_) fun _ => ?_
  all_goals
    refine h' _ ?_
    simp_all

end Go.Gx.S
