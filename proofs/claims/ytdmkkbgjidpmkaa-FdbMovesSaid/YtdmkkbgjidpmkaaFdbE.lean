/- The laws on tables of stations: scripts, last, moves. -/
import Derived.Test.YtdmkkbgjidpmkaaFdbET
import Derived.Test.YtdmkkbgjidpmkaaFdbD
set_option linter.unusedVariables false
set_option linter.unusedSimpArgs false
set_option maxRecDepth 100000
namespace Go.Gx.S
open Go Go.Gx Go.Proofs
variable {K : Value → World → Prop} {w : World}

theorem lookL_ok {r : List Ent} (h : Srt r) (k : Key) : (lookL r k).1.ok := by
  unfold lookL
  cases ha : atK r k with
  | some e => exact h.2 e (atK_mem ha).1
  | none => exact zE_ok

theorem fscripts_law {room : Int} {lv : Value} {st : List FStp} {s : FStp} (hl : RdE 11 w lv (st.map FStp.cells)) (hso : ∀ s ∈ st, s.ok) (hs : s.ok) (h : ∀ w', Fr none_ w w' → K (.bool true) w') :
    CallsR Try.prog 3 #[i64 room, lv, .agg s.cells.toArray] K w := by
  apply c3
  unfold p3
  obtain ⟨hd, hv, hm, hp, htm, hn⟩ := hs
  have hF : Fr none_ w (w.alloc (cellsO s.cells 26)) := (by repeat' first | with_reducible exact Fr.refl _ _ | with_reducible refine Fr.step_alloc ?_ ?_ | with_reducible refine Fr.step_drew ?_ | with_reducible refine Fr.step_wr ?_ ?_ _ _ | exact rfl | exact Or.inr (by omega) | exact Or.inl rfl | exact Or.inl (Or.inl rfl) | exact Or.inl (Or.inr rfl))
  have hx : (w.alloc (cellsO s.cells 26)).heap[w.heap.size]? = some (cellsO s.cells 26) := by simp only [push_cast, Nat.reduceAdd, Nat.reduceLeDiff, Nat.reduceLT, Int.reduceToNat, Nat.left_eq_add, Nat.add_eq_left, Nat.add_left_cancel_iff, Nat.reduceEqDiff, Nat.add_assoc, Nat.succ_ne_zero]
  simp only [opS_box, cells_agg, alloc_cellsO]
  have hxs := lt_of_heap hx
  generalize w.alloc (cellsO s.cells 26) = W at *
  simp only [push_cast, Nat.reduceAdd, Nat.reduceLeDiff, Nat.reduceLT, Int.reduceToNat, Nat.left_eq_add, Nat.add_eq_left, Nat.add_left_cancel_iff, Nat.reduceEqDiff, Nat.add_assoc, Nat.succ_ne_zero]
  refine awake_spec fun w1 hF1 => ?_
  replace hF := hF.trans hF1
  replace hx := hF1.heap hx fun h => h
  simp only [push_cast, Nat.reduceAdd, Nat.reduceLeDiff, Nat.reduceLT, Int.reduceToNat, Nat.left_eq_add, Nat.add_eq_left, Nat.add_left_cancel_iff, Nat.reduceEqDiff, Nat.add_assoc, Nat.succ_ne_zero]
  refine made_spec (hl.fr hF fun _ _ h => h) hso (fun _ w2 hF2 => ?_) fun g1 g2 w2 p q hj hF2 => ?_
  · simp only [push_cast, Nat.reduceAdd, Nat.reduceLeDiff, Nat.reduceLT, Int.reduceToNat, Nat.left_eq_add, Nat.add_eq_left, Nat.add_left_cancel_iff, Nat.reduceEqDiff, Nat.add_assoc, Nat.succ_ne_zero]
    refine jn0 (fun w' => Fr none_ w w') (fun w' hF => ?_) fun j hj => ?_
    · rw [jn_1]
      simp only [push_cast, Nat.reduceAdd, Nat.reduceLeDiff, Nat.reduceLT, Int.reduceToNat, Nat.left_eq_add, Nat.add_eq_left, Nat.add_left_cancel_iff, Nat.reduceEqDiff, Nat.add_assoc, Nat.succ_ne_zero]
      exact h _ hF
    · simp only [push_cast, Nat.reduceAdd, Nat.reduceLeDiff, Nat.reduceLT, Int.reduceToNat, Nat.left_eq_add, Nat.add_eq_left, Nat.add_left_cancel_iff, Nat.reduceEqDiff, Nat.add_assoc, Nat.succ_ne_zero, Bool.not_true]
      exact hj _ (hF.trans hF2)
  replace hF := hF.trans hF2
  replace hx := hF2.heap hx fun h => h
  generalize (st.take 150).foldl (stepL room.toNat) [] = r at *
  simp only [push_cast, Nat.reduceAdd, Nat.reduceLeDiff, Nat.reduceLT, Int.reduceToNat, Nat.left_eq_add, Nat.add_eq_left, Nat.add_left_cancel_iff, Nat.reduceEqDiff, Nat.add_assoc, Nat.succ_ne_zero]
  refine jn0 (fun w' => False) (fun w' hF => hF.elim) fun j hjj => ?_
  simp only [push_cast, Nat.reduceAdd, Nat.reduceLeDiff, Nat.reduceLT, Int.reduceToNat, Nat.left_eq_add, Nat.add_eq_left, Nat.add_left_cancel_iff, Nat.reduceEqDiff, Nat.add_assoc, Nat.succ_ne_zero, Bool.not_true, hx]
  obtain ⟨pb, o, c, ps, L, hj⟩ := hj
  have hsrt := hj.t.ct.srt
  have hcap := hj.t.cap
  have hhi := hj.t.hi
  have hlok := lookL_ok hsrt (s.v, s.m)
  refine look_spec hj.t hv hm fun w3 hF3 => ?_
  generalize hlk : lookL r (s.v, s.m) = e at *
  simp only [s_ext, List.getElem?_toArray, List.getElem?_cons_zero, List.getElem?_cons_succ, onS_some]
  refine ent_slot fun _ w4 hw4 hF4 => ?_
  have hF34 := hF3.trans hF4
  have hx4 := hF34.heap hx fun h => h
  simp only [push_cast, Nat.reduceAdd, Nat.reduceLeDiff, Nat.reduceLT, Int.reduceToNat, Nat.left_eq_add, Nat.add_eq_left, Nat.add_left_cancel_iff, Nat.reduceEqDiff, Nat.add_assoc, Nat.succ_ne_zero, hx4]
  refine rlook_spec (hj.r.fr0 hF34) hsrt hv hm (by omega) fun w5 hF5 => ?_
  rw [hlk]
  simp only [s_ext, List.getElem?_toArray, List.getElem?_cons_zero, List.getElem?_cons_succ, onS_some]
  refine ent_slot fun _ w6 hw6 hF6 => ?_
  have hw46 := (hF5.trans hF6).heap hw4 fun h => h
  have hF26 := (hF34.trans hF5).trans hF6
  have hj6 := hj.fr0 hF26
  replace hF := hF.trans hF26
  obtain ⟨la, lc, hL⟩ := hj6.r.own.rd.form
  rw [List.length_map] at hL
  subst hL
  generalize w3.heap.size = sa at *
  generalize w5.heap.size = sb at *
  refine jn1 (fun v w' => v = .bool true ∧ Fr none_ w6 w') ?_ fun j2 hj2 => ?_
  · rintro v w7 ⟨rfl, hF7⟩
    have hj7 := hj6.fr0 hF7
    have h1 := hF7.heap hw46 fun h => h
    have h2 := hF7.heap hw6 fun h => h
    simp only [push_cast, Nat.reduceAdd, Nat.reduceLeDiff, Nat.reduceLT, Int.reduceToNat, Nat.left_eq_add, Nat.add_eq_left, Nat.add_left_cancel_iff, Nat.reduceEqDiff, Nat.add_assoc, Nat.succ_ne_zero, h1, h2]
    refine s_eqG (EntT.enc (d := 5) hlok) (EntT.enc (d := 5) hlok) fun y hy => ?_
    have hyt : y = true := by
      rw [Ent.lits_inj] at hy
      exact hy.2 rfl
    subst hyt
    simp only [push_cast, Nat.reduceAdd, Nat.reduceLeDiff, Nat.reduceLT, Int.reduceToNat, Nat.left_eq_add, Nat.add_eq_left, Nat.add_left_cancel_iff, Nat.reduceEqDiff, Nat.add_assoc, Nat.succ_ne_zero]
    refine br_intro (fun _ => ?_) fun e => by simp at e
    have hj8 := hj7.fr0 (Fr.drew w7)
    have hF8 := (hF.trans hF7).trans (Fr.drew w7)
    have hblk := hj7.r.blk
    refine allW_intro ?_ ?_
    · simp only [push_cast, Nat.reduceAdd, Nat.reduceLeDiff, Nat.reduceLT, Int.reduceToNat, Nat.left_eq_add, Nat.add_eq_left, Nat.add_left_cancel_iff, Nat.reduceEqDiff, Nat.add_assoc, Nat.succ_ne_zero]
      refine len_spec hj8.t.fb ?_
      simp only [push_cast, Nat.reduceAdd, Nat.reduceLeDiff, Nat.reduceLT, Int.reduceToNat, Nat.left_eq_add, Nat.add_eq_left, Nat.add_left_cancel_iff, Nat.reduceEqDiff, Nat.add_assoc, Nat.succ_ne_zero, hblk, beq_self_eq_true]
      exact h _ hF8
    · simp only [push_cast, Nat.reduceAdd, Nat.reduceLeDiff, Nat.reduceLT, Int.reduceToNat, Nat.left_eq_add, Nat.add_eq_left, Nat.add_left_cancel_iff, Nat.reduceEqDiff, Nat.add_assoc, Nat.succ_ne_zero, hblk]
      refine len_spec hj8.t.fb ?_
      simp only [push_cast, Nat.reduceAdd, Nat.reduceLeDiff, Nat.reduceLT, Int.reduceToNat, Nat.left_eq_add, Nat.add_eq_left, Nat.add_left_cancel_iff, Nat.reduceEqDiff, Nat.add_assoc, Nat.succ_ne_zero, beq_self_eq_true]
      exact h _ hF8
  · simp only [push_cast, Nat.reduceAdd, Nat.reduceLeDiff, Nat.reduceLT, Int.reduceToNat, Nat.left_eq_add, Nat.add_eq_left, Nat.add_left_cancel_iff, Nat.reduceEqDiff, Nat.add_assoc, Nat.succ_ne_zero]
    have hj7 := hj6.fr0 (Fr.drew w6)
    have hblk := hj6.r.blk
    refine allW_intro ?_ ?_
    · simp only [push_cast, Nat.reduceAdd, Nat.reduceLeDiff, Nat.reduceLT, Int.reduceToNat, Nat.left_eq_add, Nat.add_eq_left, Nat.add_left_cancel_iff, Nat.reduceEqDiff, Nat.add_assoc, Nat.succ_ne_zero]
      refine all_spec hj7.t fun w8 b1 a1 c1 ho8 hF8 _ => ?_
      have hj8 := hj7.fr0 hF8
      simp only [push_cast, Nat.reduceAdd, Nat.reduceLeDiff, Nat.reduceLT, Int.reduceToNat, Nat.left_eq_add, Nat.add_eq_left, Nat.add_left_cancel_iff, Nat.reduceEqDiff, Nat.add_assoc, Nat.succ_ne_zero, hj8.r.blk]
      refine esame_yes ho8.rd hj8.r.own.rd hsrt.2 (by omega) fun w9 hF9 => ?_
      exact hj2 _ _ ⟨rfl, ((Fr.drew w6).trans hF8).trans hF9⟩
    · simp only [push_cast, Nat.reduceAdd, Nat.reduceLeDiff, Nat.reduceLT, Int.reduceToNat, Nat.left_eq_add, Nat.add_eq_left, Nat.add_left_cancel_iff, Nat.reduceEqDiff, Nat.add_assoc, Nat.succ_ne_zero, hblk]
      refine all_spec hj7.t fun w8 b1 a1 c1 ho8 hF8 _ => ?_
      have hj8 := hj7.fr0 hF8
      simp only [push_cast, Nat.reduceAdd, Nat.reduceLeDiff, Nat.reduceLT, Int.reduceToNat, Nat.left_eq_add, Nat.add_eq_left, Nat.add_left_cancel_iff, Nat.reduceEqDiff, Nat.add_assoc, Nat.succ_ne_zero]
      refine esame_yes ho8.rd hj8.r.own.rd hsrt.2 (by omega) fun w9 hF9 => ?_
      exact hj2 _ _ ⟨rfl, ((Fr.drew w6).trans hF8).trans hF9⟩

/-! ### What was learned last -/

theorem atK_with {r : List Ent} (h : Srt r) {x : Ent} (hx : x.ok) (k : Key) : atK (withL r x) k = if eKey x = k then some x else atK r k := by
  have hw := h.with hx
  by_cases e : eKey x = k
  · rw [if_pos e]
    exact atK_some hw (mem_with.2 (.inl rfl)) e
  · rw [if_neg e]
    cases ha : atK r k with
    | some y =>
      obtain ⟨h1, h2⟩ := atK_mem ha
      exact atK_some hw (mem_with.2 (.inr ⟨h1, fun h3 => e (h3.symm.trans h2)⟩)) h2
    | none =>
      refine atK_none fun y hy hk => ?_
      rcases mem_with.1 hy with rfl | hy
      · exact e hk
      · exact atK_no ha y hy.1 hk

theorem learn_at {room : Nat} {r : List Ent} {v p t : Int} {m : Mac} (h : Srt r) (hv : isI v) (hm : m.ok) (hp : isI p) (ht : isI t) {k : Key} (hk : k ≠ (v, m)) : atK (learnL room r v m p t).1 k = atK r k := by
  have hx : (⟨v, m, p, t, false⟩ : Ent).ok := ⟨hv, hm, hp, ht⟩
  have hw : atK (withL r ⟨v, m, p, t, false⟩) k = atK r k := by
    rw [atK_with h hx, if_neg]
    exact fun e => hk e.symm
  unfold learnL
  split
  · split
    · split
      · rfl
      · exact hw
    · split
      · rfl
      · exact hw
  · rfl

/-- what learning comes to, where it is taken -/
theorem learn_ok {room : Nat} {r : List Ent} {v p t : Int} {m : Mac} (h : Srt r) (hv : isI v) (hm : m.ok) (hp : isI p) (ht : isI t) (he : (learnL room r v m p t).2.2 = 0) :
    ∃ x, atK (learnL room r v m p t).1 (v, m) = some x ∧ ((x.static = true ∧ (learnL room r v m p t).2.1 = 0) ∨ (x.port = p ∧ x.at_ = t)) := by
  have hx : (⟨v, m, p, t, false⟩ : Ent).ok := ⟨hv, hm, hp, ht⟩
  have hw : atK (withL r ⟨v, m, p, t, false⟩) (v, m) = some ⟨v, m, p, t, false⟩ := by
    rw [atK_with h hx]
    exact if_pos rfl
  unfold learnL at he ⊢
  split at he
  · rename_i hc
    rw [if_pos hc]
    split at he
    · rename_i e ha
      split at he
      · rename_i hst
        simp only [ha, hst, if_true]
        exact ⟨e, rfl, .inl ⟨hst, by simp⟩⟩
      · rename_i hst
        simp only [ha, hst, if_false]
        exact ⟨_, hw, .inr ⟨rfl, rfl⟩⟩
    · rename_i ha
      split at he
      · cases he
      · rename_i hfull
        simp only [ha, if_neg hfull]
        exact ⟨_, hw, .inr ⟨rfl, rfl⟩⟩
  · cases he
theorem learn_no {room : Nat} {r : List Ent} {v p t : Int} {m : Mac} (he : (learnL room r v m p t).2.2 ≠ 0) :
    (learnL room r v m p t).1 = r ∧ (learnL room r v m p t).2.1 = 0 ∧ ((learnL room r v m p t).2.2 = 1 ∨ ((learnL room r v m p t).2.2 = 3 ∧ room ≤ r.length ∧ atK r (v, m) = none)) := by
  unfold learnL at he ⊢
  split at he
  · rename_i hc
    rw [if_pos hc]
    split at he
    · rename_i e ha
      split at he
      · exact absurd rfl he
      · exact absurd rfl he
    · rename_i ha
      split at he
      · rename_i hfull
        simp only [ha, if_pos hfull]
        simp [hfull]
      · exact absurd rfl he
  · rename_i hc
    rw [if_neg hc]
    simp

end Go.Gx.S

namespace Go.Gx.S
open Go Go.Gx Go.Proofs
variable {K : Value → World → Prop} {w : World}

theorem ge_none {w0 w w' : World} {N : Nat} (h : w0.heap.size ≤ N) (hF : Fr none_ w0 w) (hF' : Fr (ge N) w w') : Fr none_ w0 w' := hF.trans_new hF' fun b hb e => by
  unfold ge at e
  omega

theorem flast_law {lv : Value} {st : List FStp} {s : FStp} (hl : RdE 11 w lv (st.map FStp.cells)) (hso : ∀ s ∈ st, s.ok) (hs : s.ok) (h : ∀ w', Fr none_ w w' → K (.bool true) w') :
    CallsR Try.prog 4 #[lv, .agg s.cells.toArray] K w := by
  apply c4
  unfold p4
  obtain ⟨hd, hv, hm, hp, htm, hn⟩ := hs
  have hF : Fr none_ w (w.alloc (cellsO s.cells 26)) := (by repeat' first | with_reducible exact Fr.refl _ _ | with_reducible refine Fr.step_alloc ?_ ?_ | with_reducible refine Fr.step_drew ?_ | with_reducible refine Fr.step_wr ?_ ?_ _ _ | exact rfl | exact Or.inr (by omega) | exact Or.inl rfl | exact Or.inl (Or.inl rfl) | exact Or.inl (Or.inr rfl))
  have hx : (w.alloc (cellsO s.cells 26)).heap[w.heap.size]? = some (cellsO s.cells 26) := by simp only [push_cast, Nat.reduceAdd, Nat.reduceLeDiff, Nat.reduceLT, Int.reduceToNat, Nat.left_eq_add, Nat.add_eq_left, Nat.add_left_cancel_iff, Nat.reduceEqDiff, Nat.add_assoc, Nat.succ_ne_zero]
  simp only [opS_box, cells_agg, alloc_cellsO]
  have hxs := lt_of_heap hx
  generalize w.alloc (cellsO s.cells 26) = W at *
  simp only [push_cast, Nat.reduceAdd, Nat.reduceLeDiff, Nat.reduceLT, Int.reduceToNat, Nat.left_eq_add, Nat.add_eq_left, Nat.add_left_cancel_iff, Nat.reduceEqDiff, Nat.add_assoc, Nat.succ_ne_zero]
  refine awake_spec fun w1 hF1 => ?_
  have hs1 := hF1.size
  replace hF := hF.trans hF1
  replace hx := hF1.heap hx fun h => h
  simp only [push_cast, Nat.reduceAdd, Nat.reduceLeDiff, Nat.reduceLT, Int.reduceToNat, Nat.left_eq_add, Nat.add_eq_left, Nat.add_left_cancel_iff, Nat.reduceEqDiff, Nat.add_assoc, Nat.succ_ne_zero]
  refine made_spec (hl.fr hF fun _ _ h => h) hso (fun hbad w2 hF2 => absurd hbad (by decide)) fun g1 g2 w2 p q hj hF2 => ?_
  have ht := hj.x
  clear hj
  have hN : w.heap.size < w1.heap.size := by omega
  have hwN := hF.size
  replace hF := hF.trans hF2
  replace hx := hF2.heap hx fun h => h
  have e8 : Int.toNat 8 = 8 := rfl
  rw [e8] at ht
  generalize w1.heap.size = N at *
  generalize (st.take 150).foldl _ [] = r at *
  simp only [push_cast, Nat.reduceAdd, Nat.reduceLeDiff, Nat.reduceLT, Int.reduceToNat, Nat.left_eq_add, Nat.add_eq_left, Nat.add_left_cancel_iff, Nat.reduceEqDiff, Nat.add_assoc, Nat.succ_ne_zero]
  refine jn0 (fun w' => False) (fun w' hF => hF.elim) fun j hjj => ?_
  simp only [push_cast, Nat.reduceAdd, Nat.reduceLeDiff, Nat.reduceLT, Int.reduceToNat, Nat.left_eq_add, Nat.add_eq_left, Nat.add_left_cancel_iff, Nat.reduceEqDiff, Nat.add_assoc, Nat.succ_ne_zero, Bool.not_true, hx]
  have hsrt := ht.srt
  refine learnX ht hv hm hp htm fun w3 ht3 hF3 => ?_
  have hx3 := hF3.heap hx (by unfold ge; omega)
  replace hF := ge_none (by omega) hF hF3
  simp only [push_cast, Nat.reduceAdd, Nat.reduceLeDiff, Nat.reduceLT, Int.reduceToNat, Nat.left_eq_add, Nat.add_eq_left, Nat.add_left_cancel_iff, Nat.reduceEqDiff, Nat.add_assoc, Nat.succ_ne_zero]
  refine br_intro (fun he => ?_) fun he => ?_
  · have he : (learnL 8 r s.v s.m s.p s.t).2.2 ≠ 0 := by simpa using he
    obtain ⟨n1, n2, n3⟩ := learn_no he
    rw [n1] at ht3
    have hcap := ht3.cap
    rw [n2, jn_1]
    simp only [push_cast, Nat.reduceAdd, Nat.reduceLeDiff, Nat.reduceLT, Int.reduceToNat, Nat.left_eq_add, Nat.add_eq_left, Nat.add_left_cancel_iff, Nat.reduceEqDiff, Nat.add_assoc, Nat.succ_ne_zero]
    refine br_intro (fun _ => ?_) fun e => by simp at e
    refine br_intro (fun _ => h _ hF) fun h1 => ?_
    rcases n3 with n3 | ⟨n3, n4, n5⟩
    · rw [n3] at h1; simp at h1
    rw [n3]
    refine br_intro (fun _ => ?_) fun e => by simp at e
    refine lenX ht3 ?_
    simp only [push_cast, Nat.reduceAdd, Nat.reduceLeDiff, Nat.reduceLT, Int.reduceToNat, Nat.left_eq_add, Nat.add_eq_left, Nat.add_left_cancel_iff, Nat.reduceEqDiff, Nat.add_assoc, Nat.succ_ne_zero]
    have : (((r.length : Nat) : Int) == 8) = true := by
      have : r.length = 8 := by omega
      rw [this]; rfl
    rw [this]
    exact h _ hF
  have he : (learnL 8 r s.v s.m s.p s.t).2.2 = 0 := by simpa using he
  obtain ⟨x, hxa, hxc⟩ := learn_ok hsrt hv hm hp htm he
  have hr3 := ht3.srt
  generalize (learnL 8 r s.v s.m s.p s.t).2.1 = kk at *
  generalize (learnL 8 r s.v s.m s.p s.t).1 = r1 at *
  refine jn0 (fun w' => ∃ r', FTx N w' p 8 r' ∧ atK r' (s.v, s.m) = some x ∧ Fr none_ w w' ∧ w'.heap[w.heap.size]? = some (cellsO s.cells 26)) ?_ fun j1 hj1 => ?_
  · rintro w4 ⟨r', ht4, ha4, hF4, hx4⟩
    simp only [push_cast, Nat.reduceAdd, Nat.reduceLeDiff, Nat.reduceLT, Int.reduceToNat, Nat.left_eq_add, Nat.add_eq_left, Nat.add_left_cancel_iff, Nat.reduceEqDiff, Nat.add_assoc, Nat.succ_ne_zero, hx4]
    refine lookX ht4 hv hm fun w5 hF5 => ?_
    have hlk : lookL r' (s.v, s.m) = (x, true) := by unfold lookL; rw [ha4]
    rw [hlk]
    simp only [s_ext, List.getElem?_toArray, List.getElem?_cons_zero, List.getElem?_cons_succ, onS_some]
    refine ent_slot fun _ w6 hw6 hF6 => ?_
    have hx6 := (hF5.trans hF6).heap hx4 fun h => h
    have hF46 := (hF4.trans hF5).trans hF6
    simp only [push_cast, Nat.reduceAdd, Nat.reduceLeDiff, Nat.reduceLT, Int.reduceToNat, Nat.left_eq_add, Nat.add_eq_left, Nat.add_left_cancel_iff, Nat.reduceEqDiff, Nat.add_assoc, Nat.succ_ne_zero, hw6]
    rcases hxc with ⟨x1, x2⟩ | ⟨x1, x2⟩
    · refine br_intro (fun _ => ?_) fun e => by rw [x1] at e; cases e
      rw [x2]
      refine br_intro (fun _ => h _ hF46) fun e => by simp at e
    · have fin : br (x.port == s.p) (K (.bool (x.at_ == s.t)) w6) (K (.bool false) w6) := by
        refine br_intro (fun _ => ?_) fun e => by rw [x1] at e; simp at e
        rw [x2, beq_self_eq_true]
        exact h _ hF46
      refine br_intro (fun _ => ?_) fun _ => ?_
      · refine br_intro (fun _ => h _ hF46) fun _ => ?_
        simp only [push_cast, Nat.reduceAdd, Nat.reduceLeDiff, Nat.reduceLT, Int.reduceToNat, Nat.left_eq_add, Nat.add_eq_left, Nat.add_left_cancel_iff, Nat.reduceEqDiff, Nat.add_assoc, Nat.succ_ne_zero, hw6, hx6]
        exact fin
      · simp only [push_cast, Nat.reduceAdd, Nat.reduceLeDiff, Nat.reduceLT, Int.reduceToNat, Nat.left_eq_add, Nat.add_eq_left, Nat.add_left_cancel_iff, Nat.reduceEqDiff, Nat.add_assoc, Nat.succ_ne_zero, hw6, hx6]
        exact fin
  obtain ⟨la, lc, rfl⟩ := hl.form
  rw [List.length_map] at hl ⊢
  refine loop1 (fun n v w' => ∃ (i : Nat) (r' : List Ent), v = i64 i ∧ n + i = st.length ∧ FTx N w' p 8 r' ∧ atK r' (s.v, s.m) = some x ∧ Fr none_ w w' ∧ w'.heap[w.heap.size]? = some (cellsO s.cells 26)) ?_ st.length ⟨0, r1, rfl, rfl, ht3, hxa, hF, hx3⟩
  rintro n v w4 X ⟨i, r', rfl, hi, ht4, ha4, hF4, hx4⟩ hX
  have hend : j1 w4 := hj1 _ ⟨r', ht4, ha4, hF4, hx4⟩
  simp only [push_cast, Nat.reduceAdd, Nat.reduceLeDiff, Nat.reduceLT, Int.reduceToNat, Nat.left_eq_add, Nat.add_eq_left, Nat.add_left_cancel_iff, Nat.reduceEqDiff, Nat.add_assoc, Nat.succ_ne_zero]
  refine br_dec (fun hlt => ?_) fun _ => hend
  refine br_dec (fun hlt2 => ?_) fun _ => hend
  have hil : i < st.length := by omega
  obtain ⟨gd, gv, gm, gp, gt, gn⟩ := hso _ (List.getElem_mem hil)
  have hsame : ∀ w', Fr none_ w4 w' → X (i64 ((i : Int) + 1)) w' := fun w' hF' => hX (n - 1) _ _ (by omega) ⟨i + 1, r', by simp, by omega, ht4.fr0 hF', ha4, hF4.trans hF', hF'.heap hx4 fun h => h⟩
  have hget : ∀ {w' : World} {R : Value → World → Prop} (hF' : Fr none_ w w') (hk : ∀ b o, El w' b o (st[i]).cells → R (pt b o) w'), opS Try.prog (S.ia 22 (.slice la st.length lc) (i64 i)) R w' := fun hF' hk => by
    refine s_iaE (hl.fr hF' fun _ _ h => h) (by omega) (by simpa using hil) fun b o _ _ he => ?_
    simp only [Int.toNat_natCast, List.getElem_map] at he ⊢
    exact hk _ _ he
  generalize st[i] = y at *
  refine jn0 (fun w' => Fr none_ w4 w' ∧ (s.v, s.m) ≠ (y.v, y.m)) ?_ fun j3 hj3 => ?_
  · rintro w5 ⟨hF5, hne⟩
    have hF5d := (hF4.trans hF5).trans (Fr.drew w5)
    have hx5 := (hF5.trans (Fr.drew w5)).heap hx4 fun h => h
    have ht5 := ht4.fr0 (hF5.trans (Fr.drew w5))
    simp only [drw_eq]
    generalize w5.drew = w6 at *
    refine hget hF5d fun _ _ he => ?_
    have e1 := he.cell 1 (by rw [FStp.len]; decide)
    simp only [push_cast, Nat.reduceAdd, Nat.reduceLeDiff, Nat.reduceLT, Int.reduceToNat, Nat.left_eq_add, Nat.add_eq_left, Nat.add_left_cancel_iff, Nat.reduceEqDiff, Nat.add_assoc, Nat.succ_ne_zero, e1]
    refine hget hF5d fun _ _ he => ?_
    have e2 := he.agg 2 6 (by rw [FStp.len]; decide)
    simp only [push_cast, Nat.reduceAdd, Nat.reduceLeDiff, Nat.reduceLT, Int.reduceToNat, Nat.left_eq_add, Nat.add_eq_left, Nat.add_left_cancel_iff, Nat.reduceEqDiff, Nat.add_assoc, Nat.succ_ne_zero, e2]
    refine hget hF5d fun _ _ he => ?_
    have e3 := he.cell 8 (by rw [FStp.len]; decide)
    simp only [push_cast, Nat.reduceAdd, Nat.reduceLeDiff, Nat.reduceLT, Int.reduceToNat, Nat.left_eq_add, Nat.add_eq_left, Nat.add_left_cancel_iff, Nat.reduceEqDiff, Nat.add_assoc, Nat.succ_ne_zero, e3]
    refine hget hF5d fun _ _ he => ?_
    have e4 := he.cell 9 (by rw [FStp.len]; decide)
    simp only [push_cast, Nat.reduceAdd, Nat.reduceLeDiff, Nat.reduceLT, Int.reduceToNat, Nat.left_eq_add, Nat.add_eq_left, Nat.add_left_cancel_iff, Nat.reduceEqDiff, Nat.add_assoc, Nat.succ_ne_zero, e4]
    refine learnX ht5 gv gm gp gt fun w7 ht7 hF7 => ?_
    simp only [push_cast, Nat.reduceAdd, Nat.reduceLeDiff, Nat.reduceLT, Int.reduceToNat, Nat.left_eq_add, Nat.add_eq_left, Nat.add_left_cancel_iff, Nat.reduceEqDiff, Nat.add_assoc, Nat.succ_ne_zero]
    rw [wrap_i64 (by omega)]
    exact hX (n - 1) _ _ (by omega) ⟨i + 1, _, by simp, by omega, ht7, by rw [learn_at ht5.srt gv gm gp gt hne]; exact ha4, ge_none (by omega) hF5d hF7, hF7.heap hx5 (by unfold ge; omega)⟩
  · have hFd := hF4.trans (Fr.drew w4)
    have hxd := (Fr.drew (fp := none_) w4).heap hx4 fun h => h
    have hFd4 : Fr none_ w4 w4.drew := Fr.drew w4
    simp only [drw_eq]
    generalize w4.drew = w5 at *
    refine hget hFd fun _ _ he => ?_
    have e0 := he.cell 0 (by rw [FStp.len]; decide)
    rw [Nat.add_zero] at e0
    simp only [push_cast, Nat.reduceAdd, Nat.reduceLeDiff, Nat.reduceLT, Int.reduceToNat, Nat.left_eq_add, Nat.add_eq_left, Nat.add_left_cancel_iff, Nat.reduceEqDiff, Nat.add_assoc, Nat.succ_ne_zero, e0]
    refine br_intro (fun _ => ?_) fun _ => ?_
    case refine_2 =>
      rw [wrap_i64 (by omega)]
      exact hsame _ hFd4
    refine hget hFd fun _ _ he => ?_
    have e1 := he.cell 1 (by rw [FStp.len]; decide)
    simp only [push_cast, Nat.reduceAdd, Nat.reduceLeDiff, Nat.reduceLT, Int.reduceToNat, Nat.left_eq_add, Nat.add_eq_left, Nat.add_left_cancel_iff, Nat.reduceEqDiff, Nat.add_assoc, Nat.succ_ne_zero, e1, hxd]
    refine br_intro (fun hne => hj3 _ ⟨hFd4, fun e => ?_⟩) fun hne => ?_
    · have := congrArg Prod.fst e
      simp only at this
      rw [this] at hne
      simp at hne
    refine hget hFd fun _ _ he => ?_
    have e2 := he.agg 2 6 (by rw [FStp.len]; decide)
    simp only [push_cast, Nat.reduceAdd, Nat.reduceLeDiff, Nat.reduceLT, Int.reduceToNat, Nat.left_eq_add, Nat.add_eq_left, Nat.add_left_cancel_iff, Nat.reduceEqDiff, Nat.add_assoc, Nat.succ_ne_zero, e2, hxd]
    refine s_neqG (MacT.enc (P := Try.prog) (T := 24) (d := 6) gm) (MacT.enc (P := Try.prog) (T := 24) (d := 6) hm) fun z hz => ?_
    rw [Mac.lits_inj] at hz
    simp only [push_cast, Nat.reduceAdd, Nat.reduceLeDiff, Nat.reduceLT, Int.reduceToNat, Nat.left_eq_add, Nat.add_eq_left, Nat.add_left_cancel_iff, Nat.reduceEqDiff, Nat.add_assoc, Nat.succ_ne_zero]
    refine br_intro (fun hne => hj3 _ ⟨hFd4, fun e => ?_⟩) fun hne => ?_
    · have := congrArg Prod.snd e
      simp only at this
      rw [hz.2 this.symm] at hne
      cases hne
    · rw [wrap_i64 (by omega)]
      exact hsame _ hFd4

/-! ### A station that moves -/

/-- learned again -/
theorem learn_again {room : Nat} {r : List Ent} {v p t : Int} {m : Mac} {x : Ent} (h : Srt r) (hx : atK r (v, m) = some x) :
    learnL room r v m p t = if rightB v m p && timedB t then (if x.static then (r, 0, 0) else (withL r ⟨v, m, p, t, false⟩, if x.port = p then 0 else 2, 0)) else (r, 0, 1) := by
  unfold learnL
  rw [hx]

theorem learn_le {room : Nat} {r : List Ent} {v p t : Int} {m : Mac} : (learnL room r v m p t).2.1 ≤ 2 := by
  unfold learnL
  split
  · split
    · split
      · simp
      · simp only
        split <;> omega
    · split
      · simp
      · simp
  · simp

theorem moves_pure {r : List Ent} {v p port t : Int} {m : Mac} (h : Srt r) (hv : isI v) (hm : m.ok) (hp : isI p) (hpo : isI port) (ht : isI t) (he : (learnL 8 r v m p t).2.2 = 0) (hs1 : Srt (learnL 8 r v m p t).1) :
    ∃ x, atK (learnL 8 (learnL 8 (learnL 8 r v m p t).1 v m port t).1 v m port t).1 (v, m) = some x ∧
      ((learnL 8 (learnL 8 r v m p t).1 v m port t).2.2 ≠ 0 → (learnL 8 (learnL 8 r v m p t).1 v m port t).2.2 = 1 ∧ (learnL 8 (learnL 8 (learnL 8 r v m p t).1 v m port t).1 v m port t).2.2 = 1) ∧
      ((learnL 8 (learnL 8 r v m p t).1 v m port t).2.2 = 0 → (learnL 8 (learnL 8 r v m p t).1 v m port t).2.1 = (if port ≠ p ∧ x.static = false then 2 else 0) ∧
        (learnL 8 (learnL 8 (learnL 8 r v m p t).1 v m port t).1 v m port t).2.1 = 0 ∧ (learnL 8 (learnL 8 (learnL 8 r v m p t).1 v m port t).1 v m port t).2.2 = 0 ∧
        (learnL 8 (learnL 8 (learnL 8 r v m p t).1 v m port t).1 v m port t).1.length = (learnL 8 r v m p t).1.length ∧ (x.static = true ∨ x.port = port)) := by
  obtain ⟨x, hxa, hxc⟩ := learn_ok h hv hm hp ht he
  generalize (learnL 8 r v m p t).1 = r1 at *
  have hy : (⟨v, m, port, t, false⟩ : Ent).ok := ⟨hv, hm, hpo, ht⟩
  have e2 := learn_again (room := 8) (p := port) (t := t) hs1 hxa
  by_cases hc : (rightB v m port && timedB t) = true
  · rw [if_pos hc] at e2
    by_cases hst : x.static = true
    · rw [if_pos hst] at e2
      rw [e2]
      simp only
      rw [e2]
      refine ⟨x, hxa, fun h => absurd rfl h, fun _ => ⟨?_, rfl, rfl, rfl, .inl hst⟩⟩
      rw [if_neg (fun e => by rw [hst] at e; cases e.2)]
    · rw [if_neg hst] at e2
      have hs2 := hs1.with hy
      have ha2 : atK (withL r1 ⟨v, m, port, t, false⟩) (v, m) = some ⟨v, m, port, t, false⟩ := by
        rw [atK_with hs1 hy]
        exact if_pos rfl
      have e3 := learn_again (room := 8) (p := port) (t := t) hs2 ha2
      rw [if_pos hc] at e3
      simp only [Bool.false_eq_true, if_false, if_true] at e3
      rw [e2]
      simp only
      rw [e3]
      have ha3 : atK (withL (withL r1 ⟨v, m, port, t, false⟩) ⟨v, m, port, t, false⟩) (v, m) = some ⟨v, m, port, t, false⟩ := by
        rw [atK_with hs2 hy]
        exact if_pos rfl
      obtain ⟨hm1, hk1⟩ := atK_mem hxa
      obtain ⟨hm2, hk2⟩ := atK_mem ha2
      have hl1 := with_len_old hs1 (x := ⟨v, m, port, t, false⟩) hm1 hk1
      have hl2 := with_len_old hs2 (x := ⟨v, m, port, t, false⟩) hm2 rfl
      refine ⟨_, ha3, fun h => absurd rfl h, fun _ => ⟨?_, rfl, rfl, hl2.trans hl1, .inr rfl⟩⟩
      have hxp : x.port = p := by
        rcases hxc with hxc | hxc
        · exact absurd hxc.1 hst
        · exact hxc.1
      simp only [hxp, and_true, ne_eq]
      by_cases e : p = port
      · rw [if_pos e, if_neg (fun h => h e.symm)]
      · rw [if_neg e, if_pos (fun h => e h.symm)]
  · rw [if_neg hc] at e2
    rw [e2]
    simp only
    rw [e2]
    exact ⟨x, hxa, fun _ => by simp, fun h => by simp at h⟩

theorem fmoves_law {lv : Value} {st : List FStp} {s : FStp} {port : Int} (hl : RdE 11 w lv (st.map FStp.cells)) (hso : ∀ s ∈ st, s.ok) (hs : s.ok) (hpo : isI port) (h : ∀ w', Fr none_ w w' → K (.bool true) w') :
    CallsR Try.prog 8 #[lv, .agg s.cells.toArray, i64 port] K w := by
  apply c8
  unfold p8
  obtain ⟨hd, hv, hm, hp, htm, hn⟩ := hs
  have hF : Fr none_ w (w.alloc (cellsO s.cells 26)) := (by repeat' first | with_reducible exact Fr.refl _ _ | with_reducible refine Fr.step_alloc ?_ ?_ | with_reducible refine Fr.step_drew ?_ | with_reducible refine Fr.step_wr ?_ ?_ _ _ | exact rfl | exact Or.inr (by omega) | exact Or.inl rfl | exact Or.inl (Or.inl rfl) | exact Or.inl (Or.inr rfl))
  have hx : (w.alloc (cellsO s.cells 26)).heap[w.heap.size]? = some (cellsO s.cells 26) := by simp only [push_cast, Nat.reduceAdd, Nat.reduceLeDiff, Nat.reduceLT, Int.reduceToNat, Nat.left_eq_add, Nat.add_eq_left, Nat.add_left_cancel_iff, Nat.reduceEqDiff, Nat.add_assoc, Nat.succ_ne_zero]
  simp only [opS_box, cells_agg, alloc_cellsO]
  have hxs := lt_of_heap hx
  generalize w.alloc (cellsO s.cells 26) = W at *
  simp only [push_cast, Nat.reduceAdd, Nat.reduceLeDiff, Nat.reduceLT, Int.reduceToNat, Nat.left_eq_add, Nat.add_eq_left, Nat.add_left_cancel_iff, Nat.reduceEqDiff, Nat.add_assoc, Nat.succ_ne_zero]
  refine awake_spec fun w1 hF1 => ?_
  have hs1 := hF1.size
  replace hF := hF.trans hF1
  replace hx := hF1.heap hx fun h => h
  simp only [push_cast, Nat.reduceAdd, Nat.reduceLeDiff, Nat.reduceLT, Int.reduceToNat, Nat.left_eq_add, Nat.add_eq_left, Nat.add_left_cancel_iff, Nat.reduceEqDiff, Nat.add_assoc, Nat.succ_ne_zero]
  refine made_spec (hl.fr hF fun _ _ h => h) hso (fun hbad w2 hF2 => absurd hbad (by decide)) fun g1 g2 w2 p q hj hF2 => ?_
  have ht := hj.x
  clear hj
  have hN : w.heap.size < w1.heap.size := by omega
  replace hF := hF.trans hF2
  replace hx := hF2.heap hx fun h => h
  have e8 : Int.toNat 8 = 8 := rfl
  rw [e8] at ht
  generalize w1.heap.size = N at *
  generalize (st.take 150).foldl _ [] = r at *
  simp only [push_cast, Nat.reduceAdd, Nat.reduceLeDiff, Nat.reduceLT, Int.reduceToNat, Nat.left_eq_add, Nat.add_eq_left, Nat.add_left_cancel_iff, Nat.reduceEqDiff, Nat.add_assoc, Nat.succ_ne_zero]
  refine jn0 (fun w' => False) (fun w' hF => hF.elim) fun j hjj => ?_
  simp only [push_cast, Nat.reduceAdd, Nat.reduceLeDiff, Nat.reduceLT, Int.reduceToNat, Nat.left_eq_add, Nat.add_eq_left, Nat.add_left_cancel_iff, Nat.reduceEqDiff, Nat.add_assoc, Nat.succ_ne_zero, Bool.not_true, hx]
  have hsrt := ht.srt
  refine learnX ht hv hm hp htm fun w3 ht3 hF3 => ?_
  have hx3 := hF3.heap hx (by unfold ge; omega)
  replace hF := ge_none (by omega) hF hF3
  have hs1 := ht3.srt
  simp only [push_cast, Nat.reduceAdd, Nat.reduceLeDiff, Nat.reduceLT, Int.reduceToNat, Nat.left_eq_add, Nat.add_eq_left, Nat.add_left_cancel_iff, Nat.reduceEqDiff, Nat.add_assoc, Nat.succ_ne_zero]
  refine lenX ht3 ?_
  simp only [push_cast, Nat.reduceAdd, Nat.reduceLeDiff, Nat.reduceLT, Int.reduceToNat, Nat.left_eq_add, Nat.add_eq_left, Nat.add_left_cancel_iff, Nat.reduceEqDiff, Nat.add_assoc, Nat.succ_ne_zero, hx3]
  refine learnX ht3 hv hm hpo htm fun w4 ht4 hF4 => ?_
  have hx4 := hF4.heap hx3 (by unfold ge; omega)
  replace hF := ge_none (by omega) hF hF4
  simp only [push_cast, Nat.reduceAdd, Nat.reduceLeDiff, Nat.reduceLT, Int.reduceToNat, Nat.left_eq_add, Nat.add_eq_left, Nat.add_left_cancel_iff, Nat.reduceEqDiff, Nat.add_assoc, Nat.succ_ne_zero, hx4]
  refine learnX ht4 hv hm hpo htm fun w5 ht5 hF5 => ?_
  have hx5 := hF5.heap hx4 (by unfold ge; omega)
  replace hF := ge_none (by omega) hF hF5
  simp only [push_cast, Nat.reduceAdd, Nat.reduceLeDiff, Nat.reduceLT, Int.reduceToNat, Nat.left_eq_add, Nat.add_eq_left, Nat.add_left_cancel_iff, Nat.reduceEqDiff, Nat.add_assoc, Nat.succ_ne_zero]
  refine br_intro (fun he => ?_) fun he => ?_
  · have he : (learnL 8 r s.v s.m s.p s.t).2.2 ≠ 0 := by simpa using he
    rw [(learn_no he).2.1]
    exact h _ hF
  have he : (learnL 8 r s.v s.m s.p s.t).2.2 = 0 := by simpa using he
  obtain ⟨x, hxa, hbad, hgood⟩ := moves_pure hsrt hv hm hp hpo htm he hs1
  have hle := learn_le (room := 8) (r := r) (v := s.v) (m := s.m) (p := s.p) (t := s.t)
  generalize (learnL 8 r s.v s.m s.p s.t).2.1 = a0 at *
  generalize (learnL 8 r s.v s.m s.p s.t).1 = r1 at *
  generalize (learnL 8 r1 s.v s.m port s.t).2 = b0 at *
  generalize (learnL 8 r1 s.v s.m port s.t).1 = r2 at *
  generalize (learnL 8 r2 s.v s.m port s.t).2 = c0 at *
  generalize (learnL 8 r2 s.v s.m port s.t).1 = r3 at *
  simp only [push_cast, Nat.reduceAdd, Nat.reduceLeDiff, Nat.reduceLT, Int.reduceToNat, Nat.left_eq_add, Nat.add_eq_left, Nat.add_left_cancel_iff, Nat.reduceEqDiff, Nat.add_assoc, Nat.succ_ne_zero, hx5]
  refine lookX ht5 hv hm fun w6 hF6 => ?_
  have hlk : lookL r3 (s.v, s.m) = (x, true) := by unfold lookL; rw [hxa]
  rw [hlk]
  simp only [s_ext, List.getElem?_toArray, List.getElem?_cons_zero, List.getElem?_cons_succ, onS_some]
  refine ent_slot fun _ w7 hw7 hF7 => ?_
  have hF67 := hF6.trans hF7
  have hx7 := hF67.heap hx5 fun h => h
  have ht7 := ht5.fr0 hF67
  replace hF := hF.trans hF67
  simp only [push_cast, Nat.reduceAdd, Nat.reduceLeDiff, Nat.reduceLT, Int.reduceToNat, Nat.left_eq_add, Nat.add_eq_left, Nat.add_left_cancel_iff, Nat.reduceEqDiff, Nat.add_assoc, Nat.succ_ne_zero]
  refine br_intro (fun hf => ?_) fun hf => ?_
  · obtain ⟨q1, q2⟩ := hbad (by simpa using hf)
    rw [jn_1, q1, q2]
    simp only [push_cast, Nat.reduceAdd, Nat.reduceLeDiff, Nat.reduceLT, Int.reduceToNat, Nat.left_eq_add, Nat.add_eq_left, Nat.add_left_cancel_iff, Nat.reduceEqDiff, Nat.add_assoc, Nat.succ_ne_zero]
    refine br_intro (fun _ => ?_) fun e => by simp at e
    refine br_intro (fun _ => ?_) fun e => by simp at e
    exact h _ hF
  obtain ⟨q1, q2, q3, q4, q5⟩ := hgood (by simpa using hf)
  have fin : ∀ y : Int, y = b0.1 → ∀ w', w' = w7 → opS Try.prog (S.binI .leq (i64 a0) (.int .i64 2)) (fun x54 => brn x54 (opS Try.prog (S.binI .eql (i64 b0.1) (i64 y)) fun x55 => brn x55 (opS Try.prog (S.binI .eql (i64 c0.1) (.int .i64 0)) fun x56 => brn x56 (opS Try.prog (S.binI .eql (i64 c0.2) (.int .i64 0)) fun x57 => brn x57 (opS Try.prog (S.cl 15 [pt p 0]) fun x58 => opS Try.prog (S.binI .eql x58 (i64 r1.length)) fun x59 => brn x59 (opS Try.prog (S.fa 33 (pt w6.heap.size 0) 4) fun x60 => opS Try.prog (S.ld 4 x60) fun x61 => brn x61 (K (.bool true)) (opS Try.prog (S.fa 33 (pt w6.heap.size 0) 2) fun x62 => opS Try.prog (S.ld 3 x62) fun x63 => opS Try.prog (S.binI .eql x63 (i64 port)) fun x64 => K x64)) (K (.bool false))) (K (.bool false))) (K (.bool false))) (K (.bool false))) (K (.bool false))) w' := by
    rintro y rfl w' rfl
    rw [q2, q3]
    simp only [push_cast, Nat.reduceAdd, Nat.reduceLeDiff, Nat.reduceLT, Int.reduceToNat, Nat.left_eq_add, Nat.add_eq_left, Nat.add_left_cancel_iff, Nat.reduceEqDiff, Nat.add_assoc, Nat.succ_ne_zero]
    refine br_dec (fun _ => ?_) fun hn => absurd hle hn
    refine br_intro (fun _ => ?_) fun e => by simp at e
    refine br_intro (fun _ => ?_) fun e => by simp at e
    refine br_intro (fun _ => ?_) fun e => by simp at e
    refine lenX ht7 ?_
    simp only [push_cast, Nat.reduceAdd, Nat.reduceLeDiff, Nat.reduceLT, Int.reduceToNat, Nat.left_eq_add, Nat.add_eq_left, Nat.add_left_cancel_iff, Nat.reduceEqDiff, Nat.add_assoc, Nat.succ_ne_zero, q4]
    refine br_intro (fun _ => ?_) fun e => by simp at e
    simp only [push_cast, Nat.reduceAdd, Nat.reduceLeDiff, Nat.reduceLT, Int.reduceToNat, Nat.left_eq_add, Nat.add_eq_left, Nat.add_left_cancel_iff, Nat.reduceEqDiff, Nat.add_assoc, Nat.succ_ne_zero, hw7]
    refine br_intro (fun _ => h _ hF) fun hst => ?_
    rcases q5 with q5 | q5
    · rw [q5] at hst; cases hst
    · simp only [push_cast, Nat.reduceAdd, Nat.reduceLeDiff, Nat.reduceLT, Int.reduceToNat, Nat.left_eq_add, Nat.add_eq_left, Nat.add_left_cancel_iff, Nat.reduceEqDiff, Nat.add_assoc, Nat.succ_ne_zero, hw7, q5, beq_self_eq_true]
      exact h _ hF
  refine jn1 (fun v w' => v = i64 b0.1 ∧ w' = w7) (fun v w' ⟨e1, e2⟩ => by rw [e1]; exact fin _ rfl _ e2) fun j1 hj1 => ?_
  refine jn0 (fun w' => w' = w7 ∧ b0.1 = 0) (fun w' ⟨e1, e2⟩ => hj1 _ _ ⟨by rw [e2], e1⟩) fun j2 hj2 => ?_
  simp only [push_cast, Nat.reduceAdd, Nat.reduceLeDiff, Nat.reduceLT, Int.reduceToNat, Nat.left_eq_add, Nat.add_eq_left, Nat.add_left_cancel_iff, Nat.reduceEqDiff, Nat.add_assoc, Nat.succ_ne_zero, hx7]
  refine br_intro (fun hne => ?_) fun hne => hj2 _ ⟨rfl, ?_⟩
  · have hne : port ≠ s.p := by simpa using hne
    simp only [push_cast, Nat.reduceAdd, Nat.reduceLeDiff, Nat.reduceLT, Int.reduceToNat, Nat.left_eq_add, Nat.add_eq_left, Nat.add_left_cancel_iff, Nat.reduceEqDiff, Nat.add_assoc, Nat.succ_ne_zero, hw7]
    refine br_intro (fun hst => hj1 _ _ ⟨?_, rfl⟩) fun hst => hj2 _ ⟨rfl, ?_⟩
    · rw [q1, if_pos ⟨hne, by simpa using hst⟩]
    · rw [q1, if_neg (fun e => by rw [e.2] at hst; cases hst)]
  · rw [q1, if_neg (fun e => by rw [bne_iff_ne.2 e.1] at hne; cases hne)]

end Go.Gx.S

namespace Go.Gx.S
open Go Go.Gx Go.Proofs
variable {K : Value → World → Prop} {w : World}

theorem filter_at {l : List Ent} (P : Ent → Bool) {n : Nat} (hn : n < l.length) (hp : P l[n] = true) : (l.filter P)[((l.take n).filter P).length]? = some l[n] := by
  have e : l.filter P = (l.take n).filter P ++ l[n] :: (l.drop (n + 1)).filter P := by
    have h1 : l = l.take n ++ l[n] :: l.drop (n + 1) := by rw [List.getElem_cons_drop, List.take_append_drop]
    have h2 := congrArg (List.filter P) h1
    rw [List.filter_append, List.filter_cons_of_pos hp] at h2
    exact h2
  rw [e, List.getElem?_append_right (Nat.le_refl _), Nat.sub_self]
  rfl
theorem filter_next {l : List Ent} (P : Ent → Bool) {n : Nat} (hn : n < l.length) : ((l.take (n + 1)).filter P).length = ((l.take n).filter P).length + (if P l[n] = true then 1 else 0) := by
  rw [List.take_succ_eq_append_getElem hn, List.filter_append, List.length_append]
  congr 1
  by_cases e : P l[n] = true <;> simp [e]

theorem fforgets_law {lv : Value} {st : List FStp} {s : FStp} (hl : RdE 11 w lv (st.map FStp.cells)) (hso : ∀ s ∈ st, s.ok) (hs : s.ok) (h : ∀ w', Fr none_ w w' → K (.bool true) w') :
    CallsR Try.prog 6 #[lv, .agg s.cells.toArray] K w := by
  apply c6
  unfold p6
  obtain ⟨hd, hv, hm, hp, htm, hn⟩ := hs
  have hF : Fr none_ w (w.alloc (cellsO s.cells 26)) := (by repeat' first | with_reducible exact Fr.refl _ _ | with_reducible refine Fr.step_alloc ?_ ?_ | with_reducible refine Fr.step_drew ?_ | with_reducible refine Fr.step_wr ?_ ?_ _ _ | exact rfl | exact Or.inr (by omega) | exact Or.inl rfl | exact Or.inl (Or.inl rfl) | exact Or.inl (Or.inr rfl))
  have hx : (w.alloc (cellsO s.cells 26)).heap[w.heap.size]? = some (cellsO s.cells 26) := by simp only [push_cast, Nat.reduceAdd, Nat.reduceLeDiff, Nat.reduceLT, Int.reduceToNat, Nat.left_eq_add, Nat.add_eq_left, Nat.add_left_cancel_iff, Nat.reduceEqDiff, Nat.add_assoc, Nat.succ_ne_zero]
  simp only [opS_box, cells_agg, alloc_cellsO]
  have hxs := lt_of_heap hx
  generalize w.alloc (cellsO s.cells 26) = W at *
  simp only [push_cast, Nat.reduceAdd, Nat.reduceLeDiff, Nat.reduceLT, Int.reduceToNat, Nat.left_eq_add, Nat.add_eq_left, Nat.add_left_cancel_iff, Nat.reduceEqDiff, Nat.add_assoc, Nat.succ_ne_zero]
  refine awake_spec fun w1 hF1 => ?_
  have hs1 := hF1.size
  replace hF := hF.trans hF1
  replace hx := hF1.heap hx fun h => h
  simp only [push_cast, Nat.reduceAdd, Nat.reduceLeDiff, Nat.reduceLT, Int.reduceToNat, Nat.left_eq_add, Nat.add_eq_left, Nat.add_left_cancel_iff, Nat.reduceEqDiff, Nat.add_assoc, Nat.succ_ne_zero]
  refine made_spec (hl.fr hF fun _ _ h => h) hso (fun hbad w2 hF2 => absurd hbad (by decide)) fun g1 g2 w2 p q hj hF2 => ?_
  obtain ⟨pb, o, c, ps, ht, hNp, hNpb⟩ := hj.x
  clear hj
  have hN : w.heap.size < w1.heap.size := by omega
  replace hF := hF.trans hF2
  replace hx := hF2.heap hx fun h => h
  have e8 : Int.toNat 8 = 8 := rfl
  rw [e8] at ht
  generalize w1.heap.size = N at *
  generalize (st.take 150).foldl _ [] = r at *
  have hsrt := ht.ct.srt
  have hcap := ht.cap
  have hsp : ¬ pp p pb w.heap.size := fun e => by unfold pp at e; omega
  have hppF : ∀ {w0 w' : World}, Fr none_ w w0 → Fr (pp p pb) w0 w' → Fr none_ w w' := fun h1 h2 => h1.trans_new h2 fun b hb e => by unfold pp at e; omega
  simp only [push_cast, Nat.reduceAdd, Nat.reduceLeDiff, Nat.reduceLT, Int.reduceToNat, Nat.left_eq_add, Nat.add_eq_left, Nat.add_left_cancel_iff, Nat.reduceEqDiff, Nat.add_assoc, Nat.succ_ne_zero]
  refine jn0 (fun w' => Fr none_ w w') (fun w' hF => ?_) fun j hjj => ?_
  · rw [jn_1]
    simp only [push_cast, Nat.reduceAdd, Nat.reduceLeDiff, Nat.reduceLT, Int.reduceToNat, Nat.left_eq_add, Nat.add_eq_left, Nat.add_left_cancel_iff, Nat.reduceEqDiff, Nat.add_assoc, Nat.succ_ne_zero]
    exact h _ hF
  simp only [push_cast, Nat.reduceAdd, Nat.reduceLeDiff, Nat.reduceLT, Int.reduceToNat, Nat.left_eq_add, Nat.add_eq_left, Nat.add_left_cancel_iff, Nat.reduceEqDiff, Nat.add_assoc, Nat.succ_ne_zero, Bool.not_true, hx]
  refine br_dec (fun _ => hjj _ hF) fun hd3 => ?_
  refine br_dec (fun _ => hjj _ hF) fun hd5 => ?_
  have hlt := ht.fb.lt
  refine all_spec ht fun w3 b1 a1 c1 ho3 hF3 hb1 => ?_
  have hv3 := ho3.rd
  have hx3 := hF3.heap hx fun h => h
  have ht3 := ht.fr0 hF3
  replace hF := hF.trans hF3
  have hlt3 := ht3.fb.lt
  have hb1p : ∀ b, blkS (Value.slice (some ⟨b1, a1, none⟩) r.length c1) = some b → ¬ pp p pb b := fun b hb e => by
    simp only [blkS, Option.some.injEq] at hb
    unfold pp at e
    omega
  simp only [push_cast, Nat.reduceAdd, Nat.reduceLeDiff, Nat.reduceLT, Int.reduceToNat, Nat.left_eq_add, Nat.add_eq_left, Nat.add_left_cancel_iff, Nat.reduceEqDiff, Nat.add_assoc, Nat.succ_ne_zero, hx3]
  refine jn1 (fun v w' => ∃ (A : Ent → Bool) (ps' : List Ent), FT w' p pb o c 8 ps' (r.filter fun e => !(A e && !e.static)) ∧ RdE 10 w' v ((r.filter fun e => A e && !e.static).map Ent.cells) ∧ RdE 10 w' (.slice (some ⟨b1, a1, none⟩) r.length c1) (r.map Ent.cells) ∧ Fr none_ w w' ∧ w'.heap[w.heap.size]? = some (cellsO s.cells 26) ∧
    ∀ e, A e = true → (s.d = 4 → e.port = s.p) ∧ (s.d = 5 → e.vlan = s.v)) ?_ fun j1 hj1 => ?_
  · rintro v w4 ⟨A, ps4, ht4, hg4, hv4, hF4, hx4, hA⟩
    simp only [push_cast, Nat.reduceAdd, Nat.reduceLeDiff, Nat.reduceLT, Int.reduceToNat, Nat.left_eq_add, Nat.add_eq_left, Nat.add_left_cancel_iff, Nat.reduceEqDiff, Nat.add_assoc, Nat.succ_ne_zero]
    refine all_spec ht4 fun w5 b2 a2 c2 ho5 hF5 hb2 => ?_
    have hg5 := hg4.fr hF5 fun _ _ h => h
    have hv5 := hv4.fr hF5 fun _ _ h => h
    have hx5 := hF5.heap hx4 fun h => h
    have ha5 := ho5.rd
    replace hF := hF4.trans hF5
    clear ht4 hg4 hv4 hF4 hx4 hF5 ho5 hb2 hb1p hjj
    have hG : ∀ e, (A e && !e.static) = true → A e = true ∧ e.static = false := fun e he => by
      simp only [Bool.and_eq_true, Bool.not_eq_true'] at he
      exact he
    obtain ⟨ga, gc, rfl⟩ := hg5.form
    rw [List.length_map] at hg5 ⊢
    have hlg : (r.filter fun e => A e && !e.static).length ≤ r.length := List.length_filter_le _ _
    have hla : (r.filter fun e => !(A e && !e.static)).length ≤ r.length := List.length_filter_le _ _
    have hgok : ∀ e ∈ r.filter (fun e => A e && !e.static), e.ok := fun e he => hsrt.2 e (List.mem_filter.1 he).1
    have haok : ∀ e ∈ r.filter (fun e => !(A e && !e.static)), e.ok := fun e he => hsrt.2 e (List.mem_filter.1 he).1
    refine jn2 (fun x y w' => x = i64 (r.filter fun e => A e && !e.static).length ∧ y = i64 (r.filter fun e => !(A e && !e.static)).length ∧ Fr none_ w w') ?_ fun j2 hj2 => ?_
    · rintro x y w6 ⟨rfl, rfl, hF6⟩
      simp only [push_cast, Nat.reduceAdd, Nat.reduceLeDiff, Nat.reduceLT, Int.reduceToNat, Nat.left_eq_add, Nat.add_eq_left, Nat.add_left_cancel_iff, Nat.reduceEqDiff, Nat.add_assoc, Nat.succ_ne_zero]
      refine br_intro (fun _ => ?_) fun e => by simp at e
      rw [beq_self_eq_true]
      exact h _ hF6
    refine loop3 (fun m x y z w' => ∃ n : Nat, x = i64 ((r.take n).filter fun e => A e && !e.static).length ∧ y = i64 ((r.take n).filter fun e => !(A e && !e.static)).length ∧ z = i64 n ∧ m + n = r.length ∧ Fr none_ w5 w') ?_ r.length ⟨0, rfl, rfl, rfl, rfl, Fr.refl _ _⟩
    rintro m x y z w6 X ⟨n, rfl, rfl, rfl, hmn, hF6⟩ hX
    simp only [push_cast, Nat.reduceAdd, Nat.reduceLeDiff, Nat.reduceLT, Int.reduceToNat, Nat.left_eq_add, Nat.add_eq_left, Nat.add_left_cancel_iff, Nat.reduceEqDiff, Nat.add_assoc, Nat.succ_ne_zero]
    refine br_dec (fun hlt => ?_) fun hge => ?_
    case refine_2 =>
      have : n = r.length := by omega
      subst this
      rw [List.take_length]
      exact hj2 _ _ _ ⟨rfl, rfl, hF.trans hF6⟩
    have hnl : n < r.length := by omega
    have hnx1 := filter_next (l := r) (fun e => A e && !e.static) hnl
    have hnx2 := filter_next (l := r) (fun e => !(A e && !e.static)) hnl
    have hat1 := filter_at (l := r) (fun e => A e && !e.static) hnl
    have hat2 := filter_at (l := r) (fun e => !(A e && !e.static)) hnl
    have hub1 : ((r.take n).filter fun e => A e && !e.static).length ≤ n := Nat.le_trans (List.length_filter_le _ _) (by rw [List.length_take]; omega)
    have hub2 : ((r.take n).filter fun e => !(A e && !e.static)).length ≤ n := Nat.le_trans (List.length_filter_le _ _) (by rw [List.length_take]; omega)
    generalize hi : ((r.take n).filter fun e => A e && !e.static).length = i at *
    generalize hk : ((r.take n).filter fun e => !(A e && !e.static)).length = k at *
    refine jn0 (fun w' => Fr none_ w5 w' ∧ (A r[n] && !r[n].static) = false) ?_ fun j3 hj3 => ?_
    · rintro w7 ⟨hF7, hno⟩
      have hka := hat2 (by simp only [hno]; rfl)
      obtain ⟨hkl, hke⟩ := List.getElem?_eq_some_iff.1 hka
      have hF7d := hF7.trans (Fr.drew w7)
      simp only [push_cast, Nat.reduceAdd, Nat.reduceLeDiff, Nat.reduceLT, Int.reduceToNat, Nat.left_eq_add, Nat.add_eq_left, Nat.add_left_cancel_iff, Nat.reduceEqDiff, Nat.add_assoc, Nat.succ_ne_zero]
      refine br_dec (fun _ => ?_) fun hn => absurd (by omega) hn
      refine s_getE (ha5.fr hF7d fun _ _ h => h) hkl ?_
      refine s_getE (hv5.fr hF7d fun _ _ h => h) hnl ?_
      refine s_eqG (EntT.enc (d := 5) (haok _ (List.getElem_mem hkl))) (EntT.enc (d := 5) (hsrt.2 _ (List.getElem_mem hnl))) fun y hy => ?_
      rw [Ent.lits_inj] at hy
      rw [hy.2 hke]
      simp only [push_cast, Nat.reduceAdd, Nat.reduceLeDiff, Nat.reduceLT, Int.reduceToNat, Nat.left_eq_add, Nat.add_eq_left, Nat.add_left_cancel_iff, Nat.reduceEqDiff, Nat.add_assoc, Nat.succ_ne_zero]
      rw [wrap_i64 (by omega), wrap_i64 (by omega)]
      rw [if_neg (by rw [hno]; simp)] at hnx1
      rw [if_pos (by simp only [hno]; rfl)] at hnx2
      exact hX (m - 1) _ _ _ _ (by omega) ⟨n + 1, by rw [hnx1]; rfl, by rw [hnx2]; simp, by simp, by omega, hF7d⟩
    have hF6d := hF6.trans (Fr.drew w6)
    have hno_of : ¬ ((A r[n] && !r[n].static) = true) → (A r[n] && !r[n].static) = false := fun h => by simpa using h
    simp only [push_cast, Nat.reduceAdd, Nat.reduceLeDiff, Nat.reduceLT, Int.reduceToNat, Nat.left_eq_add, Nat.add_eq_left, Nat.add_left_cancel_iff, Nat.reduceEqDiff, Nat.add_assoc, Nat.succ_ne_zero]
    refine br_dec (fun hil => ?_) fun hil => hj3 _ ⟨hF6d, hno_of fun hy => ?_⟩
    case refine_2 =>
      obtain ⟨hkl, _⟩ := List.getElem?_eq_some_iff.1 (hat1 hy)
      omega
    have hil' : i < (r.filter fun e => A e && !e.static).length := by omega
    refine s_getE (hg5.fr hF6d fun _ _ h => h) hil' ?_
    refine s_getE (hv5.fr hF6d fun _ _ h => h) hnl ?_
    refine s_eqG (EntT.enc (d := 5) (hgok _ (List.getElem_mem hil'))) (EntT.enc (d := 5) (hsrt.2 _ (List.getElem_mem hnl))) fun y hy => ?_
    rw [Ent.lits_inj] at hy
    simp only [push_cast, Nat.reduceAdd, Nat.reduceLeDiff, Nat.reduceLT, Int.reduceToNat, Nat.left_eq_add, Nat.add_eq_left, Nat.add_left_cancel_iff, Nat.reduceEqDiff, Nat.add_assoc, Nat.succ_ne_zero]
    refine br_intro (fun hyt => ?_) fun hyf => hj3 _ ⟨hF6d, hno_of fun hyy => ?_⟩
    case refine_2 =>
      obtain ⟨_, hke⟩ := List.getElem?_eq_some_iff.1 (hat1 hyy)
      rw [hy.2 hke] at hyf
      cases hyf
    have heq := hy.1 hyt
    have hyes : (A r[n] && !r[n].static) = true := by
      have := (List.mem_filter.1 (List.getElem_mem hil')).2
      rw [heq] at this
      exact this
    obtain ⟨hAn, hstn⟩ := hG _ hyes
    obtain ⟨hA4, hA5⟩ := hA _ hAn
    have hF6e := hF6d.trans (Fr.drew w6.drew)
    have hx7 := hF6e.heap hx5 fun h => h
    have hnext : X (i64 ((i : Int) + 1)) (i64 k) (i64 ((n : Int) + 1)) w6.drew.drew := by
      rw [if_pos hyes] at hnx1
      rw [if_neg (by simp only [hyes]; simp)] at hnx2
      exact hX (m - 1) _ _ _ _ (by omega) ⟨n + 1, by rw [hnx1]; simp, by rw [hnx2]; rfl, by simp, by omega, hF6e⟩
    have hget : ∀ {R : Value → World → Prop} (hk : ∀ b o, El w6.drew.drew b o r[n].cells → R (pt b o) w6.drew.drew), opS Try.prog (S.ia 37 (.slice (some ⟨b1, a1, none⟩) r.length c1) (i64 n)) R w6.drew.drew := fun hk => by
      refine s_iaE (hv5.fr hF6e fun _ _ h => h) (by omega) (by simpa using hnl) fun b o _ _ he => ?_
      simp only [Int.toNat_natCast, List.getElem_map] at he ⊢
      exact hk _ _ he
    generalize w6.drew.drew = w8 at *
    refine hget fun _ _ he => ?_
    have e4 := he.cell 9 (by simp [Ent.cells])
    simp only [push_cast, Nat.reduceAdd, Nat.reduceLeDiff, Nat.reduceLT, Int.reduceToNat, Nat.left_eq_add, Nat.add_eq_left, Nat.add_left_cancel_iff, Nat.reduceEqDiff, Nat.add_assoc, Nat.succ_ne_zero, e4, hstn, hx7]
    refine br_intro (fun h4 => ?_) fun h4 => ?_
    · refine hget fun _ _ he => ?_
      have e7 := he.cell 7 (by simp [Ent.cells])
      simp only [push_cast, Nat.reduceAdd, Nat.reduceLeDiff, Nat.reduceLT, Int.reduceToNat, Nat.left_eq_add, Nat.add_eq_left, Nat.add_left_cancel_iff, Nat.reduceEqDiff, Nat.add_assoc, Nat.succ_ne_zero, e7, hx7]
      refine br_intro (fun e => by rw [hA4 (by simpa using h4)] at e; simp at e) fun _ => ?_
      refine br_intro (fun h5 => ?_) fun h5 => ?_
      · refine hget fun _ _ he => ?_
        have e0 := he.cell 0 (by simp [Ent.cells])
        rw [Nat.add_zero] at e0
        simp only [push_cast, Nat.reduceAdd, Nat.reduceLeDiff, Nat.reduceLT, Int.reduceToNat, Nat.left_eq_add, Nat.add_eq_left, Nat.add_left_cancel_iff, Nat.reduceEqDiff, Nat.add_assoc, Nat.succ_ne_zero, e0, hx7]
        refine br_intro (fun e => by rw [hA5 (by simpa using h5)] at e; simp at e) fun _ => ?_
        rw [wrap_i64 (by omega), wrap_i64 (by omega)]
        exact hnext
      · rw [wrap_i64 (by omega), wrap_i64 (by omega)]
        exact hnext
    · skip
      refine br_intro (fun h5 => ?_) fun h5 => ?_
      · refine hget fun _ _ he => ?_
        have e0 := he.cell 0 (by simp [Ent.cells])
        rw [Nat.add_zero] at e0
        simp only [push_cast, Nat.reduceAdd, Nat.reduceLeDiff, Nat.reduceLT, Int.reduceToNat, Nat.left_eq_add, Nat.add_eq_left, Nat.add_left_cancel_iff, Nat.reduceEqDiff, Nat.add_assoc, Nat.succ_ne_zero, e0, hx7]
        refine br_intro (fun e => by rw [hA5 (by simpa using h5)] at e; simp at e) fun _ => ?_
        rw [wrap_i64 (by omega), wrap_i64 (by omega)]
        exact hnext
      · rw [wrap_i64 (by omega), wrap_i64 (by omega)]
        exact hnext
  · simp only [push_cast, Nat.reduceAdd, Nat.reduceLeDiff, Nat.reduceLT, Int.reduceToNat, Nat.left_eq_add, Nat.add_eq_left, Nat.add_left_cancel_iff, Nat.reduceEqDiff, Nat.add_assoc, Nat.succ_ne_zero]
    refine br_intro (fun h3 => ?_) fun h3 => ?_
    · have h3 : s.d = 3 := by simpa using h3
      simp only [push_cast, Nat.reduceAdd, Nat.reduceLeDiff, Nat.reduceLT, Int.reduceToNat, Nat.left_eq_add, Nat.add_eq_left, Nat.add_left_cancel_iff, Nat.reduceEqDiff, Nat.add_assoc, Nat.succ_ne_zero, hx3]
      refine age_spec ht3 (fun hf w4 hF4 => ?_) fun _ w4 ps4 u ht4 hu4 hub hF4 => ?_
      · skip
        have e1 : (r.filter fun e => !((fun _ : Ent => false) e && !e.static)) = r := List.filter_eq_self.2 fun e _ => rfl
        have e2 : (r.filter fun e => (fun _ : Ent => false) e && !e.static) = [] := List.filter_eq_nil_iff.2 fun e _ => by simp
        exact hj1 _ _ ⟨fun _ => false, ps, by rw [e1]; exact ht3.fr0 hF4, by rw [e2]; exact rd_nil _, hv3.fr hF4 fun _ _ h => h, hF.trans hF4, hF4.heap hx3 fun h => h, fun e he => by cases he⟩
      · skip
        exact hj1 _ _ ⟨_, ps4, ht4, hu4, hv3.fr hF4 hb1p, hppF hF hF4, hF4.heap hx3 hsp, fun e _ => ⟨fun h => by omega, fun h => by omega⟩⟩
    · have h3 : s.d ≠ 3 := by simpa using h3
      rw [jn_1]
      simp only [push_cast, Nat.reduceAdd, Nat.reduceLeDiff, Nat.reduceLT, Int.reduceToNat, Nat.left_eq_add, Nat.add_eq_left, Nat.add_left_cancel_iff, Nat.reduceEqDiff, Nat.add_assoc, Nat.succ_ne_zero]
      refine br_intro (fun h4 => ?_) fun h4 => ?_
      · have h4 : s.d = 4 := by simpa using h4
        simp only [push_cast, Nat.reduceAdd, Nat.reduceLeDiff, Nat.reduceLT, Int.reduceToNat, Nat.left_eq_add, Nat.add_eq_left, Nat.add_left_cancel_iff, Nat.reduceEqDiff, Nat.add_assoc, Nat.succ_ne_zero, hx3]
        refine fport_spec ht3 fun w4 ps4 u ht4 hu4 hub hF4 => ?_
        exact hj1 _ _ ⟨_, ps4, ht4, hu4, hv3.fr hF4 hb1p, hppF hF hF4, hF4.heap hx3 hsp, fun e he => ⟨fun _ => by unfold portA at he; simpa using he, fun h => by omega⟩⟩
      · have h4 : s.d ≠ 4 := by simpa using h4
        rw [jn_1]
        simp only [push_cast, Nat.reduceAdd, Nat.reduceLeDiff, Nat.reduceLT, Int.reduceToNat, Nat.left_eq_add, Nat.add_eq_left, Nat.add_left_cancel_iff, Nat.reduceEqDiff, Nat.add_assoc, Nat.succ_ne_zero]
        refine br_intro (fun h5 => ?_) fun h5 => ?_
        · have h5 : s.d = 5 := by simpa using h5
          simp only [push_cast, Nat.reduceAdd, Nat.reduceLeDiff, Nat.reduceLT, Int.reduceToNat, Nat.left_eq_add, Nat.add_eq_left, Nat.add_left_cancel_iff, Nat.reduceEqDiff, Nat.add_assoc, Nat.succ_ne_zero, hx3]
          refine fvlan_spec ht3 fun w4 ps4 u ht4 hu4 hub hF4 => ?_
          exact hj1 _ _ ⟨_, ps4, ht4, hu4, hv3.fr hF4 hb1p, hppF hF hF4, hF4.heap hx3 hsp, fun e he => ⟨fun h => by omega, fun _ => by unfold vlanA at he; simpa using he⟩⟩
        · have h5 : s.d ≠ 5 := by simpa using h5
          omega

end Go.Gx.S

namespace Go.Gx.S
open Go Go.Gx Go.Proofs
variable {K : Value → World → Prop} {w : World}

theorem drop_srt {r : List Ent} (h : Srt r) (n : Nat) : Srt (r.drop n) := ⟨h.1.sublist (List.drop_sublist _ _), fun e he => h.2 e (List.mem_of_mem_drop he)⟩
theorem drop_no {r : List Ent} (h : Srt r) {j : Nat} (hj : j < r.length) : ∀ e ∈ r.drop (j + 1), eKey e ≠ eKey r[j] := fun e he hk => by
  obtain ⟨i, hi, rfl⟩ := List.getElem_of_mem he
  rw [List.getElem_drop] at hk
  rw [List.length_drop] at hi
  have := Srt.idx h (by omega) hj hk
  omega
theorem drop_with {r : List Ent} (h : Srt r) {j : Nat} (hj : j < r.length) : withL (r.drop (j + 1)) r[j] = r.drop j := by
  refine ((drop_srt h _).with (h.2 _ (List.getElem_mem hj))).eq (drop_srt h _) fun e => ?_
  rw [mem_with, List.drop_eq_getElem_cons hj, List.mem_cons]
  exact ⟨fun h1 => h1.imp id fun h1 => h1.1, fun h1 => h1.imp id fun h1 => ⟨h1, drop_no h hj e h1⟩⟩

theorem falone_law {lv : Value} {st : List FStp} (hl : RdE 11 w lv (st.map FStp.cells)) (hso : ∀ s ∈ st, s.ok) (h : ∀ w', Fr none_ w w' → K (.bool true) w') :
    CallsR Try.prog 5 #[lv] K w := by
  apply c5
  unfold p5
  simp only [push_cast, Nat.reduceAdd, Nat.reduceLeDiff, Nat.reduceLT, Int.reduceToNat, Nat.left_eq_add, Nat.add_eq_left, Nat.add_left_cancel_iff, Nat.reduceEqDiff, Nat.add_assoc, Nat.succ_ne_zero]
  refine awake_spec fun w1 hF1 => ?_
  have hF := hF1
  have hs1 := hF1.size
  simp only [push_cast, Nat.reduceAdd, Nat.reduceLeDiff, Nat.reduceLT, Int.reduceToNat, Nat.left_eq_add, Nat.add_eq_left, Nat.add_left_cancel_iff, Nat.reduceEqDiff, Nat.add_assoc, Nat.succ_ne_zero]
  refine made_spec (hl.fr hF fun _ _ h => h) hso (fun hbad w2 hF2 => absurd hbad (by decide)) fun g1 g2 w2 p q hj hF2 => ?_
  obtain ⟨pb, o, c, ps, ht, hNp, hNpb⟩ := hj.x
  clear hj
  replace hF := hF.trans hF2
  have e8 : Int.toNat 8 = 8 := rfl
  rw [e8] at ht
  generalize (st.take 150).foldl _ [] = r at *
  have hsrt := ht.ct.srt
  have hcap := ht.cap
  have hrng := ht.rng
  have hplt := ht.fb.lt
  have hs2 := hF2.size
  simp only [push_cast, Nat.reduceAdd, Nat.reduceLeDiff, Nat.reduceLT, Int.reduceToNat, Nat.left_eq_add, Nat.add_eq_left, Nat.add_left_cancel_iff, Nat.reduceEqDiff, Nat.add_assoc, Nat.succ_ne_zero]
  refine pnew_spec 8 (fun hbad => absurd hbad (by decide)) fun _ _ pu pbu ou cu pus w3 hu hF3 hpu hpbu => ?_
  rw [e8] at hu
  have ht3 := ht.fr0 hF3
  replace hF := hF.trans hF3
  simp only [push_cast, Nat.reduceAdd, Nat.reduceLeDiff, Nat.reduceLT, Int.reduceToNat, Nat.left_eq_add, Nat.add_eq_left, Nat.add_left_cancel_iff, Nat.reduceEqDiff, Nat.add_assoc, Nat.succ_ne_zero]
  refine jn0 (fun w' => False) (fun w' hF => hF.elim) fun j hjj => ?_
  simp only [push_cast, Nat.reduceAdd, Nat.reduceLeDiff, Nat.reduceLT, Int.reduceToNat, Nat.left_eq_add, Nat.add_eq_left, Nat.add_left_cancel_iff, Nat.reduceEqDiff, Nat.add_assoc, Nat.succ_ne_zero, Bool.not_true]
  refine br_intro (fun e => by simp at e) fun _ => ?_
  have hult := hu.fb.lt
  refine all_spec ht3 fun w4 b1 a1 c1 ho4 hF4 hb1 => ?_
  have hv4 := ho4.rd
  have hu4 := hu.fr0 hF4
  replace hF := hF.trans hF4
  simp only [push_cast, Nat.reduceAdd, Nat.reduceLeDiff, Nat.reduceLT, Int.reduceToNat, Nat.left_eq_add, Nat.add_eq_left, Nat.add_left_cancel_iff, Nat.reduceEqDiff, Nat.add_assoc, Nat.succ_ne_zero]
  rw [wrap_i64 (by omega)]
  have hb1p : ∀ b, blkS (Value.slice (some ⟨b1, a1, none⟩) r.length c1) = some b → ¬ pp pu pbu b := fun b hb e => by
    simp only [blkS, Option.some.injEq] at hb
    unfold pp at e
    omega
  refine jn0 (fun w' => ∃ pus', FT w' pu pbu ou cu 8 pus' r ∧ RdE 10 w' (.slice (some ⟨b1, a1, none⟩) r.length c1) (r.map Ent.cells) ∧ Fr none_ w w') ?_ fun j1 hj1 => ?_
  · rintro w5 ⟨pus5, hu5, hv5, hF5⟩
    refine all_spec hu5 fun w6 b2 a2 c2 ho6 hF6 _ => ?_
    simp only [push_cast, Nat.reduceAdd, Nat.reduceLeDiff, Nat.reduceLT, Int.reduceToNat, Nat.left_eq_add, Nat.add_eq_left, Nat.add_left_cancel_iff, Nat.reduceEqDiff, Nat.add_assoc, Nat.succ_ne_zero]
    exact esame_yes ho6.rd (hv5.fr hF6 fun _ _ h => h) hsrt.2 (by omega) fun w7 hF7 => h _ ((hF5.trans hF6).trans hF7)
  refine loop1 (fun n v w' => ∃ pus', v = i64 ((n : Int) - 1) ∧ n ≤ r.length ∧ FT w' pu pbu ou cu 8 pus' (r.drop n) ∧ RdE 10 w' (.slice (some ⟨b1, a1, none⟩) r.length c1) (r.map Ent.cells) ∧ Fr none_ w w') ?_ r.length ⟨pus, rfl, Nat.le_refl _, by rw [List.drop_length]; exact hu4, hv4, hF⟩
  rintro n v w5 X ⟨pus5, rfl, hn, hu5, hv5, hF5⟩ hX
  simp only [push_cast, Nat.reduceAdd, Nat.reduceLeDiff, Nat.reduceLT, Int.reduceToNat, Nat.left_eq_add, Nat.add_eq_left, Nat.add_left_cancel_iff, Nat.reduceEqDiff, Nat.add_assoc, Nat.succ_ne_zero]
  refine br_dec (fun hge => ?_) fun hlt => ?_
  case refine_2 =>
    have : n = 0 := by omega
    subst this
    rw [List.drop_zero] at hu5
    exact hj1 _ ⟨pus5, hu5, hv5, hF5⟩
  obtain ⟨m, rfl⟩ : ∃ m, n = m + 1 := ⟨n - 1, by omega⟩
  have hml : m < r.length := by omega
  have em : ((m + 1 : Nat) : Int) - 1 = (m : Int) := by omega
  have hok := hsrt.2 _ (List.getElem_mem hml)
  obtain ⟨hr1, hr2, hr3⟩ := hrng _ (List.getElem_mem hml)
  have hno := drop_no hsrt hml
  have hdw := drop_with hsrt hml
  have hno' : atK (r.drop (m + 1)) (r[m].vlan, r[m].mac) = none := atK_none hno
  have hlen : (r.drop (m + 1)).length < 8 := by rw [List.length_drop]; omega
  rw [em]
  refine s_getE hv5 hml ?_
  generalize r[m] = x at *
  refine ent_slot fun _ w6 hw6 hF6 => ?_
  have hu6 := hu5.fr0 hF6
  simp only [push_cast, Nat.reduceAdd, Nat.reduceLeDiff, Nat.reduceLT, Int.reduceToNat, Nat.left_eq_add, Nat.add_eq_left, Nat.add_left_cancel_iff, Nat.reduceEqDiff, Nat.add_assoc, Nat.succ_ne_zero, hw6]
  have hrest : ∀ w7 pus7, FT w7 pu pbu ou cu 8 pus7 (r.drop m) → Fr (pp pu pbu) w6 w7 → X (i64 ((m : Int) - 1)) w7 := fun w7 pus7 hu7 hF7 => by
    exact hX m _ _ (by omega) ⟨pus7, rfl, by omega, hu7, (hv5.fr hF6 fun _ _ h => h).fr hF7 hb1p, (hF5.trans hF6).trans_new hF7 fun b hb e => by
      unfold pp at e
      omega⟩
  refine br_intro (fun hst => ?_) fun hst => ?_
  · have hx : (⟨x.vlan, x.mac, x.port, 0, true⟩ : Ent) = x := Ent.ext rfl rfl rfl (hr3 hst).symm hst.symm
    have hp : (putL 8 (r.drop (m + 1)) x.vlan x.mac x.port).1 = r.drop m := by
      unfold putL
      rw [if_pos hr1, hno']
      simp only [if_neg (show ¬ 8 ≤ (r.drop (m + 1)).length by omega)]
      rw [hx, hdw]
    refine put_spec (v := x.vlan) (m := x.mac) hu6 hok.1 hok.2.1 hok.2.2.1 fun w7 pus7 hu7 hF7 => ?_
    rw [hp] at hu7
    simp only [push_cast, Nat.reduceAdd, Nat.reduceLeDiff, Nat.reduceLT, Int.reduceToNat, Nat.left_eq_add, Nat.add_eq_left, Nat.add_left_cancel_iff, Nat.reduceEqDiff, Nat.add_assoc, Nat.succ_ne_zero]
    rw [wrap_i64 (by omega)]
    exact hrest w7 pus7 hu7 hF7
  · have hx : (⟨x.vlan, x.mac, x.port, x.at_, false⟩ : Ent) = x := Ent.ext rfl rfl rfl rfl hst.symm
    have hp : (learnL 8 (r.drop (m + 1)) x.vlan x.mac x.port x.at_).1 = r.drop m := by
      unfold learnL
      rw [hr1, hr2, if_pos (show (true && true) = true from rfl), hno']
      simp only [if_neg (show ¬ 8 ≤ (r.drop (m + 1)).length by omega)]
      rw [hx, hdw]
    refine learn_spec (v := x.vlan) (m := x.mac) hu6 hok.1 hok.2.1 hok.2.2.1 hok.2.2.2 fun w7 pus7 hu7 hF7 => ?_
    rw [hp] at hu7
    simp only [push_cast, Nat.reduceAdd, Nat.reduceLeDiff, Nat.reduceLT, Int.reduceToNat, Nat.left_eq_add, Nat.add_eq_left, Nat.add_left_cancel_iff, Nat.reduceEqDiff, Nat.add_assoc, Nat.succ_ne_zero]
    rw [wrap_i64 (by omega)]
    exact hrest w7 pus7 hu7 hF7

theorem fbounds_law {room : Int} {lv : Value} {st : List FStp} {s : FStp} (hl : RdE 11 w lv (st.map FStp.cells)) (hso : ∀ s ∈ st, s.ok) (hs : s.ok) (h : ∀ w', Fr none_ w w' → K (.bool true) w') :
    CallsR Try.prog 7 #[i64 room, lv, .agg s.cells.toArray] K w := by
  apply c7
  unfold p7
  obtain ⟨hd, hv, hm, hp, htm, hn⟩ := hs
  have hF : Fr none_ w (w.alloc (cellsO s.cells 26)) := (by repeat' first | with_reducible exact Fr.refl _ _ | with_reducible refine Fr.step_alloc ?_ ?_ | with_reducible refine Fr.step_drew ?_ | with_reducible refine Fr.step_wr ?_ ?_ _ _ | exact rfl | exact Or.inr (by omega) | exact Or.inl rfl | exact Or.inl (Or.inl rfl) | exact Or.inl (Or.inr rfl))
  have hx : (w.alloc (cellsO s.cells 26)).heap[w.heap.size]? = some (cellsO s.cells 26) := by simp only [push_cast, Nat.reduceAdd, Nat.reduceLeDiff, Nat.reduceLT, Int.reduceToNat, Nat.left_eq_add, Nat.add_eq_left, Nat.add_left_cancel_iff, Nat.reduceEqDiff, Nat.add_assoc, Nat.succ_ne_zero]
  simp only [opS_box, cells_agg, alloc_cellsO]
  have hxs := lt_of_heap hx
  generalize w.alloc (cellsO s.cells 26) = W at *
  simp only [push_cast, Nat.reduceAdd, Nat.reduceLeDiff, Nat.reduceLT, Int.reduceToNat, Nat.left_eq_add, Nat.add_eq_left, Nat.add_left_cancel_iff, Nat.reduceEqDiff, Nat.add_assoc, Nat.succ_ne_zero]
  refine awake_spec fun w1 hF1 => ?_
  have hs1 := hF1.size
  replace hF := hF.trans hF1
  replace hx := hF1.heap hx fun h => h
  simp only [push_cast, Nat.reduceAdd, Nat.reduceLeDiff, Nat.reduceLT, Int.reduceToNat, Nat.left_eq_add, Nat.add_eq_left, Nat.add_left_cancel_iff, Nat.reduceEqDiff, Nat.add_assoc, Nat.succ_ne_zero]
  refine made_spec (hl.fr hF fun _ _ h => h) hso (fun _ w2 hF2 => ?_) fun g1 g2 w2 p q hj hF2 => ?_
  · simp only [push_cast, Nat.reduceAdd, Nat.reduceLeDiff, Nat.reduceLT, Int.reduceToNat, Nat.left_eq_add, Nat.add_eq_left, Nat.add_left_cancel_iff, Nat.reduceEqDiff, Nat.add_assoc, Nat.succ_ne_zero]
    refine jn0 (fun w' => Fr none_ w w') (fun w' hF => ?_) fun j hj => ?_
    · rw [jn_1]
      simp only [push_cast, Nat.reduceAdd, Nat.reduceLeDiff, Nat.reduceLT, Int.reduceToNat, Nat.left_eq_add, Nat.add_eq_left, Nat.add_left_cancel_iff, Nat.reduceEqDiff, Nat.add_assoc, Nat.succ_ne_zero]
      exact h _ hF
    · simp only [push_cast, Nat.reduceAdd, Nat.reduceLeDiff, Nat.reduceLT, Int.reduceToNat, Nat.left_eq_add, Nat.add_eq_left, Nat.add_left_cancel_iff, Nat.reduceEqDiff, Nat.add_assoc, Nat.succ_ne_zero, Bool.not_true]
      exact hj _ (hF.trans hF2)
  obtain ⟨pb, o, c, ps, ht, hNp, hNpb⟩ := hj.x
  clear hj
  have hN : w.heap.size < w1.heap.size := by omega
  replace hF := hF.trans hF2
  replace hx := hF2.heap hx fun h => h
  obtain ⟨n, rfl⟩ : ∃ n : Nat, room = n := ⟨room.toNat, by omega⟩
  rw [Int.toNat_natCast] at ht
  generalize (st.take 150).foldl _ [] = r at *
  have hsrt := ht.ct.srt
  have hcap := ht.cap
  have hrng := ht.rng
  have hlt := ht.fb.lt
  simp only [push_cast, Nat.reduceAdd, Nat.reduceLeDiff, Nat.reduceLT, Int.reduceToNat, Nat.left_eq_add, Nat.add_eq_left, Nat.add_left_cancel_iff, Nat.reduceEqDiff, Nat.add_assoc, Nat.succ_ne_zero]
  refine jn0 (fun w' => False) (fun w' hF => hF.elim) fun j hjj => ?_
  simp only [push_cast, Nat.reduceAdd, Nat.reduceLeDiff, Nat.reduceLT, Int.reduceToNat, Nat.left_eq_add, Nat.add_eq_left, Nat.add_left_cancel_iff, Nat.reduceEqDiff, Nat.add_assoc, Nat.succ_ne_zero, Bool.not_true]
  refine all_spec ht fun w3 b1 a1 c1 ho3 hF3 hb1 => ?_
  have hv3 := ho3.rd
  have hx3 := hF3.heap hx fun h => h
  have ht3 := ht.fr0 hF3
  replace hF := hF.trans hF3
  have hb1p : ∀ b, blkS (Value.slice (some ⟨b1, a1, none⟩) r.length c1) = some b → ¬ pp p pb b := fun b hb e => by
    simp only [blkS, Option.some.injEq] at hb
    unfold pp at e
    omega
  refine jn0 (fun w' => Fr none_ w3 w') ?_ fun j1 hj1 => ?_
  · intro w4 hF34
    have ht4 := ht3.fr0 hF34
    have hx4 := hF34.heap hx3 fun h => h
    have hv4 := hv3.fr hF34 fun _ _ h => h
    have hF4 := hF.trans hF34
    simp only [push_cast, Nat.reduceAdd, Nat.reduceLeDiff, Nat.reduceLT, Int.reduceToNat, Nat.left_eq_add, Nat.add_eq_left, Nat.add_left_cancel_iff, Nat.reduceEqDiff, Nat.add_assoc, Nat.succ_ne_zero, hx4]
    refine look_spec ht4 hv hm fun w5 hF5 => ?_
    simp only [s_ext, List.getElem?_toArray, List.getElem?_cons_zero, List.getElem?_cons_succ, onS_some]
    refine ent_slot fun _ w6 hw6 hF6 => ?_
    have hF46 := hF5.trans hF6
    have ht6 := ht4.fr0 hF46
    have hx6 := hF46.heap hx4 fun h => h
    have hv6 := hv4.fr hF46 fun _ _ h => h
    have hF06 := hF4.trans hF46
    simp only [push_cast, Nat.reduceAdd, Nat.reduceLeDiff, Nat.reduceLT, Int.reduceToNat, Nat.left_eq_add, Nat.add_eq_left, Nat.add_left_cancel_iff, Nat.reduceEqDiff, Nat.add_assoc, Nat.succ_ne_zero, hx6]
    refine learn_spec ht6 hv hm hp htm fun w7 ps7 ht7 hF7 => ?_
    have hv7 := hv6.fr hF7 hb1p
    have hF07 : Fr none_ w w7 := hF06.trans_new hF7 fun b hb e => by unfold pp at e; omega
    simp only [push_cast, Nat.reduceAdd, Nat.reduceLeDiff, Nat.reduceLT, Int.reduceToNat, Nat.left_eq_add, Nat.add_eq_left, Nat.add_left_cancel_iff, Nat.reduceEqDiff, Nat.add_assoc, Nat.succ_ne_zero]
    refine br_intro (fun he => ?_) fun he => ?_
    · have he : (learnL n r s.v s.m s.p s.t).2.2 = 3 := by simpa using he
      obtain ⟨n1, n2, n3⟩ := learn_no (room := n) (r := r) (v := s.v) (m := s.m) (p := s.p) (t := s.t) (by rw [he]; decide)
      rw [n1] at ht7
      rcases n3 with n3 | ⟨_, n4, n5⟩
      · rw [n3] at he; cases he
      have hlk : (lookL r (s.v, s.m)).2 = false := by unfold lookL; rw [n5]
      rw [hlk, jn_1]
      simp only [push_cast, Nat.reduceAdd, Nat.reduceLeDiff, Nat.reduceLT, Int.reduceToNat, Nat.left_eq_add, Nat.add_eq_left, Nat.add_left_cancel_iff, Nat.reduceEqDiff, Nat.add_assoc, Nat.succ_ne_zero, Bool.not_false]
      have hrn : r.length = n := by omega
      refine br_intro (fun _ => ?_) fun e => by rw [hrn] at e; simp at e
      refine all_spec ht7 fun w8 b2 a2 c2 ho8 hF8 _ => ?_
      simp only [push_cast, Nat.reduceAdd, Nat.reduceLeDiff, Nat.reduceLT, Int.reduceToNat, Nat.left_eq_add, Nat.add_eq_left, Nat.add_left_cancel_iff, Nat.reduceEqDiff, Nat.add_assoc, Nat.succ_ne_zero]
      exact esame_yes ho8.rd (hv7.fr hF8 fun _ _ h => h) hsrt.2 (by omega) fun w9 hF9 => h _ ((hF07.trans hF8).trans hF9)
    · refine br_dec (fun _ => ?_) fun hn => absurd (by omega) hn
      refine len_spec ht7.fb ?_
      have hc7 := ht7.cap
      simp only [push_cast, Nat.reduceAdd, Nat.reduceLeDiff, Nat.reduceLT, Int.reduceToNat, Nat.left_eq_add, Nat.add_eq_left, Nat.add_left_cancel_iff, Nat.reduceEqDiff, Nat.add_assoc, Nat.succ_ne_zero]
      rw [decide_eq_true (show (((learnL n r s.v s.m s.p s.t).1.length : Nat) : Int) ≤ n by omega)]
      exact h _ hF07
  refine loop1 (fun m v w' => ∃ i : Nat, v = i64 i ∧ m + i = r.length ∧ Fr none_ w3 w') ?_ r.length ⟨0, rfl, rfl, Fr.refl _ _⟩
  rintro m v w4 X ⟨i, rfl, hi, hF4⟩ hX
  simp only [push_cast, Nat.reduceAdd, Nat.reduceLeDiff, Nat.reduceLT, Int.reduceToNat, Nat.left_eq_add, Nat.add_eq_left, Nat.add_left_cancel_iff, Nat.reduceEqDiff, Nat.add_assoc, Nat.succ_ne_zero]
  refine br_dec (fun hlt2 => ?_) fun hge => hj1 _ hF4
  have hil : i < r.length := by omega
  have hok := hsrt.2 _ (List.getElem_mem hil)
  obtain ⟨hr1, hr2, hr3⟩ := hrng _ (List.getElem_mem hil)
  have hgr : grp r[i].mac = false := by
    unfold rightB at hr1
    simp only [Bool.and_eq_true, Bool.not_eq_true'] at hr1
    exact hr1.2.2.2.2
  refine s_getE (hv3.fr hF4 fun _ _ h => h) hil ?_
  refine ent_slot fun _ w5 hw5 hF5 => ?_
  have hw5d := (Fr.drew (fp := none_) w5).heap hw5 fun h => h
  have hF35 := (hF4.trans hF5).trans (Fr.drew w5)
  simp only [push_cast, Nat.reduceAdd, Nat.reduceLeDiff, Nat.reduceLT, Int.reduceToNat, Nat.left_eq_add, Nat.add_eq_left, Nat.add_left_cancel_iff, Nat.reduceEqDiff, Nat.add_assoc, Nat.succ_ne_zero, hw5]
  generalize w4.heap.size = sl at *
  generalize w5.drew = w6 at *
  refine rgroup_spec hok.2.1 fun w7 hF7 => ?_
  rw [hgr]
  have hw7 := hF7.heap hw5d fun h => h
  have hF37 := hF35.trans hF7
  simp only [push_cast, Nat.reduceAdd, Nat.reduceLeDiff, Nat.reduceLT, Int.reduceToNat, Nat.left_eq_add, Nat.add_eq_left, Nat.add_left_cancel_iff, Nat.reduceEqDiff, Nat.add_assoc, Nat.succ_ne_zero, hw7]
  have hnext : ∀ w', Fr none_ w3 w' → X (i64 (IntKind.i64.wrap ((i : Int) + 1))) w' := fun w' hF' => by
    rw [wrap_i64 (by omega)]
    exact hX (m - 1) _ _ (by omega) ⟨i + 1, by simp, by omega, hF'⟩
  -- of those ahead
  have hv7 := hv3.fr hF37 fun _ _ h => h
  refine br_intro (fun hst => ?_) fun hst => ?_
  case' refine_1 =>
    refine br_intro (fun e => by rw [hr3 hst] at e; simp at e) fun _ => ?_
  all_goals
    refine br_dec (fun hpos => ?_) fun _ => hnext _ hF37
    obtain ⟨k, rfl⟩ : ∃ k, i = k + 1 := ⟨i - 1, by omega⟩
    have hkl : k < r.length := by omega
    have hlk : ltE r[k] r[k + 1] := List.pairwise_iff_getElem.1 hsrt.1 k (k + 1) hkl hil (by omega)
    have hokk := hsrt.2 _ (List.getElem_mem hkl)
    have ek : IntKind.i64.wrap (((k + 1 : Nat) : Int) - 1) = (k : Int) := by
      rw [wrap_i64 (by omega)]; omega
    have ek2 : IntKind.i64.wrap ((k : Int) + 1 - 1) = (k : Int) := by
      rw [wrap_i64 (by omega)]; omega
    simp only [ek]
    refine s_iaE hv7 (by omega) (by simpa using hkl) fun b o _ _ he => ?_
    simp only [Int.toNat_natCast, List.getElem_map] at he ⊢
    have e0 := he.cell 0 (by simp [Ent.cells])
    rw [Nat.add_zero] at e0
    simp only [push_cast, Nat.reduceAdd, Nat.reduceLeDiff, Nat.reduceLT, Int.reduceToNat, Nat.left_eq_add, Nat.add_eq_left, Nat.add_left_cancel_iff, Nat.reduceEqDiff, Nat.add_assoc, Nat.succ_ne_zero, e0, hw7]
    refine br_dec (fun hgt => ?_) fun hgt => ?_
    · unfold ltE at hlk
      omega
    simp only [ek2]
    refine s_iaE hv7 (by omega) (by simpa using hkl) fun b o _ _ he => ?_
    simp only [Int.toNat_natCast, List.getElem_map] at he ⊢
    have e0 := he.cell 0 (by simp [Ent.cells])
    rw [Nat.add_zero] at e0
    simp only [push_cast, Nat.reduceAdd, Nat.reduceLeDiff, Nat.reduceLT, Int.reduceToNat, Nat.left_eq_add, Nat.add_eq_left, Nat.add_left_cancel_iff, Nat.reduceEqDiff, Nat.add_assoc, Nat.succ_ne_zero, e0, hw7]
    refine br_intro (fun heq => ?_) fun _ => hnext _ hF37
    have heq : r[k].vlan = r[k + 1].vlan := by simpa using heq
    simp only [ek2]
    refine s_iaE hv7 (by omega) (by simpa using hkl) fun b o _ _ he => ?_
    simp only [Int.toNat_natCast, List.getElem_map] at he ⊢
    have e1 := he.agg 1 6 (by simp [Ent.cells])
    rw [Nat.add_assoc] at e1
    simp only [push_cast, Nat.reduceAdd, Nat.reduceLeDiff, Nat.reduceLT, Int.reduceToNat, Nat.left_eq_add, Nat.add_eq_left, Nat.add_left_cancel_iff, Nat.reduceEqDiff, Nat.add_assoc, Nat.succ_ne_zero, e1, hw7]
    refine rcmp_spec hokk.2.1 hok.2.1 fun w8 hF8 => ?_
    simp only [push_cast, Nat.reduceAdd, Nat.reduceLeDiff, Nat.reduceLT, Int.reduceToNat, Nat.left_eq_add, Nat.add_eq_left, Nat.add_left_cancel_iff, Nat.reduceEqDiff, Nat.add_assoc, Nat.succ_ne_zero]
    refine br_dec (fun hcc => ?_) fun _ => hnext _ (hF37.trans hF8)
    have : cmpM r[k].mac r[k + 1].mac < 0 := by
      unfold cmpM
      rw [cmpI_lt]
      unfold ltE at hlk
      omega
    omega

end Go.Gx.S
