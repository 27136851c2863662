/- A table does any steps; the VLANs that have members. -/
import Derived.Test.YtdnidegmlplocaaVlan7T
import Derived.Test.YtdnidegmlplocaaVlan5
import Derived.Test.YtdnidegmlplocaaVlan6
set_option linter.unusedVariables false
set_option linter.unusedSimpArgs false
set_option maxRecDepth 100000
namespace Go.Gx.S
open Go Go.Gx Go.Proofs
variable {K : Value → World → Prop} {w : World}

theorem scripts_law {lv : Value} {st : List Stp} {n v : Int} (hl : RdE 4 w lv (st.map Stp.cells)) (hvi : isI v) (h : ∀ w', Fr none_ w w' → K (.bool true) w') : CallsR Try.prog 8 #[i64 n, lv, i64 v] K w := by
  apply c8
  unfold p8
  simp only [push_cast, Nat.reduceAdd, Nat.reduceLeDiff, Nat.reduceLT, Int.reduceToNat, Nat.left_eq_add, Nat.add_eq_left, Nat.add_left_cancel_iff, Nat.reduceEqDiff, Nat.add_assoc, Nat.succ_ne_zero]
  refine awake_spec fun w1 hF1 => ?_
  simp only [push_cast, Nat.reduceAdd, Nat.reduceLeDiff, Nat.reduceLT, Int.reduceToNat, Nat.left_eq_add, Nat.add_eq_left, Nat.add_left_cancel_iff, Nat.reduceEqDiff, Nat.add_assoc, Nat.succ_ne_zero]
  have hend : ∀ w', Fr none_ w w' → jnJ 1 (fun x8 => K x8) (fun j0 => brn (.bool true) (j0 (.bool true)) (j0 (.bool false))) w' := fun w' hF => by
    rw [jn_1]
    simp only [push_cast, Nat.reduceAdd, Nat.reduceLeDiff, Nat.reduceLT, Int.reduceToNat, Nat.left_eq_add, Nat.add_eq_left, Nat.add_left_cancel_iff, Nat.reduceEqDiff, Nat.add_assoc, Nat.succ_ne_zero]
    exact h _ hF
  refine made_spec (hl.fr hF1 (fun _ _ h => h)) (fun _ w2 hF2 => ?_) fun hn1 hn2 w2 p m nb q nc Lv hB hF2 hfp => ?_
  · simp only [push_cast, Nat.reduceAdd, Nat.reduceLeDiff, Nat.reduceLT, Int.reduceToNat, Nat.left_eq_add, Nat.add_eq_left, Nat.add_left_cancel_iff, Nat.reduceEqDiff, Nat.add_assoc, Nat.succ_ne_zero]
    refine jn0 (fun w' => Fr none_ w w') (fun w' hF => hend w' hF) fun j hj => ?_
    simp only [push_cast, Nat.reduceAdd, Nat.reduceLeDiff, Nat.reduceLT, Int.reduceToNat, Nat.left_eq_add, Nat.add_eq_left, Nat.add_left_cancel_iff, Nat.reduceEqDiff, Nat.add_assoc, Nat.succ_ne_zero]
    exact hj _ (hF1.trans hF2)
  have hF := hF1.trans hF2
  have hok := hB.v.ok
  have hmn := members_short hok v
  generalize vsteps _ _ = t at *
  simp only [push_cast, Nat.reduceAdd, Nat.reduceLeDiff, Nat.reduceLT, Int.reduceToNat, Nat.left_eq_add, Nat.add_eq_left, Nat.add_left_cancel_iff, Nat.reduceEqDiff, Nat.add_assoc, Nat.succ_ne_zero]
  refine jn0 (fun w' => Fr none_ w w') (fun w' hF => hend w' hF) fun j hj => ?_
  simp only [push_cast, Nat.reduceAdd, Nat.reduceLeDiff, Nat.reduceLT, Int.reduceToNat, Nat.left_eq_add, Nat.add_eq_left, Nat.add_left_cancel_iff, Nat.reduceEqDiff, Nat.add_assoc, Nat.succ_ne_zero]
  refine vmembers_spec hB.v hvi fun w3 a ha hF3 hN3 => ?_
  replace hB := hB.fr0 hF3
  replace hF := hF.trans hF3
  simp only [push_cast, Nat.reduceAdd, Nat.reduceLeDiff, Nat.reduceLT, Int.reduceToNat, Nat.left_eq_add, Nat.add_eq_left, Nat.add_left_cancel_iff, Nat.reduceEqDiff, Nat.add_assoc, Nat.succ_ne_zero]
  refine rmembers_spec hB.r fun w4 b hb hF4 hN4 => ?_
  replace hB := hB.fr0 hF4
  replace hF := hF.trans hF4
  simp only [push_cast, Nat.reduceAdd, Nat.reduceLeDiff, Nat.reduceLT, Int.reduceToNat, Nat.left_eq_add, Nat.add_eq_left, Nat.add_left_cancel_iff, Nat.reduceEqDiff, Nat.add_assoc, Nat.succ_ne_zero]
  refine sameints_spec (ha.fr hF4 (fun _ _ h => h)).rd hb.rd (by omega) fun w5 hF5 => ?_
  replace hB := hB.fr0 hF5
  replace hF := hF.trans hF5
  simp only [push_cast, Nat.reduceAdd, Nat.reduceLeDiff, Nat.reduceLT, Int.reduceToNat, Nat.left_eq_add, Nat.add_eq_left, Nat.add_left_cancel_iff, Nat.reduceEqDiff, Nat.add_assoc, Nat.succ_ne_zero]
  refine vvlans_spec hB.v fun w6 a6 ha6 hF6 hN6 => ?_
  replace hB := hB.fr0 hF6
  replace hF := hF.trans hF6
  simp only [push_cast, Nat.reduceAdd, Nat.reduceLeDiff, Nat.reduceLT, Int.reduceToNat, Nat.left_eq_add, Nat.add_eq_left, Nat.add_left_cancel_iff, Nat.reduceEqDiff, Nat.add_assoc, Nat.succ_ne_zero]
  refine rvlans_spec hB.r fun w7 a7 ha7 hF7 hN7 => ?_
  simp only [push_cast, Nat.reduceAdd, Nat.reduceLeDiff, Nat.reduceLT, Int.reduceToNat, Nat.left_eq_add, Nat.add_eq_left, Nat.add_left_cancel_iff, Nat.reduceEqDiff, Nat.add_assoc, Nat.succ_ne_zero]
  have hvl := vl_len t 4095
  refine sameints_spec (ha6.fr hF7 (fun _ _ h => h)).rd ha7.rd (by unfold vlans; omega) fun w8 hF8 => ?_
  rw [decide_eq_true rfl]
  exact h _ ((hF.trans hF7).trans hF8)

theorem members_ne {t : VT} (h : t.ok) (v : Int) : 0 < (t.members v).length ↔ v ∈ vlans t := by
  rw [vlans_mem h]
  constructor
  · intro hl
    obtain ⟨p, hp⟩ := List.exists_mem_of_length_pos hl
    have hi := (VT.mem_members.1 hp).2
    unfold VT.is at hi
    obtain ⟨b, hb⟩ := Option.isSome_iff_exists.1 hi
    exact ⟨_, lookup_some_mem hb, rfl⟩
  · rintro ⟨x, hx, rfl⟩
    have hk := h.key x hx
    refine List.length_pos_of_mem (a := x.1.2) (VT.mem_members.2 ⟨hk.2.2, ?_⟩)
    unfold VT.is
    have := lookup_of_mem h.nd hx
    rw [show (x.1.1, x.1.2) = x.1 from rfl, this]; rfl

theorem take_mem_succ {l : List Int} {i : Nat} (hi : i < l.length) (v : Int) : v ∈ l.take (i + 1) ↔ v ∈ l.take i ∨ l[i] = v := by
  rw [List.take_succ_eq_append_getElem hi, List.mem_append]
  simp [eq_comm]

theorem vlans_law {lv : Value} {st : List Stp} {v : Int} (hl : RdE 4 w lv (st.map Stp.cells)) (hvi : isI v) (h : ∀ w', Fr none_ w w' → K (.bool true) w') : CallsR Try.prog 9 #[lv, i64 v] K w := by
  apply c9
  unfold p9
  simp only [push_cast, Nat.reduceAdd, Nat.reduceLeDiff, Nat.reduceLT, Int.reduceToNat, Nat.left_eq_add, Nat.add_eq_left, Nat.add_left_cancel_iff, Nat.reduceEqDiff, Nat.add_assoc, Nat.succ_ne_zero]
  refine awake_spec fun w1 hF1 => ?_
  simp only [push_cast, Nat.reduceAdd, Nat.reduceLeDiff, Nat.reduceLT, Int.reduceToNat, Nat.left_eq_add, Nat.add_eq_left, Nat.add_left_cancel_iff, Nat.reduceEqDiff, Nat.add_assoc, Nat.succ_ne_zero]
  have hend : ∀ w', Fr none_ w w' → jnJ 1 (fun x8 => K x8) (fun j0 => brn (.bool true) (j0 (.bool true)) (j0 (.bool false))) w' := fun w' hF => by
    rw [jn_1]
    simp only [push_cast, Nat.reduceAdd, Nat.reduceLeDiff, Nat.reduceLT, Int.reduceToNat, Nat.left_eq_add, Nat.add_eq_left, Nat.add_left_cancel_iff, Nat.reduceEqDiff, Nat.add_assoc, Nat.succ_ne_zero]
    exact h _ hF
  refine made_spec (hl.fr hF1 (fun _ _ h => h)) (fun h => absurd ⟨by decide, by decide⟩ h) fun hn1 hn2 w2 p m nb q nc Lv hB hF2 hfp => ?_
  have hF := hF1.trans hF2
  have hok := hB.v.ok
  have hmn := members_short hok v
  generalize vsteps _ _ = t at *
  simp only [push_cast, Nat.reduceAdd, Nat.reduceLeDiff, Nat.reduceLT, Int.reduceToNat, Nat.left_eq_add, Nat.add_eq_left, Nat.add_left_cancel_iff, Nat.reduceEqDiff, Nat.add_assoc, Nat.succ_ne_zero]
  refine jn0 (fun w' => Fr none_ w w') (fun w' hF => hend w' hF) fun j hj => ?_
  simp only [push_cast, Nat.reduceAdd, Nat.reduceLeDiff, Nat.reduceLT, Int.reduceToNat, Nat.left_eq_add, Nat.add_eq_left, Nat.add_left_cancel_iff, Nat.reduceEqDiff, Nat.add_assoc, Nat.succ_ne_zero]
  refine vvlans_spec hB.v fun w3 a ha hF3 hN3 => ?_
  replace hB := hB.fr0 hF3
  replace hF := hF.trans hF3
  have hrise := vl_rise t 4095
  have hlen := vl_len t 4095
  have hmem : ∀ x ∈ vlans t, 0 < (t.members x).length := fun x hx => (members_ne hok x).2 hx
  have hall : ∀ x ∈ vlans t, isI x := fun x hx => by
    obtain ⟨y, hy, rfl⟩ := (vlans_mem hok).1 hx
    have := hok.key y hy
    exact (right_isI hok this).1
  have hn := members_ne hok v
  change (vlans t).Pairwise (· < ·) at hrise
  change (vlans t).length ≤ 4095 at hlen
  generalize vlans t = vs at *
  refine jn1 (fun x w' => x = .bool (decide (v ∈ vs)) ∧ Fr none_ w3 w') ?_ fun j1 hj1 => ?_
  · rintro x w' ⟨rfl, hF'⟩
    simp only [push_cast, Nat.reduceAdd, Nat.reduceLeDiff, Nat.reduceLT, Int.reduceToNat, Nat.left_eq_add, Nat.add_eq_left, Nat.add_left_cancel_iff, Nat.reduceEqDiff, Nat.add_assoc, Nat.succ_ne_zero]
    refine vmembers_spec (hB.v.fr0 hF') hvi fun w4 b hb hF4 hN4 => ?_
    obtain ⟨ba, bc, hbe⟩ := hb.rd.form
    rw [List.length_map] at hbe
    rw [hbe]
    simp only [push_cast, Nat.reduceAdd, Nat.reduceLeDiff, Nat.reduceLT, Int.reduceToNat, Nat.left_eq_add, Nat.add_eq_left, Nat.add_left_cancel_iff, Nat.reduceEqDiff, Nat.add_assoc, Nat.succ_ne_zero]
    have e : ∀ b1 b2 : Bool, (b1 = true ↔ b2 = true) → (b1 == b2) = true := by decide
    rw [e _ _ (by rw [decide_eq_true_iff, decide_eq_true_iff, ← hn]; omega)]
    exact h _ ((hF.trans hF').trans hF4)
  refine loop2 (fun mm x y w' => ∃ i : Nat, y = i64 i ∧ x = .bool (decide (v ∈ vs.take i)) ∧ mm + i = vs.length ∧ Fr none_ w3 w') ?_ vs.length ⟨0, rfl, by simp, rfl, Fr.refl _ _⟩
  rintro mm x y w4 X ⟨i, rfl, rfl, hmm, hF4⟩ hX
  have ha4 := ha.fr hF4 (fun _ _ h => h)
  obtain ⟨aa, ac, hae⟩ := ha4.rd.form
  rw [List.length_map] at hae
  have hra := ha4.rd
  rw [hae] at hra ⊢
  simp only [push_cast, Nat.reduceAdd, Nat.reduceLeDiff, Nat.reduceLT, Int.reduceToNat, Nat.left_eq_add, Nat.add_eq_left, Nat.add_left_cancel_iff, Nat.reduceEqDiff, Nat.add_assoc, Nat.succ_ne_zero]
  refine br_dec (fun hlt => ?_) fun hge => ?_
  case refine_2 =>
    have : i = vs.length := by omega
    subst this
    rw [List.take_length]
    exact hj1 _ _ ⟨rfl, hF4⟩
  have hil : i < vs.length := by omega
  have hmi := hmem _ (List.getElem_mem hil)
  have hii := hall _ (List.getElem_mem hil)
  -- the elements, in any world behind this one
  have at_ : ∀ (k : Nat) (hk : k < vs.length) w' (F : Value → World → Prop), Fr none_ w4 w' → F (i64 vs[k]) w' → opS Try.prog (S.ia 43 (.slice aa vs.length ac) (i64 k)) (fun x => opS Try.prog (S.ld 3 x) F) w' := by
    intro k hk w' F hF' hFv
    refine s_iaE (hra.fr hF' (fun _ _ h => h)) (by omega) (by simpa using hk) fun b o c _ he => ?_
    simp only [push_cast, Nat.reduceAdd, Nat.reduceLeDiff, Nat.reduceLT, Int.reduceToNat, Nat.left_eq_add, Nat.add_eq_left, Nat.add_left_cancel_iff, Nat.reduceEqDiff, Nat.add_assoc, Nat.succ_ne_zero]
    rw [he.cell0 (by simp [cellI])]
    simp only [push_cast, Nat.reduceAdd, Nat.reduceLeDiff, Nat.reduceLT, Int.reduceToNat, Nat.left_eq_add, Nat.add_eq_left, Nat.add_left_cancel_iff, Nat.reduceEqDiff, Nat.add_assoc, Nat.succ_ne_zero, List.getElem_map, cellI, Int.toNat_natCast]
    exact hFv
  refine jn0 (fun w' => Fr none_ w4 w') ?_ fun j3 hj3 => ?_
  · intro w' hF'
    simp only [push_cast, Nat.reduceAdd, Nat.reduceLeDiff, Nat.reduceLT, Int.reduceToNat, Nat.left_eq_add, Nat.add_eq_left, Nat.add_left_cancel_iff, Nat.reduceEqDiff, Nat.add_assoc, Nat.succ_ne_zero]
    refine br_intro (fun e => ?_) fun e => ?_
    · rw [wrap_i64 (by omega)]
      refine hX (mm - 1) _ _ _ (by omega) ⟨i + 1, by simp, ?_, by omega, hF4.trans hF'⟩
      have e : v ∈ vs.take i := by simpa using e
      rw [decide_eq_true ((take_mem_succ hil v).2 (.inl e))]
    · refine at_ i hil _ _ hF' ?_
      simp only [push_cast, Nat.reduceAdd, Nat.reduceLeDiff, Nat.reduceLT, Int.reduceToNat, Nat.left_eq_add, Nat.add_eq_left, Nat.add_left_cancel_iff, Nat.reduceEqDiff, Nat.add_assoc, Nat.succ_ne_zero]
      rw [wrap_i64 (by omega)]
      refine hX (mm - 1) _ _ _ (by omega) ⟨i + 1, by simp, ?_, by omega, hF4.trans hF'⟩
      have e : v ∉ vs.take i := by simpa using e
      congr 1
      rw [Bool.eq_iff_iff, beq_iff_eq, decide_eq_true_iff, take_mem_succ hil v]
      simp [e]
  have hstay : ∀ w', Fr none_ w4 w' → opS Try.prog (S.ia 43 (.slice aa vs.length ac) (i64 i)) (fun x16 => opS Try.prog (S.ld 3 x16) fun x17 => opS Try.prog (S.cl 18 [pt p 0, x17]) fun x18 => opS Try.prog (S.len x18) fun x19 =>
      opS Try.prog (S.binI .eql x19 (.int .i64 0)) fun x20 => brn x20 (K (.bool false)) j3) w' := by
    intro w' hF'
    refine at_ i hil _ _ hF' ?_
    simp only [push_cast, Nat.reduceAdd, Nat.reduceLeDiff, Nat.reduceLT, Int.reduceToNat, Nat.left_eq_add, Nat.add_eq_left, Nat.add_left_cancel_iff, Nat.reduceEqDiff, Nat.add_assoc, Nat.succ_ne_zero]
    refine vmembers_spec (hB.v.fr0 (hF4.trans hF')) hii fun w5 b hb hF5 hN5 => ?_
    obtain ⟨ba, bc, hbe⟩ := hb.rd.form
    rw [List.length_map] at hbe
    rw [hbe]
    simp only [push_cast, Nat.reduceAdd, Nat.reduceLeDiff, Nat.reduceLT, Int.reduceToNat, Nat.left_eq_add, Nat.add_eq_left, Nat.add_left_cancel_iff, Nat.reduceEqDiff, Nat.add_assoc, Nat.succ_ne_zero]
    refine br_intro (fun e => ?_) fun e => hj3 _ (hF'.trans hF5)
    simp at e
    rw [e] at hmi
    exact absurd hmi (by decide)
  simp only [push_cast, Nat.reduceAdd, Nat.reduceLeDiff, Nat.reduceLT, Int.reduceToNat, Nat.left_eq_add, Nat.add_eq_left, Nat.add_left_cancel_iff, Nat.reduceEqDiff, Nat.add_assoc, Nat.succ_ne_zero]
  have hFd : Fr none_ w4 w4.drew := Fr.drew _
  generalize w4.drew = w5 at *
  refine br_dec (fun h0 => ?_) fun h0 => hstay _ hFd
  refine at_ i hil _ _ hFd ?_
  simp only [push_cast, Nat.reduceAdd, Nat.reduceLeDiff, Nat.reduceLT, Int.reduceToNat, Nat.left_eq_add, Nat.add_eq_left, Nat.add_left_cancel_iff, Nat.reduceEqDiff, Nat.add_assoc, Nat.succ_ne_zero]
  rw [wrap_i64 (by omega)]
  have hi1 : (i : Int) - 1 = ((i - 1 : Nat) : Int) := by omega
  rw [hi1]
  refine at_ (i - 1) (by omega) _ _ hFd ?_
  have hlt2 := List.pairwise_iff_getElem.1 hrise (i - 1) i (by omega) hil (by omega)
  simp only [push_cast, Nat.reduceAdd, Nat.reduceLeDiff, Nat.reduceLT, Int.reduceToNat, Nat.left_eq_add, Nat.add_eq_left, Nat.add_left_cancel_iff, Nat.reduceEqDiff, Nat.add_assoc, Nat.succ_ne_zero]
  refine br_dec (fun hle => by omega) fun _ => ?_
  exact hstay _ hFd

end Go.Gx.S
