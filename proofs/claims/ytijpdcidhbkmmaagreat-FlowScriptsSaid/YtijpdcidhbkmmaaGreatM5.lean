/- Own texts, put together. -/
import Derived.Test.YtijpdcidhbkmmaaGreatM4
import Derived.Test.YtijpdcidhbkmmaaGreatM3
import Derived.Test.YtijpdcidhbkmmaaGreatM2
import Derived.Test.YtijpdcidhbkmmaaGreatM1
section
/- The document's table. -/
set_option linter.unusedVariables false
set_option linter.unusedSimpArgs false
set_option maxRecDepth 100000
namespace Go.Gx.S
open Go Go.Gx Go.Proofs
variable {K : Value → World → Prop} {w : World}

def numL (l : List Int) : Int := l.foldl (fun n x => n * 256 + x) 0
theorem numL_snoc (l : List Int) (x : Int) : numL (l ++ [x]) = numL l * 256 + x := by unfold numL; rw [List.foldl_append]; rfl
theorem numL_mac (m : Mac) : numL (macL m) = macN m := by
  unfold numL macL macN
  simp
theorem numL_range {m : Mac} (h : m.ok) {k : Nat} (hk : k ≤ 6) : 0 ≤ numL ((macL m).take k) ∧ numL ((macL m).take k) < 281474976710656 := by
  obtain ⟨a0, a1, a2, a3, a4, a5⟩ := h
  unfold isB at *
  match k, hk with
  | 0, _ | 1, _ | 2, _ | 3, _ | 4, _ | 5, _ | 6, _ => simp [numL, macL]; try omega
theorem macL_get (m : Mac) {k : Nat} (hk : k < 6) : m.cells[k]? = some (u8 ((macL m).getD k 0)) := by
  match k, hk with
  | 0, _ | 1, _ | 2, _ | 3, _ | 4, _ | 5, _ => rfl
theorem macL_take {m : Mac} {k : Nat} (hk : k < 6) : (macL m).take (k + 1) = (macL m).take k ++ [(macL m).getD k 0] := by
  match k, hk with
  | 0, _ | 1, _ | 2, _ | 3, _ | 4, _ | 5, _ => rfl
theorem macL_at {m : Mac} (h : m.ok) {k : Nat} (hk : k < 6) : isB ((macL m).getD k 0) := by
  obtain ⟨a0, a1, a2, a3, a4, a5⟩ := h
  match k, hk with
  | 0, _ | 1, _ | 2, _ | 3, _ | 4, _ | 5, _ => assumption
theorem wrap_u64 {x : Int} (h0 : 0 ≤ x) (h1 : x < 18446744073709551616) : IntKind.u64.wrap x = x := by
  unfold IntKind.wrap
  have e1 : (2 : Int) ^ IntKind.u64.bits = 18446744073709551616 := rfl
  have e3 : IntKind.u64.signed = false := rfl
  simp only [e1, e3, Bool.false_and, Bool.false_eq_true, if_false]
  omega

theorem rnum_spec {m : Mac} (hm : m.ok) (h : ∀ w', Fr none_ w w' → K (.int .u64 (macN m)) w') : CallsR Tryz.prog 128 #[.agg m.cells.toArray] K w := by
  apply c128
  unfold p128
  simp only [push_cast, Nat.reduceAdd, Nat.reduceLeDiff, Nat.reduceLT, Int.reduceToNat, Nat.left_eq_add, Nat.add_eq_left, Nat.add_left_cancel_iff, Nat.reduceEqDiff, Nat.add_assoc, Nat.succ_ne_zero]
  have h0 : (w.alloc (cellsO m.cells 24)).heap[w.heap.size]? = some (cellsO m.cells 24) := by simp only [push_cast, Nat.reduceAdd, Nat.reduceLeDiff, Nat.reduceLT, Int.reduceToNat, Nat.left_eq_add, Nat.add_eq_left, Nat.add_left_cancel_iff, Nat.reduceEqDiff, Nat.add_assoc, Nat.succ_ne_zero]
  have hF : Fr none_ w (w.alloc (cellsO m.cells 24)) := (by repeat' first | with_reducible exact Fr.refl _ _ | with_reducible refine Fr.step_alloc ?_ ?_ | with_reducible refine Fr.step_drew ?_ | with_reducible refine Fr.step_wr ?_ ?_ _ _ | exact rfl | exact Or.inr (by omega) | exact Or.inl rfl | exact Or.inl (Or.inl rfl) | exact Or.inl (Or.inr rfl))
  generalize w.alloc (cellsO m.cells 24) = W at *
  refine jn1 (fun v w' => v = .int .u64 (macN m) ∧ w' = W) (fun v w' ⟨e1, e2⟩ => by rw [e1, e2]; exact h _ hF) fun j hj => ?_
  refine loop2 (fun n x y w' => ∃ k : Nat, k ≤ 6 ∧ n = 6 - k ∧ y = i64 k ∧ x = .int .u64 (numL ((macL m).take k)) ∧ w' = W) ?_ 6 ⟨0, by omega, rfl, rfl, rfl, rfl⟩
  rintro n x y w' X ⟨k, hk, rfl, rfl, rfl, rfl⟩ hX
  simp only [push_cast, Nat.reduceAdd, Nat.reduceLeDiff, Nat.reduceLT, Int.reduceToNat, Nat.left_eq_add, Nat.add_eq_left, Nat.add_left_cancel_iff, Nat.reduceEqDiff, Nat.add_assoc, Nat.succ_ne_zero]
  refine br_dec (fun hlt => ?_) fun hge => ?_
  · have hk6 : k < 6 := by omega
    have hr := numL_range hm hk
    have hr2 := numL_range hm (show k + 1 ≤ 6 by omega)
    have hb := macL_at hm hk6
    rw [wrap_u64 (by omega) (by omega), opS_iaA w.heap.size 0 .i64 (k : Int) (by omega)]
    simp only [push_cast, Nat.reduceAdd, Nat.reduceLeDiff, Nat.reduceLT, Int.reduceToNat, Nat.left_eq_add, Nat.add_eq_left, Nat.add_left_cancel_iff, Nat.reduceEqDiff, Nat.add_assoc, Nat.succ_ne_zero, h0, Int.toNat_natCast, Nat.mul_one]
    rw [macL_get m hk6]
    simp only [push_cast, Nat.reduceAdd, Nat.reduceLeDiff, Nat.reduceLT, Int.reduceToNat, Nat.left_eq_add, Nat.add_eq_left, Nat.add_left_cancel_iff, Nat.reduceEqDiff, Nat.add_assoc, Nat.succ_ne_zero]
    rw [macL_take hk6, numL_snoc] at hr2
    unfold isB at hb
    rw [wrap_u64 (x := (macL m).getD k 0) (by omega) (by omega), wrap_u64 (by omega) (by omega), wrap_i64 (by omega)]
    refine hX (6 - (k + 1)) _ _ _ (by omega) ⟨k + 1, by omega, rfl, by simp, ?_, rfl⟩
    rw [macL_take hk6, numL_snoc]
  · have : k = 6 := by omega
    subst this
    exact hj _ _ ⟨by rw [← numL_mac]; rfl, rfl⟩

theorem rcmp_spec {a b : Mac} (ha : a.ok) (hb : b.ok) (h : ∀ w', Fr none_ w w' → K (i64 (cmpM a b)) w') : CallsR Tryz.prog 120 #[.agg a.cells.toArray, .agg b.cells.toArray] K w := by
  apply c120
  unfold p120
  have hF : Fr none_ w ((w.alloc (cellsO a.cells 24)).alloc (cellsO b.cells 24)) := (by repeat' first | with_reducible exact Fr.refl _ _ | with_reducible refine Fr.step_alloc ?_ ?_ | with_reducible refine Fr.step_drew ?_ | with_reducible refine Fr.step_wr ?_ ?_ _ _ | exact rfl | exact Or.inr (by omega) | exact Or.inl rfl | exact Or.inl (Or.inl rfl) | exact Or.inl (Or.inr rfl))
  have h1 : ((w.alloc (cellsO a.cells 24)).alloc (cellsO b.cells 24)).heap[w.heap.size + 1]? = some (cellsO b.cells 24) := by simp only [push_cast, Nat.reduceAdd, Nat.reduceLeDiff, Nat.reduceLT, Int.reduceToNat, Nat.left_eq_add, Nat.add_eq_left, Nat.add_left_cancel_iff, Nat.reduceEqDiff, Nat.add_assoc, Nat.succ_ne_zero]
  simp only [push_cast, Nat.reduceAdd, Nat.reduceLeDiff, Nat.reduceLT, Int.reduceToNat, Nat.left_eq_add, Nat.add_eq_left, Nat.add_left_cancel_iff, Nat.reduceEqDiff, Nat.add_assoc, Nat.succ_ne_zero]
  generalize ((w.alloc (cellsO a.cells 24)).alloc (cellsO b.cells 24)) = W at *
  refine rnum_spec ha fun w2 hF2 => ?_
  have h2 := hF2.heap h1 fun h => h
  simp only [push_cast, Nat.reduceAdd, Nat.reduceLeDiff, Nat.reduceLT, Int.reduceToNat, Nat.left_eq_add, Nat.add_eq_left, Nat.add_left_cancel_iff, Nat.reduceEqDiff, Nat.add_assoc, Nat.succ_ne_zero, h2]
  refine rnum_spec hb fun w3 hF3 => ?_
  have hF' := (hF.trans hF2).trans hF3
  have h' := h _ hF'
  unfold cmpM cmpI at h'
  simp only [push_cast, Nat.reduceAdd, Nat.reduceLeDiff, Nat.reduceLT, Int.reduceToNat, Nat.left_eq_add, Nat.add_eq_left, Nat.add_left_cancel_iff, Nat.reduceEqDiff, Nat.add_assoc, Nat.succ_ne_zero]
  refine br_dec (fun h1 => ?_) fun h1 => ?_
  · rw [if_pos h1] at h'; exact h'
  · rw [if_neg h1] at h'
    refine br_dec (fun h2 => ?_) fun h2 => ?_
    · rw [if_pos h2] at h'; exact h'
    · rw [if_neg (by omega)] at h'; exact h'

def vlanA (q : Int) (e : Ent) : Bool := e.vlan == q
theorem rgroup_spec {m : Mac} (hm : m.ok) (h : ∀ w', Fr none_ w w' → K (.bool (grp m)) w') : CallsR Tryz.prog 16 #[.agg m.cells.toArray] K w := by
  apply c16
  unfold p16
  simp only [push_cast, Nat.reduceAdd, Nat.reduceLeDiff, Nat.reduceLT, Int.reduceToNat, Nat.left_eq_add, Nat.add_eq_left, Nat.add_left_cancel_iff, Nat.reduceEqDiff, Nat.add_assoc, Nat.succ_ne_zero]
  have h0 : (w.alloc (cellsO m.cells 24)).heap[w.heap.size]? = some (cellsO m.cells 24) := by simp only [push_cast, Nat.reduceAdd, Nat.reduceLeDiff, Nat.reduceLT, Int.reduceToNat, Nat.left_eq_add, Nat.add_eq_left, Nat.add_left_cancel_iff, Nat.reduceEqDiff, Nat.add_assoc, Nat.succ_ne_zero]
  rw [opS_iaA w.heap.size 0 .i64 0 (by decide)]
  simp only [push_cast, Nat.reduceAdd, Nat.reduceLeDiff, Nat.reduceLT, Int.reduceToNat, Nat.left_eq_add, Nat.add_eq_left, Nat.add_left_cancel_iff, Nat.reduceEqDiff, Nat.add_assoc, Nat.succ_ne_zero, h0, Int.toNat_zero, Nat.zero_mul]
  rw [macL_get' m (by decide)]
  simp only [push_cast, Nat.reduceAdd, Nat.reduceLeDiff, Nat.reduceLT, Int.reduceToNat, Nat.left_eq_add, Nat.add_eq_left, Nat.add_left_cancel_iff, Nat.reduceEqDiff, Nat.add_assoc, Nat.succ_ne_zero]
  rw [opS_rem _ _ _ (by decide)]
  simp only [push_cast, Nat.reduceAdd, Nat.reduceLeDiff, Nat.reduceLT, Int.reduceToNat, Nat.left_eq_add, Nat.add_eq_left, Nat.add_left_cancel_iff, Nat.reduceEqDiff, Nat.add_assoc, Nat.succ_ne_zero]
  have hb : isB ((macL m).getD 0 0) := macL_ok hm _ (by simp [macL])
  unfold isB at hb
  have e : ((macL m).getD 0 0).tmod 2 = (macL m).getD 0 0 % 2 := Int.tmod_eq_emod_of_nonneg (by omega)
  rw [e]
  exact h _ (by repeat' first | with_reducible exact Fr.refl _ _ | with_reducible refine Fr.step_alloc ?_ ?_ | with_reducible refine Fr.step_drew ?_ | with_reducible refine Fr.step_wr ?_ ?_ _ _ | exact rfl | exact Or.inr (by omega) | exact Or.inl rfl | exact Or.inl (Or.inl rfl) | exact Or.inl (Or.inr rfl))

theorem rright_spec {v p : Int} {m : Mac} (hm : m.ok) (h : ∀ w', Fr none_ w w' → K (.bool (rightB v m p)) w') : CallsR Tryz.prog 95 #[i64 v, .agg m.cells.toArray, i64 p] K w := by
  apply c95
  unfold p95
  have hF : Fr none_ w (w.alloc (cellsO m.cells 24)) := (by repeat' first | with_reducible exact Fr.refl _ _ | with_reducible refine Fr.step_alloc ?_ ?_ | with_reducible refine Fr.step_drew ?_ | with_reducible refine Fr.step_wr ?_ ?_ _ _ | exact rfl | exact Or.inr (by omega) | exact Or.inl rfl | exact Or.inl (Or.inl rfl) | exact Or.inl (Or.inr rfl))
  have h' := h _ hF
  simp only [push_cast, Nat.reduceAdd, Nat.reduceLeDiff, Nat.reduceLT, Int.reduceToNat, Nat.left_eq_add, Nat.add_eq_left, Nat.add_left_cancel_iff, Nat.reduceEqDiff, Nat.add_assoc, Nat.succ_ne_zero]
  unfold rightB at h'
  refine br_dec (fun h1 => ?_) fun h1 => ?_
  case refine_2 => rw [decide_eq_false (show ¬ 1 ≤ v from h1)] at h'; exact h'
  refine br_dec (fun h2 => ?_) fun h2 => ?_
  case refine_2 => rw [decide_eq_false (show ¬ v ≤ 4094 from h2), Bool.false_and, Bool.and_false] at h'; exact h'
  refine br_dec (fun h3 => ?_) fun h3 => ?_
  case refine_2 => rw [decide_eq_false (show ¬ 0 ≤ p from h3), Bool.false_and, Bool.and_false, Bool.and_false] at h'; exact h'
  refine br_dec (fun h4 => ?_) fun h4 => ?_
  case refine_2 => rw [decide_eq_false (show ¬ p ≤ 1000 from h4), Bool.false_and, Bool.and_false, Bool.and_false, Bool.and_false] at h'; exact h'
  refine rgroup_spec hm fun w2 hF2 => ?_
  simp only [push_cast, Nat.reduceAdd, Nat.reduceLeDiff, Nat.reduceLT, Int.reduceToNat, Nat.left_eq_add, Nat.add_eq_left, Nat.add_left_cancel_iff, Nat.reduceEqDiff, Nat.add_assoc, Nat.succ_ne_zero]
  have h2' := h _ (hF.trans hF2)
  unfold rightB at h2'
  rw [decide_eq_true (show 1 ≤ v from h1), decide_eq_true (show v ≤ 4094 from h2), decide_eq_true (show 0 ≤ p from h3), decide_eq_true (show p ≤ 1000 from h4), Bool.true_and, Bool.true_and, Bool.true_and, Bool.true_and] at h2'
  exact h2'

theorem put_spec {p pb o c room : Nat} {ps r : List Ent} {v q : Int} {m : Mac} (ht : FT w p pb o c room ps r) (hv : isI v) (hm : m.ok) (hq : isI q)
    (h : ∀ w' ps', FT w' p pb o c room ps' (putL room r v m q).1 → Fr (pp p pb) w w' → K (i64 (putL room r v m q).2) w') :
    CallsR Tryz.prog 64 #[pt p 0, i64 v, .agg m.cells.toArray, i64 q] K w := by
  apply c64
  unfold p64
  simp only [push_cast, Nat.reduceAdd, Nat.reduceLeDiff, Nat.reduceLT, Int.reduceToNat, Nat.left_eq_add, Nat.add_eq_left, Nat.add_left_cancel_iff, Nat.reduceEqDiff, Nat.add_assoc, Nat.succ_ne_zero]
  have hF : Fr none_ w (w.alloc (cellsO m.cells 24)) := (by repeat' first | with_reducible exact Fr.refl _ _ | with_reducible refine Fr.step_alloc ?_ ?_ | with_reducible refine Fr.step_drew ?_ | with_reducible refine Fr.step_wr ?_ ?_ _ _ | exact rfl | exact Or.inr (by omega) | exact Or.inl rfl | exact Or.inl (Or.inl rfl) | exact Or.inl (Or.inr rfl))
  have hm0 : (w.alloc (cellsO m.cells 24)).heap[w.heap.size]? = some (cellsO m.cells 24) := by simp only [push_cast, Nat.reduceAdd, Nat.reduceLeDiff, Nat.reduceLT, Int.reduceToNat, Nat.left_eq_add, Nat.add_eq_left, Nat.add_left_cancel_iff, Nat.reduceEqDiff, Nat.add_assoc, Nat.succ_ne_zero]
  have hlt := ht.fb.lt
  have hmp : w.heap.size ≠ p ∧ w.heap.size ≠ pb := by omega
  replace ht := ht.fr0 hF
  generalize w.alloc (cellsO m.cells 24) = W at *
  generalize w.heap.size = ms at *
  refine right_spec hm fun w2 hF2 => ?_
  replace ht := ht.fr0 hF2
  replace hm0 := hF2.heap hm0 fun h => h
  replace hF := hF.trans hF2
  unfold putL at h
  simp only [push_cast, Nat.reduceAdd, Nat.reduceLeDiff, Nat.reduceLT, Int.reduceToNat, Nat.left_eq_add, Nat.add_eq_left, Nat.add_left_cancel_iff, Nat.reduceEqDiff, Nat.add_assoc, Nat.succ_ne_zero]
  cases hr : rightB v m q with
  | false =>
    rw [hr] at h
    simp only [push_cast, Nat.reduceAdd, Nat.reduceLeDiff, Nat.reduceLT, Int.reduceToNat, Nat.left_eq_add, Nat.add_eq_left, Nat.add_left_cancel_iff, Nat.reduceEqDiff, Nat.add_assoc, Nat.succ_ne_zero, Bool.not_false]
    exact h _ ps ht (hF.mono fun _ _ e => e.elim)
  | true =>
  rw [hr, if_pos rfl] at h
  simp only [push_cast, Nat.reduceAdd, Nat.reduceLeDiff, Nat.reduceLT, Int.reduceToNat, Nat.left_eq_add, Nat.add_eq_left, Nat.add_left_cancel_iff, Nat.reduceEqDiff, Nat.add_assoc, Nat.succ_ne_zero, Bool.not_true, hm0]
  have hx : (⟨v, m, q, 0, true⟩ : Ent) ≠ zE := right_nz hr
  have hrg : RngE ⟨v, m, q, 0, true⟩ := ⟨hr, rfl, fun _ => rfl⟩
  have hok : (⟨v, m, q, 0, true⟩ : Ent).ok := ⟨hv, hm, hq, isI_iff.2 (show (-9223372036854775808 : Int) ≤ 0 ∧ (0 : Int) ≤ 9223372036854775807 by decide)⟩
  refine ft_find (k := (v, m)) ht ⟨hv, hm⟩ (fun i w3 hi hz hmem hk hF3 => ?_) fun i d w3 hi hid hs hz hno hF3 => ?_
  · rw [atK_some ht.ct.srt hmem hk] at h
    replace ht := ht.fr0 hF3
    replace hm0 := hF3.heap hm0 fun h => h
    replace hF := hF.trans hF3
    simp only [jn_0, push_cast, Nat.reduceAdd, Nat.reduceLeDiff, Nat.reduceLT, Int.reduceToNat, Nat.left_eq_add, Nat.add_eq_left, Nat.add_left_cancel_iff, Nat.reduceEqDiff, Nat.add_assoc, Nat.succ_ne_zero, ht.fb.blk, hm0]
    rw [build_put]
    refine s_put (ht.fb.fr0 (Fr.drew w3)) hi hok fun w5 hb5 hF5 => ?_
    have ht5 := (ht.fr0 (Fr.drew w3)).upd hi hz (x := ⟨v, m, q, 0, true⟩) hk hx hok hrg hb5
    exact h w5 _ ht5 ((hF.trans (Fr.drew w3)).mono (fun _ _ e => e.elim) |>.trans_new hF5 fun b _ e => .inr e)
  · rw [atK_none hno] at h
    replace ht := ht.fr0 hF3
    replace hm0 := hF3.heap hm0 fun h => h
    replace hF := hF.trans hF3
    simp only [jn_0, push_cast, Nat.reduceAdd, Nat.reduceLeDiff, Nat.reduceLT, Int.reduceToNat, Nat.left_eq_add, Nat.add_eq_left, Nat.add_left_cancel_iff, Nat.reduceEqDiff, Nat.add_assoc, Nat.succ_ne_zero]
    refine full_spec ht.fb (by have := ht.cap; have := ht.hi; omega) fun w5 hF5 => ?_
    replace ht := ht.fr0 hF5
    replace hm0 := hF5.heap hm0 fun h => h
    replace hF := hF.trans hF5
    simp only [push_cast, Nat.reduceAdd, Nat.reduceLeDiff, Nat.reduceLT, Int.reduceToNat, Nat.left_eq_add, Nat.add_eq_left, Nat.add_left_cancel_iff, Nat.reduceEqDiff, Nat.add_assoc, Nat.succ_ne_zero]
    have hln := ht.len
    refine br_dec (fun hfull => ?_) fun hfull => ?_
    · simp only [if_pos (show room ≤ r.length by omega)] at h
      exact h _ ps ht (hF.mono fun _ _ e => e.elim)
    simp only [if_neg (show ¬ room ≤ r.length by omega)] at h
    have hcap := ht.cap
    have hhi := ht.hi
    have hrw : IntKind.i64.wrap ((r.length : Int) + 1) = ((r.length + 1 : Nat) : Int) := by
      rw [wrap_i64 (by omega)]; simp
    simp only [push_cast, Nat.reduceAdd, Nat.reduceLeDiff, Nat.reduceLT, Int.reduceToNat, Nat.left_eq_add, Nat.add_eq_left, Nat.add_left_cancel_iff, Nat.reduceEqDiff, Nat.add_assoc, Nat.succ_ne_zero, ht.fb.blk, hm0, hrw, hmp]
    rw [build_put]
    refine s_put ((ht.fb.many (m' := r.length + 1)).fr0 (Fr.drew _)) hi hok fun w6 hb6 hF6 => ?_
    have ht7 := ht.ins hi (x := ⟨v, m, q, 0, true⟩) hid hs hz hno hx hok hrg (by omega) hb6
    exact h _ _ ht7 ((((hF.mono (fun _ _ e => e.elim)).step_wr (fp := pp p pb) (.inl (.inl rfl)) _ _).step_drew).trans_new hF6 fun b _ e => .inr e)

structure RT (w : World) (q room : Nat) (L : Value) (r : List Ent) : Prop where
  blk : w.heap[q]? = some (cellsO [i64 room, L] 118)
  own : OwnE 40 10 w L (r.map Ent.cells)
  ne : ∀ b, blkS L = some b → b ≠ q

theorem RT.fr {fp : Nat → Prop} {w w' : World} {q room : Nat} {L : Value} {r : List Ent} (h : RT w q room L r) (hf : Fr fp w w') (h1 : ¬ fp q) (h2 : ∀ b, blkS L = some b → ¬ fp b) : RT w' q room L r :=
  ⟨hf.heap h.blk h1, h.own.fr hf h2, h.ne⟩
theorem RT.fr0 {w w' : World} {q room : Nat} {L : Value} {r : List Ent} (h : RT w q room L r) (hf : Fr none_ w w') : RT w' q room L r := h.fr hf (fun h => h) fun _ _ h => h
/-- what a step may write -/
def rp (q : Nat) (L : Value) : Nat → Prop := fun b => b = q ∨ blkS L = some b
/-- the new list's block -/
def NewOr (w : World) (L L' : Value) : Prop := ∀ b, blkS L' = some b → blkS L = some b ∨ w.heap.size ≤ b

theorem Srt.idx {r : List Ent} (h : Srt r) {i j : Nat} (hi : i < r.length) (hj : j < r.length) (hk : eKey r[i] = eKey r[j]) : i = j := by
  have hp := List.pairwise_iff_getElem.1 h.1
  rcases Nat.lt_trichotomy i j with hij | hij | hij
  · exact absurd hk (ltE_key (hp i j hi hj hij))
  · exact hij
  · exact absurd hk.symm (ltE_key (hp j i hj hi hij))

theorem set_with {r : List Ent} (h : Srt r) {i : Nat} (hi : i < r.length) {x : Ent} (hk : eKey r[i] = eKey x) (hx : x.ok) : r.set i x = withL r x := by
  have hlt : ∀ a b c d : Ent, eKey a = eKey c → eKey b = eKey d → ltE a b → ltE c d := by
    intro a b c d h1 h2 h3
    unfold eKey at h1 h2
    simp only [Prod.mk.injEq] at h1 h2
    unfold ltE at *
    rw [← h1.1, ← h1.2, ← h2.1, ← h2.2]
    exact h3
  have hkey : ∀ j (hj : j < (r.set i x).length), eKey (r.set i x)[j] = eKey (r[j]'(by simpa using hj)) := fun j hj => by
    rw [List.getElem_set]
    split
    · rename_i e; subst e; exact hk.symm
    · rfl
  refine Srt.eq ⟨?_, fun e he => ?_⟩ (h.with hx) fun e => ?_
  · rw [List.pairwise_iff_getElem]
    intro a b ha hb hab
    have := List.pairwise_iff_getElem.1 h.1 a b (by simpa using ha) (by simpa using hb) hab
    exact hlt _ _ _ _ (hkey a ha).symm (hkey b hb).symm this
  · rcases List.mem_or_eq_of_mem_set he with h1 | h1
    · exact h.2 e h1
    · rw [h1]; exact hx
  · rw [mem_with]
    constructor
    · intro he
      obtain ⟨j, hj, rfl⟩ := List.getElem_of_mem he
      rw [List.getElem_set]
      split
      · exact .inl rfl
      · rename_i e
        refine .inr ⟨List.getElem_mem _, fun hkk => e ?_⟩
        exact (Srt.idx h (by simpa using hj) hi (hkk.trans hk.symm)).symm
    · rintro (rfl | ⟨h1, h2⟩)
      · exact List.mem_iff_getElem.2 ⟨i, by simpa using hi, by rw [List.getElem_set_self]⟩
      · obtain ⟨j, hj, rfl⟩ := List.getElem_of_mem h1
        refine List.mem_iff_getElem.2 ⟨j, by simpa using hj, ?_⟩
        rw [List.getElem_set, if_neg]
        intro e
        subst e
        exact h2 hk
theorem ins_with {r : List Ent} {x : Ent} (h : ∀ e ∈ r, eKey e ≠ eKey x) : withL r x = r.takeWhile (fun e => decide (ltE e x)) ++ x :: r.dropWhile (fun e => decide (ltE e x)) := by
  unfold withL
  rw [without_none h]
  rfl
theorem drop_without {r : List Ent} (h : Srt r) {i : Nat} (hi : i < r.length) : r.take i ++ r.drop (i + 1) = withoutL r r[i] := by
  rw [← List.eraseIdx_eq_take_drop_succ]
  refine Srt.eq ⟨h.1.sublist (List.eraseIdx_sublist ..), fun e he => h.2 e ((List.eraseIdx_sublist ..).subset he)⟩ (h.without _) fun e => ?_
  rw [mem_without, List.mem_eraseIdx_iff_getElem]
  constructor
  · rintro ⟨j, hj, hne, rfl⟩
    exact ⟨List.getElem_mem _, fun hk => hne (Srt.idx h hj hi hk)⟩
  · rintro ⟨h1, h2⟩
    obtain ⟨j, hj, rfl⟩ := List.getElem_of_mem h1
    exact ⟨j, hj, fun e => h2 (by subst e; rfl), rfl⟩

theorem rfind_spec {q room : Nat} {L : Value} {r : List Ent} {k : Key} (ht : RT w q room L r) (hro : ∀ e ∈ r, e.ok) (hk : isI k.1 ∧ k.2.ok) (hn : r.length < 2 ^ 30)
    (h0 : (∀ e ∈ r, eKey e ≠ k) → ∀ w', Fr none_ w w' → K (i64 (-1)) w')
    (h1 : ∀ i (hi : i < r.length), eKey r[i] = k → ∀ w', Fr none_ w w' → K (i64 i) w') :
    CallsR Tryz.prog 96 #[pt q 0, i64 k.1, .agg k.2.cells.toArray] K w := by
  apply c96
  unfold p96
  simp only [push_cast, Nat.reduceAdd, Nat.reduceLeDiff, Nat.reduceLT, Int.reduceToNat, Nat.left_eq_add, Nat.add_eq_left, Nat.add_left_cancel_iff, Nat.reduceEqDiff, Nat.add_assoc, Nat.succ_ne_zero]
  have hF1 : Fr none_ w (w.alloc (cellsO k.2.cells 24)) := (by repeat' first | with_reducible exact Fr.refl _ _ | with_reducible refine Fr.step_alloc ?_ ?_ | with_reducible refine Fr.step_drew ?_ | with_reducible refine Fr.step_wr ?_ ?_ _ _ | exact rfl | exact Or.inr (by omega) | exact Or.inl rfl | exact Or.inl (Or.inl rfl) | exact Or.inl (Or.inr rfl))
  have hx1 : (w.alloc (cellsO k.2.cells 24)).heap[w.heap.size]? = some (cellsO k.2.cells 24) := by simp only [push_cast, Nat.reduceAdd, Nat.reduceLeDiff, Nat.reduceLT, Int.reduceToNat, Nat.left_eq_add, Nat.add_eq_left, Nat.add_left_cancel_iff, Nat.reduceEqDiff, Nat.add_assoc, Nat.succ_ne_zero]
  replace ht := ht.fr0 hF1
  generalize w.alloc (cellsO k.2.cells 24) = w1 at *
  obtain ⟨la, lc, hL⟩ := ht.own.rd.form
  rw [List.length_map] at hL
  subst hL
  refine jn0 (fun w' => Fr none_ w1 w' ∧ ∀ e ∈ r, eKey e ≠ k) (fun w' ⟨hF, hd⟩ => h0 hd w' (hF1.trans hF)) fun j hj => ?_
  refine loop1 (fun n y w' => ∃ i : Nat, y = i64 i ∧ n + i = r.length ∧ Fr none_ w1 w' ∧ ∀ k' (h : k' < r.length), k' < i → eKey r[k'] ≠ k) ?_ r.length ⟨0, rfl, rfl, Fr.refl _ _, fun _ _ h => by omega⟩
  rintro n y w2 X ⟨i, rfl, hi, hF2, hno⟩ hX
  have ht2 := ht.fr0 hF2
  have hx2 := hF2.heap hx1 fun h => h
  simp only [push_cast, Nat.reduceAdd, Nat.reduceLeDiff, Nat.reduceLT, Int.reduceToNat, Nat.left_eq_add, Nat.add_eq_left, Nat.add_left_cancel_iff, Nat.reduceEqDiff, Nat.add_assoc, Nat.succ_ne_zero, ht2.blk]
  refine br_dec (fun hlt => ?_) fun hge => hj _ ⟨hF2, fun e he => ?_⟩
  case refine_2 =>
    obtain ⟨k', hk', rfl⟩ := List.getElem_of_mem he
    exact hno k' hk' (by omega)
  have hil : i < r.length := by omega
  have hok := hro _ (List.getElem_mem hil)
  have hFd : Fr none_ w1 w2.drew := hF2.step_drew
  have htd := ht2.fr0 (Fr.drew w2)
  have hxd := (Fr.drew (fp := none_) w2).heap hx2 fun h => h
  generalize w2.drew = wd at *
  have hgo : eKey r[i] ≠ k → X (i64 ((i : Int) + 1)) wd := fun hp => hX (n - 1) _ _ (by omega) ⟨i + 1, by simp, by omega, hFd, fun k' h hk' => by
    rcases Nat.lt_or_ge k' i with h1 | h1
    · exact hno k' h h1
    · have : k' = i := by omega
      subst this
      exact hp⟩
  have hrd := htd.own.rd
  refine s_iaE hrd (by omega) (by simpa using hil) fun b o c _ he => ?_
  simp only [Int.toNat_natCast, List.getElem_map] at he ⊢
  have hv := he.cell 0 (by simp [Ent.cells])
  rw [Nat.add_zero] at hv
  simp only [push_cast, Nat.reduceAdd, Nat.reduceLeDiff, Nat.reduceLT, Int.reduceToNat, Nat.left_eq_add, Nat.add_eq_left, Nat.add_left_cancel_iff, Nat.reduceEqDiff, Nat.add_assoc, Nat.succ_ne_zero, hv]
  refine br_intro (fun h2 => ?_) fun h2 => ?_
  case refine_2 =>
    rw [wrap_i64 (by omega)]
    refine hgo fun e => ?_
    rw [← e] at h2
    simp [eKey] at h2
  have h2 : r[i].vlan = k.1 := by simpa using h2
  simp only [push_cast, Nat.reduceAdd, Nat.reduceLeDiff, Nat.reduceLT, Int.reduceToNat, Nat.left_eq_add, Nat.add_eq_left, Nat.add_left_cancel_iff, Nat.reduceEqDiff, Nat.add_assoc, Nat.succ_ne_zero, htd.blk]
  refine s_iaE hrd (by omega) (by simpa using hil) fun b o c _ he => ?_
  simp only [Int.toNat_natCast, List.getElem_map] at he ⊢
  have hm := he.agg 1 6 (by simp [Ent.cells])
  rw [Nat.add_assoc] at hm
  simp only [push_cast, Nat.reduceAdd, Nat.reduceLeDiff, Nat.reduceLT, Int.reduceToNat, Nat.left_eq_add, Nat.add_eq_left, Nat.add_left_cancel_iff, Nat.reduceEqDiff, Nat.add_assoc, Nat.succ_ne_zero, hm, hxd]
  refine s_eqG (MacT.enc (P := Tryz.prog) (T := 24) (d := 6) hok.2.1) (MacT.enc (P := Tryz.prog) (T := 24) (d := 6) hk.2) fun y hy => ?_
  rw [Mac.lits_inj] at hy
  simp only [push_cast, Nat.reduceAdd, Nat.reduceLeDiff, Nat.reduceLT, Int.reduceToNat, Nat.left_eq_add, Nat.add_eq_left, Nat.add_left_cancel_iff, Nat.reduceEqDiff, Nat.add_assoc, Nat.succ_ne_zero]
  refine br_intro (fun h3 => ?_) fun h3 => ?_
  · exact h1 i hil (Prod.ext h2 (hy.1 h3)) _ (hF1.trans hFd)
  · rw [wrap_i64 (by omega)]
    refine hgo fun e => ?_
    rw [hy.2 (congrArg Prod.snd e)] at h3
    cases h3

end Go.Gx.S

namespace Go.Gx.S
open Go Go.Gx Go.Proofs
variable {K : Value → World → Prop} {w : World}

theorem while_eq {p : Ent → Bool} : ∀ {l : List Ent} {k : Nat}, (∀ i (h : i < l.length), i < k → p l[i] = true) → (∀ h : k < l.length, p l[k] = false) → k ≤ l.length → l.takeWhile p = l.take k ∧ l.dropWhile p = l.drop k
  | [], k, _, _, hk => by
    have : k = 0 := by simpa using hk
    subst this; exact ⟨rfl, rfl⟩
  | a :: l, 0, _, h2, _ => by
    have := h2 (by simp)
    simp only [List.getElem_cons_zero] at this
    simp [List.takeWhile_cons, List.dropWhile_cons, this]
  | a :: l, k + 1, h1, h2, hk => by
    have ha := h1 0 (by simp) (by omega)
    simp only [List.getElem_cons_zero] at ha
    have ih := while_eq (p := p) (l := l) (k := k) (fun i h hi => by have := h1 (i + 1) (by simpa using h) (by omega); simpa using this) (fun h => by have := h2 (by simpa using h); simpa using this) (by simpa using hk)
    simp [List.takeWhile_cons, List.dropWhile_cons, ha, ih.1, ih.2]
theorem ent_one' {l : List Ent} (k : Nat) : ((l.map Ent.cells).take k).flatten.all S.oneCell = true := by rw [← List.map_take]; exact ents_one _
theorem ent_one2 {l : List Ent} (k : Nat) : ((l.map Ent.cells).drop k).flatten.all S.oneCell = true := by rw [← List.map_drop]; exact ents_one _

theorem rins_spec {q room : Nat} {L : Value} {r : List Ent} {x : Ent} (ht : RT w q room L r) (hro : ∀ e ∈ r, e.ok) (hx : x.ok) (hno : ∀ e ∈ r, eKey e ≠ eKey x) (hn : r.length ≤ 2 ^ 20)
    (h : ∀ w' L', RT w' q room L' (withL r x) → New w L' → Fr (fun b => b = q) w w' → K (.tuple #[]) w') :
    CallsR Tryz.prog 97 #[pt q 0, .agg x.cells.toArray] K w := by
  apply c97
  unfold p97
  simp only [push_cast, Nat.reduceAdd, Nat.reduceLeDiff, Nat.reduceLT, Int.reduceToNat, Nat.left_eq_add, Nat.add_eq_left, Nat.add_left_cancel_iff, Nat.reduceEqDiff, Nat.add_assoc, Nat.succ_ne_zero]
  have hq0 := lt_of_heap ht.blk
  have hF1 : Fr none_ w (w.alloc (cellsO x.cells 40)) := (by repeat' first | with_reducible exact Fr.refl _ _ | with_reducible refine Fr.step_alloc ?_ ?_ | with_reducible refine Fr.step_drew ?_ | with_reducible refine Fr.step_wr ?_ ?_ _ _ | exact rfl | exact Or.inr (by omega) | exact Or.inl rfl | exact Or.inl (Or.inl rfl) | exact Or.inl (Or.inr rfl))
  have hx0 : (w.alloc (cellsO x.cells 40)).heap[w.heap.size]? = some (cellsO x.cells 40) := by simp only [push_cast, Nat.reduceAdd, Nat.reduceLeDiff, Nat.reduceLT, Int.reduceToNat, Nat.left_eq_add, Nat.add_eq_left, Nat.add_left_cancel_iff, Nat.reduceEqDiff, Nat.add_assoc, Nat.succ_ne_zero]
  replace ht := ht.fr0 hF1
  have hxs := lt_of_heap hx0
  generalize w.alloc (cellsO x.cells 40) = w1 at *
  rw [ins_with hno] at h
  obtain ⟨qa, qc, hqe⟩ := ht.own.rd.form
  rw [List.length_map] at hqe
  subst hqe
  have hq := ht.own.rd
  refine jn1 (fun y w' => ∃ k : Nat, y = i64 k ∧ k ≤ r.length ∧ (∀ i (h : i < r.length), i < k → decide (ltE r[i] x) = true) ∧ (∀ h : k < r.length, decide (ltE r[k] x) = false) ∧ Fr none_ w1 w') ?_ fun j hj => ?_
  · rintro y w2 ⟨k, rfl, hk, hk1, hk2, hF2⟩
    obtain ⟨e1, e2⟩ := while_eq (p := fun e => decide (ltE e x)) hk1 hk2 hk
    rw [e1, e2] at h
    refine s_bs0 (sz := 10) fun v3 w3 ho3 hF3 hN3 => ?_
    have ht3 := ht.fr0 (hF2.trans hF3)
    simp only [push_cast, Nat.reduceAdd, Nat.reduceLeDiff, Nat.reduceLT, Int.reduceToNat, Nat.left_eq_add, Nat.add_eq_left, Nat.add_left_cancel_iff, Nat.reduceEqDiff, Nat.add_assoc, Nat.succ_ne_zero, ht3.blk]
    refine s_slcH ht3.own.rd (by rw [List.length_map]; exact hk) fun v4 h4 => ?_
    refine s_app (sz := 10) (by_ := 40) (z := .agg zE.cells.toArray) rfl (by decide) ho3 h4 (ent_one' _) (by simp; omega) fun v5 w5 ho5 hb5 hF5 => ?_
    have hF5' : Fr none_ w2 w5 := hF3.trans_new hF5 fun b hb e => by have := hN3 _ e; omega
    have hx5 := (hF2.trans hF5').heap hx0 fun h => h
    simp only [push_cast, Nat.reduceAdd, Nat.reduceLeDiff, Nat.reduceLT, Int.reduceToNat, Nat.left_eq_add, Nat.add_eq_left, Nat.add_left_cancel_iff, Nat.reduceEqDiff, Nat.add_assoc, Nat.succ_ne_zero, hx5]
    refine s_bs1 (sz := 10) (z := .agg zE.cells.toArray) (Ent.cells_length _) rfl (by decide) (by decide) fun y w6 hy hF6 hN6 => ?_
    refine s_app (sz := 10) (by_ := 40) (z := .agg zE.cells.toArray) rfl (by decide) (ho5.fr hF6 fun _ _ h => h) hy.rd (by simp [Ent.cells_one]) (by simp; omega) fun v7 w7 ho7 hb7 hF7 => ?_
    have hN5 : New w2 v5 := fun b hb => by
      rcases hb5 with hb5 | hb5
      · exact hN3 b (hb5 ▸ hb)
      · have := hb5 b hb; have := hF3.size; omega
    have hF7' : Fr none_ w2 w7 := (hF5'.trans hF6).trans_new hF7 fun b hb e => by have := hN5 _ e; omega
    have hN7 : New w2 v7 := fun b hb => by
      rcases hb7 with hb7 | hb7
      · exact hN5 b (hb7 ▸ hb)
      · have := hb7 b hb; have := (hF5'.trans hF6).size; omega
    have ht7 := ht.fr0 (hF2.trans hF7')
    simp only [push_cast, Nat.reduceAdd, Nat.reduceLeDiff, Nat.reduceLT, Int.reduceToNat, Nat.left_eq_add, Nat.add_eq_left, Nat.add_left_cancel_iff, Nat.reduceEqDiff, Nat.add_assoc, Nat.succ_ne_zero, ht7.blk]
    refine s_slcL ht7.own.rd (by rw [List.length_map]; exact hk) fun v8 h8 => ?_
    refine s_app (sz := 10) (by_ := 40) (z := .agg zE.cells.toArray) rfl (by decide) ho7 h8 (ent_one2 _) (by simp; omega) fun v9 w9 ho9 hb9 hF9 => ?_
    have hF19 : Fr none_ w w9 := ((hF1.trans hF2).trans hF7').trans_new hF9 fun b hb e => by have := hN7 _ e; have := (hF1.trans hF2).size; omega
    have hN9 : New w v9 := fun b hb => by
      have hsz := (hF1.trans hF2).size
      rcases hb9 with hb9 | hb9
      · have := hN7 b (hb9 ▸ hb); omega
      · have := hb9 b hb; have := hF7'.size; omega
    have ht9 := hF9.heap ht7.blk fun e => by have := hN7 _ e; have := (hF1.trans hF2).size; omega
    obtain ⟨a9, c9, hv9⟩ := ho9.rd.form
    have hone := ho9.one
    simp only [push_cast, Nat.reduceAdd, Nat.reduceLeDiff, Nat.reduceLT, Int.reduceToNat, Nat.left_eq_add, Nat.add_eq_left, Nat.add_left_cancel_iff, Nat.reduceEqDiff, Nat.add_assoc, Nat.succ_ne_zero, ht9, hone]
    refine h _ v9 ⟨?_, ?_, fun b hb e => by have := hN9 b hb; omega⟩ hN9 (Fr.step_wr (fp := fun b => b = q) (hF19.mono fun _ _ e => e.elim) (.inl rfl) _ _)
    · simp only [push_cast, Nat.reduceAdd, Nat.reduceLeDiff, Nat.reduceLT, Int.reduceToNat, Nat.left_eq_add, Nat.add_eq_left, Nat.add_left_cancel_iff, Nat.reduceEqDiff, Nat.add_assoc, Nat.succ_ne_zero, ht9]
    · have : OwnE 40 10 w9 v9 ((r.take k ++ x :: r.drop k).map Ent.cells) := by
        rw [List.map_append, List.map_cons, List.map_take, List.map_drop]
        simpa using ho9
      refine this.frame fun b hb => ?_
      have hbq : ¬ b = q := fun e => by have := hN9 b hb; omega
      simp only [push_cast, Nat.reduceAdd, Nat.reduceLeDiff, Nat.reduceLT, Int.reduceToNat, Nat.left_eq_add, Nat.add_eq_left, Nat.add_left_cancel_iff, Nat.reduceEqDiff, Nat.add_assoc, Nat.succ_ne_zero, hbq]
  · refine loop1 (fun n y w' => ∃ k : Nat, y = i64 k ∧ n + k = r.length ∧ (∀ i (h : i < r.length), i < k → decide (ltE r[i] x) = true) ∧ Fr none_ w1 w') ?_ r.length ⟨0, rfl, rfl, fun _ _ h => by omega, Fr.refl _ _⟩
    rintro n y w2 X ⟨k, rfl, hi, hk, hF2⟩ hX
    have ht2 := ht.fr0 hF2
    simp only [push_cast, Nat.reduceAdd, Nat.reduceLeDiff, Nat.reduceLT, Int.reduceToNat, Nat.left_eq_add, Nat.add_eq_left, Nat.add_left_cancel_iff, Nat.reduceEqDiff, Nat.add_assoc, Nat.succ_ne_zero, ht2.blk]
    have hFd : Fr none_ w1 w2.drew := hF2.step_drew
    have hxd := hFd.heap hx0 fun h => h
    have htd := ht.fr0 hFd
    generalize w2.drew = wd at *
    have hqd := htd.own.rd
    refine br_dec (fun hlt => ?_) fun hge => hj _ _ ⟨k, rfl, by omega, hk, fun h => by omega, hFd⟩
    have hkl : k < r.length := by omega
    have hok := hro _ (List.getElem_mem hkl)
    have hend : ¬ ltE r[k] x → ∀ w', Fr none_ w1 w' → j (i64 k) w' := fun hn w' hF => hj _ _ ⟨k, rfl, by omega, hk, fun h => decide_eq_false hn, hF⟩
    have hgo : ltE r[k] x → ∀ w', Fr none_ w1 w' → X (i64 ((k : Int) + 1)) w' := fun hp w' hF => hX (n - 1) _ _ (by omega) ⟨k + 1, by simp, by omega, fun i h hi => by
      rcases Nat.lt_or_ge i k with h1 | h1
      · exact hk i h h1
      · have : i = k := by omega
        subst this
        exact decide_eq_true hp, hF⟩
    refine s_iaE hqd (by omega) (by simpa using hkl) fun b o c _ he => ?_
    simp only [Int.toNat_natCast, List.getElem_map] at he ⊢
    have hv := he.cell 0 (by simp [Ent.cells])
    rw [Nat.add_zero] at hv
    simp only [push_cast, Nat.reduceAdd, Nat.reduceLeDiff, Nat.reduceLT, Int.reduceToNat, Nat.left_eq_add, Nat.add_eq_left, Nat.add_left_cancel_iff, Nat.reduceEqDiff, Nat.add_assoc, Nat.succ_ne_zero, hv, hxd]
    refine br_dec (fun h1 => ?_) fun h1 => ?_
    · rw [wrap_i64 (by omega)]
      exact hgo (.inl h1) _ hFd
    simp only [push_cast, Nat.reduceAdd, Nat.reduceLeDiff, Nat.reduceLT, Int.reduceToNat, Nat.left_eq_add, Nat.add_eq_left, Nat.add_left_cancel_iff, Nat.reduceEqDiff, Nat.add_assoc, Nat.succ_ne_zero, htd.blk]
    refine s_iaE hqd (by omega) (by simpa using hkl) fun b o c _ he => ?_
    simp only [Int.toNat_natCast, List.getElem_map] at he ⊢
    have hv := he.cell 0 (by simp [Ent.cells])
    rw [Nat.add_zero] at hv
    simp only [push_cast, Nat.reduceAdd, Nat.reduceLeDiff, Nat.reduceLT, Int.reduceToNat, Nat.left_eq_add, Nat.add_eq_left, Nat.add_left_cancel_iff, Nat.reduceEqDiff, Nat.add_assoc, Nat.succ_ne_zero, hv, hxd]
    refine br_intro (fun h2 => ?_) fun h2 => ?_
    case refine_2 =>
      refine hend (fun hl => ?_) _ hFd
      rcases hl with hl | hl
      · exact h1 hl
      · simp [hl.1] at h2
    have h2 : r[k].vlan = x.vlan := by simpa using h2
    simp only [push_cast, Nat.reduceAdd, Nat.reduceLeDiff, Nat.reduceLT, Int.reduceToNat, Nat.left_eq_add, Nat.add_eq_left, Nat.add_left_cancel_iff, Nat.reduceEqDiff, Nat.add_assoc, Nat.succ_ne_zero, htd.blk]
    refine s_iaE hqd (by omega) (by simpa using hkl) fun b o c _ he => ?_
    simp only [Int.toNat_natCast, List.getElem_map] at he ⊢
    have hm := he.agg 1 6 (by simp [Ent.cells])
    rw [Nat.add_assoc] at hm
    simp only [push_cast, Nat.reduceAdd, Nat.reduceLeDiff, Nat.reduceLT, Int.reduceToNat, Nat.left_eq_add, Nat.add_eq_left, Nat.add_left_cancel_iff, Nat.reduceEqDiff, Nat.add_assoc, Nat.succ_ne_zero, hm, hxd]
    refine rcmp_spec hok.2.1 hx.2.1 fun w3 hF3 => ?_
    simp only [push_cast, Nat.reduceAdd, Nat.reduceLeDiff, Nat.reduceLT, Int.reduceToNat, Nat.left_eq_add, Nat.add_eq_left, Nat.add_left_cancel_iff, Nat.reduceEqDiff, Nat.add_assoc, Nat.succ_ne_zero]
    have hcm : cmpM r[k].mac x.mac < 0 ↔ macN r[k].mac < macN x.mac := by unfold cmpM; exact cmpI_lt
    refine br_dec (fun h3 => ?_) fun h3 => ?_
    · rw [wrap_i64 (by omega)]
      exact hgo (.inr ⟨h2, hcm.1 h3⟩) _ (hFd.trans hF3)
    · refine hend (fun hl => ?_) _ (hFd.trans hF3)
      rcases hl with hl | hl
      · exact h1 hl
      · exact h3 (hcm.2 hl.2)

theorem own_port {b o c n i : Nat} {es : List Ent} (ho : OwnE 40 10 w (.slice (some ⟨b, o, none⟩) n c) (es.map Ent.cells)) (hn : es.length = n) (hi : i < es.length) (v : Int) :
    okAt w.heap[b]? (o + i * 10 + 7) 1 = true ∧ OwnE 40 10 (wr w b (o + i * 10 + 7) [i64 v]) (.slice (some ⟨b, o, none⟩) n c) ((es.set i { es[i] with port := v }).map Ent.cells) := by
  have hl : (es.map Ent.cells).length = n := by rw [List.length_map]; exact hn
  rw [← hl] at ho ⊢
  obtain ⟨h1, h2⟩ := ho.putF (i := i) (f := 7) (by rw [List.length_map]; exact hi) (by decide) (i64 v)
  refine ⟨h1, ?_⟩
  have e : (es.set i { es[i] with port := v }).map Ent.cells = (es.map Ent.cells).set i ((es.map Ent.cells)[i].set 7 (i64 v)) := by
    rw [List.map_set, List.getElem_map]; rfl
  rw [e]
  exact h2
theorem own_at {b o c n i : Nat} {es : List Ent} (ho : OwnE 40 10 w (.slice (some ⟨b, o, none⟩) n c) (es.map Ent.cells)) (hn : es.length = n) (hi : i < es.length) (v : Int) :
    okAt w.heap[b]? (o + i * 10 + 8) 1 = true ∧ OwnE 40 10 (wr w b (o + i * 10 + 8) [i64 v]) (.slice (some ⟨b, o, none⟩) n c) ((es.set i { es[i] with at_ := v }).map Ent.cells) := by
  have hl : (es.map Ent.cells).length = n := by rw [List.length_map]; exact hn
  rw [← hl] at ho ⊢
  obtain ⟨h1, h2⟩ := ho.putF (i := i) (f := 8) (by rw [List.length_map]; exact hi) (by decide) (i64 v)
  refine ⟨h1, ?_⟩
  have e : (es.set i { es[i] with at_ := v }).map Ent.cells = (es.map Ent.cells).set i ((es.map Ent.cells)[i].set 8 (i64 v)) := by
    rw [List.map_set, List.getElem_map]; rfl
  rw [e]
  exact h2

theorem rlook_spec {q room : Nat} {L : Value} {r : List Ent} {v : Int} {m : Mac} (ht : RT w q room L r) (hs : Srt r) (hv : isI v) (hm : m.ok) (hn : r.length < 2 ^ 30)
    (h : ∀ w', Fr none_ w w' → K (.tuple #[.agg (lookL r (v, m)).1.cells.toArray, .bool (lookL r (v, m)).2]) w') :
    CallsR Tryz.prog 117 #[pt q 0, i64 v, .agg m.cells.toArray] K w := by
  apply c117
  unfold p117
  rw [opS_box]
  show opS Tryz.prog (S.alloc 40) _ (w.alloc (cellsO m.cells 24))
  have hF1 : Fr none_ w (w.alloc (cellsO m.cells 24)) := (by repeat' first | with_reducible exact Fr.refl _ _ | with_reducible refine Fr.step_alloc ?_ ?_ | with_reducible refine Fr.step_drew ?_ | with_reducible refine Fr.step_wr ?_ ?_ _ _ | exact rfl | exact Or.inr (by omega) | exact Or.inl rfl | exact Or.inl (Or.inl rfl) | exact Or.inl (Or.inr rfl))
  have hm0 : (w.alloc (cellsO m.cells 24)).heap[w.heap.size]? = some (cellsO m.cells 24) := by simp only [push_cast, Nat.reduceAdd, Nat.reduceLeDiff, Nat.reduceLT, Int.reduceToNat, Nat.left_eq_add, Nat.add_eq_left, Nat.add_left_cancel_iff, Nat.reduceEqDiff, Nat.add_assoc, Nat.succ_ne_zero]
  replace ht := ht.fr0 hF1
  generalize w.alloc (cellsO m.cells 24) = W at *
  rw [zalloc_ent]
  have hF2 : Fr none_ W (W.alloc (cellsO zE.cells 40)) := (by repeat' first | with_reducible exact Fr.refl _ _ | with_reducible refine Fr.step_alloc ?_ ?_ | with_reducible refine Fr.step_drew ?_ | with_reducible refine Fr.step_wr ?_ ?_ _ _ | exact rfl | exact Or.inr (by omega) | exact Or.inl rfl | exact Or.inl (Or.inl rfl) | exact Or.inl (Or.inr rfl))
  have hz0 : (W.alloc (cellsO zE.cells 40)).heap[W.heap.size]? = some (cellsO zE.cells 40) := by simp only [push_cast, Nat.reduceAdd, Nat.reduceLeDiff, Nat.reduceLT, Int.reduceToNat, Nat.left_eq_add, Nat.add_eq_left, Nat.add_left_cancel_iff, Nat.reduceEqDiff, Nat.add_assoc, Nat.succ_ne_zero]
  replace hm0 := hF2.heap hm0 fun h => h
  replace ht := ht.fr0 hF2
  have hF := hF1.trans hF2
  have hwW := hF1.size
  generalize W.alloc (cellsO zE.cells 40) = w1 at *
  generalize W.heap.size = sl at *
  simp only [push_cast, Nat.reduceAdd, Nat.reduceLeDiff, Nat.reduceLT, Int.reduceToNat, Nat.left_eq_add, Nat.add_eq_left, Nat.add_left_cancel_iff, Nat.reduceEqDiff, Nat.add_assoc, Nat.succ_ne_zero, hm0]
  unfold lookL at h
  refine rfind_spec (k := (v, m)) ht hs.2 ⟨hv, hm⟩ hn (fun hno w3 hF3 => ?_) fun i hi hk w3 hF3 => ?_
  · rw [atK_none hno] at h
    have hz3 := hF3.heap hz0 fun h => h
    simp only [push_cast, Nat.reduceAdd, Nat.reduceLeDiff, Nat.reduceLT, Int.reduceToNat, Nat.left_eq_add, Nat.add_eq_left, Nat.add_left_cancel_iff, Nat.reduceEqDiff, Nat.add_assoc, Nat.succ_ne_zero]
    refine br_dec (fun _ => ?_) fun hg => absurd (by decide) hg
    rw [build_zE, s_stA _ _ _ (Ent.cells_length _) (Ent.cells_one _)]
    simp only [push_cast, Nat.reduceAdd, Nat.reduceLeDiff, Nat.reduceLT, Int.reduceToNat, Nat.left_eq_add, Nat.add_eq_left, Nat.add_left_cancel_iff, Nat.reduceEqDiff, Nat.add_assoc, Nat.succ_ne_zero, hz3]
    exact h _ ((hF.trans hF3).step_wr (.inr (by omega)) _ _)
  · rw [atK_some hs (List.getElem_mem hi) hk] at h
    have hz3 := hF3.heap hz0 fun h => h
    have ht3 := ht.fr0 hF3
    simp only [push_cast, Nat.reduceAdd, Nat.reduceLeDiff, Nat.reduceLT, Int.reduceToNat, Nat.left_eq_add, Nat.add_eq_left, Nat.add_left_cancel_iff, Nat.reduceEqDiff, Nat.add_assoc, Nat.succ_ne_zero]
    refine br_dec (fun hg => by omega) fun _ => ?_
    simp only [push_cast, Nat.reduceAdd, Nat.reduceLeDiff, Nat.reduceLT, Int.reduceToNat, Nat.left_eq_add, Nat.add_eq_left, Nat.add_left_cancel_iff, Nat.reduceEqDiff, Nat.add_assoc, Nat.succ_ne_zero, ht3.blk]
    refine s_iaE ht3.own.rd (by omega) (by simpa using hi) fun b o c _ he => ?_
    simp only [Int.toNat_natCast, List.getElem_map] at he ⊢
    rw [s_ldN (by decide), he.agg0 (Ent.cells_length _), onS_some, s_stA _ _ _ (Ent.cells_length _) (Ent.cells_one _)]
    simp only [push_cast, Nat.reduceAdd, Nat.reduceLeDiff, Nat.reduceLT, Int.reduceToNat, Nat.left_eq_add, Nat.add_eq_left, Nat.add_left_cancel_iff, Nat.reduceEqDiff, Nat.add_assoc, Nat.succ_ne_zero, hz3]
    exact h _ ((hF.trans hF3).step_wr (.inr (by omega)) _ _)

end Go.Gx.S

namespace Go.Gx.S
open Go Go.Gx Go.Proofs
variable {K : Value → World → Prop} {w : World}

theorem RT.none {fp : Nat → Prop} {w w' : World} (h : Fr none_ w w') : Fr fp w w' := h.mono fun _ _ e => e.elim

theorem rlearn_spec {q room : Nat} {L : Value} {r : List Ent} {v a t : Int} {m : Mac} (ht : RT w q room L r) (hs : Srt r) (hv : isI v) (hm : m.ok) (ha : isI a) (htt : isI t) (hn : r.length ≤ 2 ^ 20) (hrm : room ≤ 2 ^ 20)
    (h : ∀ w' L', RT w' q room L' (learnL room r v m a t).1 → NewOr w L L' → Fr (rp q L) w w' → K (.tuple #[i64 (learnL room r v m a t).2.1, i64 (learnL room r v m a t).2.2]) w') :
    CallsR Tryz.prog 129 #[pt q 0, i64 v, .agg m.cells.toArray, i64 a, i64 t] K w := by
  apply c129
  unfold p129
  simp only [push_cast, Nat.reduceAdd, Nat.reduceLeDiff, Nat.reduceLT, Int.reduceToNat, Nat.left_eq_add, Nat.add_eq_left, Nat.add_left_cancel_iff, Nat.reduceEqDiff, Nat.add_assoc, Nat.succ_ne_zero]
  have hq0 := lt_of_heap ht.blk
  have hF : Fr none_ w (w.alloc (cellsO m.cells 24)) := (by repeat' first | with_reducible exact Fr.refl _ _ | with_reducible refine Fr.step_alloc ?_ ?_ | with_reducible refine Fr.step_drew ?_ | with_reducible refine Fr.step_wr ?_ ?_ _ _ | exact rfl | exact Or.inr (by omega) | exact Or.inl rfl | exact Or.inl (Or.inl rfl) | exact Or.inl (Or.inr rfl))
  have hm0 : (w.alloc (cellsO m.cells 24)).heap[w.heap.size]? = some (cellsO m.cells 24) := by simp only [push_cast, Nat.reduceAdd, Nat.reduceLeDiff, Nat.reduceLT, Int.reduceToNat, Nat.left_eq_add, Nat.add_eq_left, Nat.add_left_cancel_iff, Nat.reduceEqDiff, Nat.add_assoc, Nat.succ_ne_zero]
  replace ht := ht.fr0 hF
  generalize w.alloc (cellsO m.cells 24) = W at *
  refine rright_spec hm fun w2 hF2 => ?_
  replace ht := ht.fr0 hF2
  replace hm0 := hF2.heap hm0 fun h => h
  replace hF := hF.trans hF2
  unfold learnL at h
  have same : NewOr w L L := fun b hb => .inl hb
  simp only [push_cast, Nat.reduceAdd, Nat.reduceLeDiff, Nat.reduceLT, Int.reduceToNat, Nat.left_eq_add, Nat.add_eq_left, Nat.add_left_cancel_iff, Nat.reduceEqDiff, Nat.add_assoc, Nat.succ_ne_zero]
  cases hr : rightB v m a with
  | false =>
    rw [hr, Bool.false_and] at h
    simp only [push_cast, Nat.reduceAdd, Nat.reduceLeDiff, Nat.reduceLT, Int.reduceToNat, Nat.left_eq_add, Nat.add_eq_left, Nat.add_left_cancel_iff, Nat.reduceEqDiff, Nat.add_assoc, Nat.succ_ne_zero, Bool.not_false]
    exact h _ L ht same (RT.none hF)
  | true =>
  rw [hr, Bool.true_and] at h
  simp only [push_cast, Nat.reduceAdd, Nat.reduceLeDiff, Nat.reduceLT, Int.reduceToNat, Nat.left_eq_add, Nat.add_eq_left, Nat.add_left_cancel_iff, Nat.reduceEqDiff, Nat.add_assoc, Nat.succ_ne_zero, Bool.not_true]
  refine br_dec (fun h1 => ?_) fun h1 => ?_
  · have : timedB t = false := by
      cases e : timedB t
      · rfl
      · have := timedB_iff.1 e; omega
    rw [this] at h
    exact h _ L ht same (RT.none hF)
  refine br_dec (fun h2 => ?_) fun h2 => ?_
  · have : timedB t = false := by
      cases e : timedB t
      · rfl
      · have := timedB_iff.1 e; omega
    rw [this] at h
    exact h _ L ht same (RT.none hF)
  have htm : timedB t = true := timedB_iff.2 ⟨by omega, by omega⟩
  rw [htm, if_pos rfl] at h
  simp only [push_cast, Nat.reduceAdd, Nat.reduceLeDiff, Nat.reduceLT, Int.reduceToNat, Nat.left_eq_add, Nat.add_eq_left, Nat.add_left_cancel_iff, Nat.reduceEqDiff, Nat.add_assoc, Nat.succ_ne_zero, hm0]
  have hok : (⟨v, m, a, t, false⟩ : Ent).ok := ⟨hv, hm, ha, htt⟩
  refine rfind_spec (k := (v, m)) ht hs.2 ⟨hv, hm⟩ (by omega) (fun hno w3 hF3 => ?_) fun i hi hk w3 hF3 => ?_
  · rw [atK_none hno] at h
    replace ht := ht.fr0 hF3
    replace hm0 := hF3.heap hm0 fun h => h
    replace hF := hF.trans hF3
    have hblk := ht.blk
    obtain ⟨la, lc, hL⟩ := ht.own.rd.form
    rw [List.length_map] at hL
    simp only [push_cast, Nat.reduceAdd, Nat.reduceLeDiff, Nat.reduceLT, Int.reduceToNat, Nat.left_eq_add, Nat.add_eq_left, Nat.add_left_cancel_iff, Nat.reduceEqDiff, Nat.add_assoc, Nat.succ_ne_zero]
    refine br_dec (fun hg => absurd hg (by decide)) fun _ => ?_
    rw [hL] at hblk
    simp only [push_cast, Nat.reduceAdd, Nat.reduceLeDiff, Nat.reduceLT, Int.reduceToNat, Nat.left_eq_add, Nat.add_eq_left, Nat.add_left_cancel_iff, Nat.reduceEqDiff, Nat.add_assoc, Nat.succ_ne_zero, hblk]
    refine br_dec (fun hfull => ?_) fun hfull => ?_
    · simp only [if_pos (show room ≤ r.length by omega)] at h
      exact h _ L (ht.fr0 (Fr.drew w3)) same (RT.none (hF.trans (Fr.drew w3)))
    simp only [if_neg (show ¬ room ≤ r.length by omega)] at h
    simp only [push_cast, Nat.reduceAdd, Nat.reduceLeDiff, Nat.reduceLT, Int.reduceToNat, Nat.left_eq_add, Nat.add_eq_left, Nat.add_left_cancel_iff, Nat.reduceEqDiff, Nat.add_assoc, Nat.succ_ne_zero, hm0]
    rw [build_lrn]
    simp only [push_cast, Nat.reduceAdd, Nat.reduceLeDiff, Nat.reduceLT, Int.reduceToNat, Nat.left_eq_add, Nat.add_eq_left, Nat.add_left_cancel_iff, Nat.reduceEqDiff, Nat.add_assoc, Nat.succ_ne_zero]
    refine rins_spec (ht.fr0 (Fr.drew w3)) hs.2 hok hno (by omega) fun w4 L' ht4 hN4 hF4 => ?_
    have hsz := (hF.trans (Fr.drew w3)).size
    exact h _ L' ht4 (fun b hb => .inr (Nat.le_trans hsz (hN4 b hb))) ((RT.none (hF.trans (Fr.drew w3))).trans_new hF4 fun b _ e => .inl e)
  · rw [atK_some hs (List.getElem_mem hi) hk] at h
    replace ht := ht.fr0 hF3
    replace hF := hF.trans hF3
    obtain ⟨lb, lo, lc, hL⟩ := ht.own.form' (by rw [List.length_map]; omega)
    rw [List.length_map] at hL
    subst hL
    simp only [push_cast, Nat.reduceAdd, Nat.reduceLeDiff, Nat.reduceLT, Int.reduceToNat, Nat.left_eq_add, Nat.add_eq_left, Nat.add_left_cancel_iff, Nat.reduceEqDiff, Nat.add_assoc, Nat.succ_ne_zero]
    refine br_dec (fun _ => ?_) fun hg => absurd (by omega) hg
    simp only [push_cast, Nat.reduceAdd, Nat.reduceLeDiff, Nat.reduceLT, Int.reduceToNat, Nat.left_eq_add, Nat.add_eq_left, Nat.add_left_cancel_iff, Nat.reduceEqDiff, Nat.add_assoc, Nat.succ_ne_zero, ht.blk]
    have hml : r.length = (r.map Ent.cells).length := (List.length_map _).symm
    refine s_iaE ht.own.rd (by omega) (by simpa using hi) fun b o c hvv he => ?_
    simp only [Value.slice.injEq, Option.some.injEq, Addr.mk.injEq] at hvv
    obtain ⟨⟨rfl, rfl, _⟩, _, rfl⟩ := hvv
    simp only [Int.toNat_natCast, List.getElem_map] at he ⊢
    have hst := he.cell 9 (by simp [Ent.cells])
    rw [Nat.add_assoc] at hst
    simp only [push_cast, Nat.reduceAdd, Nat.reduceLeDiff, Nat.reduceLT, Int.reduceToNat, Nat.left_eq_add, Nat.add_eq_left, Nat.add_left_cancel_iff, Nat.reduceEqDiff, Nat.add_assoc, Nat.succ_ne_zero, hst]
    refine br_intro (fun hs2 => ?_) fun hs2 => ?_
    · simp only [hs2, if_true] at h
      exact h _ _ ht same (RT.none hF)
    simp only [hs2, Bool.false_eq_true, if_false] at h
    have hlq : lb ≠ q := ht.ne lb rfl
    have hql : ¬ q = lb := fun e => hlq e.symm
    simp only [push_cast, Nat.reduceAdd, Nat.reduceLeDiff, Nat.reduceLT, Int.reduceToNat, Nat.left_eq_add, Nat.add_eq_left, Nat.add_left_cancel_iff, Nat.reduceEqDiff, Nat.add_assoc, Nat.succ_ne_zero, ht.blk]
    refine s_iaE ht.own.rd (by omega) (by simpa using hi) fun b o c hvv he => ?_
    simp only [Value.slice.injEq, Option.some.injEq, Addr.mk.injEq] at hvv
    obtain ⟨⟨rfl, rfl, _⟩, _, rfl⟩ := hvv
    simp only [Int.toNat_natCast, List.getElem_map] at he ⊢
    have hpo := he.cell 7 (by simp [Ent.cells])
    rw [Nat.add_assoc] at hpo
    simp only [push_cast, Nat.reduceAdd, Nat.reduceLeDiff, Nat.reduceLT, Int.reduceToNat, Nat.left_eq_add, Nat.add_eq_left, Nat.add_left_cancel_iff, Nat.reduceEqDiff, Nat.add_assoc, Nat.succ_ne_zero, hpo, ht.blk]
    refine s_iaE ht.own.rd (by omega) (by simpa using hi) fun b o c hvv _ => ?_
    simp only [Value.slice.injEq, Option.some.injEq, Addr.mk.injEq] at hvv
    obtain ⟨⟨rfl, rfl, _⟩, _, rfl⟩ := hvv
    obtain ⟨ok1, own1⟩ := own_port ht.own rfl hi a
    rw [Nat.add_assoc] at ok1 own1
    simp only [Int.toNat_natCast]
    simp only [push_cast, Nat.reduceAdd, Nat.reduceLeDiff, Nat.reduceLT, Int.reduceToNat, Nat.left_eq_add, Nat.add_eq_left, Nat.add_left_cancel_iff, Nat.reduceEqDiff, Nat.add_assoc, Nat.succ_ne_zero, ok1, hql, ht.blk]
    have hb1 : (wr w3 lb (lo + (i * 10 + 7)) [i64 a]).heap[q]? = some (cellsO [i64 room, .slice (some ⟨lb, lo, none⟩) r.length lc] 118) := by simp only [push_cast, Nat.reduceAdd, Nat.reduceLeDiff, Nat.reduceLT, Int.reduceToNat, Nat.left_eq_add, Nat.add_eq_left, Nat.add_left_cancel_iff, Nat.reduceEqDiff, Nat.add_assoc, Nat.succ_ne_zero, hql, ht.blk]
    have hF4 : Fr (rp q (.slice (some ⟨lb, lo, none⟩) r.length lc)) w (wr w3 lb (lo + (i * 10 + 7)) [i64 a]) := (RT.none hF).step_wr (.inl (.inr rfl)) _ _
    generalize wr w3 lb (lo + (i * 10 + 7)) [i64 a] = w4 at *
    refine s_iaE own1.rd (by omega) (by simpa using hi) fun b o c hvv _ => ?_
    simp only [Value.slice.injEq, Option.some.injEq, Addr.mk.injEq] at hvv
    obtain ⟨⟨rfl, rfl, _⟩, _, rfl⟩ := hvv
    obtain ⟨ok2, own2⟩ := own_at own1 (by rw [List.length_set]) (show i < _ by rw [List.length_set]; exact hi) t
    rw [Nat.add_assoc] at ok2 own2
    simp only [Int.toNat_natCast]
    simp only [push_cast, Nat.reduceAdd, Nat.reduceLeDiff, Nat.reduceLT, Int.reduceToNat, Nat.left_eq_add, Nat.add_eq_left, Nat.add_left_cancel_iff, Nat.reduceEqDiff, Nat.add_assoc, Nat.succ_ne_zero, ok2]
    rw [List.getElem_set_self, List.set_set] at own2
    have hent : ({ { r[i] with port := a } with at_ := t } : Ent) = ⟨v, m, a, t, false⟩ := by
      have h3 := congrArg Prod.fst hk
      have h4 := congrArg Prod.snd hk
      unfold eKey at h3 h4
      simp only at h3 h4
      rw [← h3, ← h4]
      exact Ent.ext rfl rfl rfl rfl hs2
    rw [hent, set_with hs hi (x := ⟨v, m, a, t, false⟩) hk hok] at own2
    have hb2 : (wr w4 lb (lo + (i * 10 + 8)) [i64 t]).heap[q]? = some (cellsO [i64 room, .slice (some ⟨lb, lo, none⟩) r.length lc] 118) := by simp only [push_cast, Nat.reduceAdd, Nat.reduceLeDiff, Nat.reduceLT, Int.reduceToNat, Nat.left_eq_add, Nat.add_eq_left, Nat.add_left_cancel_iff, Nat.reduceEqDiff, Nat.add_assoc, Nat.succ_ne_zero, hql, hb1]
    have hF5 : Fr (rp q (.slice (some ⟨lb, lo, none⟩) r.length lc)) w (wr w4 lb (lo + (i * 10 + 8)) [i64 t]) := hF4.step_wr (.inl (.inr rfl)) _ _
    have h' := h _ _ ⟨hb2, own2, ht.ne⟩ same hF5
    refine br_intro (fun hne => ?_) fun hne => ?_
    · rw [if_pos (by simpa using hne)] at h'
      exact h'
    · rw [if_neg (by simpa using hne)] at h'
      exact h'

theorem rput_spec {q room : Nat} {L : Value} {r : List Ent} {v a : Int} {m : Mac} (ht : RT w q room L r) (hs : Srt r) (hv : isI v) (hm : m.ok) (ha : isI a) (hn : r.length ≤ 2 ^ 20) (hrm : room ≤ 2 ^ 20)
    (h : ∀ w' L', RT w' q room L' (putL room r v m a).1 → NewOr w L L' → Fr (rp q L) w w' → K (i64 (putL room r v m a).2) w') :
    CallsR Tryz.prog 65 #[pt q 0, i64 v, .agg m.cells.toArray, i64 a] K w := by
  apply c65
  unfold p65
  simp only [push_cast, Nat.reduceAdd, Nat.reduceLeDiff, Nat.reduceLT, Int.reduceToNat, Nat.left_eq_add, Nat.add_eq_left, Nat.add_left_cancel_iff, Nat.reduceEqDiff, Nat.add_assoc, Nat.succ_ne_zero]
  have hq0 := lt_of_heap ht.blk
  have hF : Fr none_ w (w.alloc (cellsO m.cells 24)) := (by repeat' first | with_reducible exact Fr.refl _ _ | with_reducible refine Fr.step_alloc ?_ ?_ | with_reducible refine Fr.step_drew ?_ | with_reducible refine Fr.step_wr ?_ ?_ _ _ | exact rfl | exact Or.inr (by omega) | exact Or.inl rfl | exact Or.inl (Or.inl rfl) | exact Or.inl (Or.inr rfl))
  have hm0 : (w.alloc (cellsO m.cells 24)).heap[w.heap.size]? = some (cellsO m.cells 24) := by simp only [push_cast, Nat.reduceAdd, Nat.reduceLeDiff, Nat.reduceLT, Int.reduceToNat, Nat.left_eq_add, Nat.add_eq_left, Nat.add_left_cancel_iff, Nat.reduceEqDiff, Nat.add_assoc, Nat.succ_ne_zero]
  replace ht := ht.fr0 hF
  generalize w.alloc (cellsO m.cells 24) = W at *
  refine rright_spec hm fun w2 hF2 => ?_
  replace ht := ht.fr0 hF2
  replace hm0 := hF2.heap hm0 fun h => h
  replace hF := hF.trans hF2
  unfold putL at h
  have same : NewOr w L L := fun b hb => .inl hb
  simp only [push_cast, Nat.reduceAdd, Nat.reduceLeDiff, Nat.reduceLT, Int.reduceToNat, Nat.left_eq_add, Nat.add_eq_left, Nat.add_left_cancel_iff, Nat.reduceEqDiff, Nat.add_assoc, Nat.succ_ne_zero]
  cases hr : rightB v m a with
  | false =>
    rw [hr] at h
    simp only [push_cast, Nat.reduceAdd, Nat.reduceLeDiff, Nat.reduceLT, Int.reduceToNat, Nat.left_eq_add, Nat.add_eq_left, Nat.add_left_cancel_iff, Nat.reduceEqDiff, Nat.add_assoc, Nat.succ_ne_zero, Bool.not_false]
    exact h _ L ht same (RT.none hF)
  | true =>
  rw [hr, if_pos rfl] at h
  simp only [push_cast, Nat.reduceAdd, Nat.reduceLeDiff, Nat.reduceLT, Int.reduceToNat, Nat.left_eq_add, Nat.add_eq_left, Nat.add_left_cancel_iff, Nat.reduceEqDiff, Nat.add_assoc, Nat.succ_ne_zero, Bool.not_true, hm0]
  have hok : (⟨v, m, a, 0, true⟩ : Ent).ok := ⟨hv, hm, ha, isI_iff.2 (show (-9223372036854775808 : Int) ≤ 0 ∧ (0 : Int) ≤ 9223372036854775807 by decide)⟩
  rw [build_put]
  refine ent_slot fun _ w3 hx3 hF3 => ?_
  replace ht := ht.fr0 hF3
  replace hm0 := hF3.heap hm0 fun h => h
  replace hF := hF.trans hF3
  generalize w2.heap.size = sl at *
  simp only [push_cast, Nat.reduceAdd, Nat.reduceLeDiff, Nat.reduceLT, Int.reduceToNat, Nat.left_eq_add, Nat.add_eq_left, Nat.add_left_cancel_iff, Nat.reduceEqDiff, Nat.add_assoc, Nat.succ_ne_zero, hm0]
  refine rfind_spec (k := (v, m)) ht hs.2 ⟨hv, hm⟩ (by omega) (fun hno w4 hF4 => ?_) fun i hi hk w4 hF4 => ?_
  · rw [atK_none hno] at h
    replace ht := ht.fr0 hF4
    replace hx3 := hF4.heap hx3 fun h => h
    replace hF := hF.trans hF4
    have hblk := ht.blk
    obtain ⟨la, lc, hL⟩ := ht.own.rd.form
    rw [List.length_map] at hL
    simp only [push_cast, Nat.reduceAdd, Nat.reduceLeDiff, Nat.reduceLT, Int.reduceToNat, Nat.left_eq_add, Nat.add_eq_left, Nat.add_left_cancel_iff, Nat.reduceEqDiff, Nat.add_assoc, Nat.succ_ne_zero]
    refine br_dec (fun hg => absurd hg (by decide)) fun _ => ?_
    rw [hL] at hblk
    simp only [push_cast, Nat.reduceAdd, Nat.reduceLeDiff, Nat.reduceLT, Int.reduceToNat, Nat.left_eq_add, Nat.add_eq_left, Nat.add_left_cancel_iff, Nat.reduceEqDiff, Nat.add_assoc, Nat.succ_ne_zero, hblk]
    refine br_dec (fun hfull => ?_) fun hfull => ?_
    · simp only [if_pos (show room ≤ r.length by omega)] at h
      exact h _ L (ht.fr0 (Fr.drew w4)) same (RT.none (hF.trans (Fr.drew w4)))
    simp only [if_neg (show ¬ room ≤ r.length by omega)] at h
    simp only [push_cast, Nat.reduceAdd, Nat.reduceLeDiff, Nat.reduceLT, Int.reduceToNat, Nat.left_eq_add, Nat.add_eq_left, Nat.add_left_cancel_iff, Nat.reduceEqDiff, Nat.add_assoc, Nat.succ_ne_zero, hx3]
    refine rins_spec (ht.fr0 (Fr.drew w4)) hs.2 hok hno (by omega) fun w5 L' ht5 hN5 hF5 => ?_
    have hsz := (hF.trans (Fr.drew w4)).size
    exact h _ L' ht5 (fun b hb => .inr (Nat.le_trans hsz (hN5 b hb))) ((RT.none (hF.trans (Fr.drew w4))).trans_new hF5 fun b _ e => .inl e)
  · rw [atK_some hs (List.getElem_mem hi) hk] at h
    replace ht := ht.fr0 hF4
    replace hx3 := hF4.heap hx3 fun h => h
    replace hF := hF.trans hF4
    obtain ⟨lb, lo, lc, hL⟩ := ht.own.form' (by rw [List.length_map]; omega)
    rw [List.length_map] at hL
    subst hL
    simp only [push_cast, Nat.reduceAdd, Nat.reduceLeDiff, Nat.reduceLT, Int.reduceToNat, Nat.left_eq_add, Nat.add_eq_left, Nat.add_left_cancel_iff, Nat.reduceEqDiff, Nat.add_assoc, Nat.succ_ne_zero]
    refine br_dec (fun _ => ?_) fun hg => absurd (by omega) hg
    simp only [push_cast, Nat.reduceAdd, Nat.reduceLeDiff, Nat.reduceLT, Int.reduceToNat, Nat.left_eq_add, Nat.add_eq_left, Nat.add_left_cancel_iff, Nat.reduceEqDiff, Nat.add_assoc, Nat.succ_ne_zero, ht.blk, hx3]
    refine s_putE (ht.own.fr (Fr.drew (fp := none_) w4) fun _ _ h => h) rfl hi fun w5 ho5 hF5 => ?_
    rw [set_with hs hi (x := ⟨v, m, a, 0, true⟩) hk hok] at ho5
    have hlq : lb ≠ q := ht.ne lb rfl
    have hb5 := hF5.heap ((Fr.drew (fp := none_) w4).heap ht.blk fun h => h) fun e => hlq e.symm
    exact h _ _ ⟨hb5, ho5, ht.ne⟩ same ((RT.none (hF.trans (Fr.drew w4))).trans_new hF5 fun b _ e => .inr (by rw [e]; rfl))

/-! ### Remove: in any order -/

section
variable {w0 : World} {q room : Nat} {L : Value} {r : List Ent}
theorem rm_ld (hR : RT w0 q room L r) (hF : Fr none_ w0 w) (hk : K L w) : opS Tryz.prog (S.ld 51 (pt q 1)) K w := by
  have := hF.heap hR.blk fun h => h
  simp only [push_cast, Nat.reduceAdd, Nat.reduceLeDiff, Nat.reduceLT, Int.reduceToNat, Nat.left_eq_add, Nat.add_eq_left, Nat.add_left_cancel_iff, Nat.reduceEqDiff, Nat.add_assoc, Nat.succ_ne_zero, this]
  exact hk
theorem rm_bs (hF : Fr none_ w0 w) (hk : ∀ v w', OwnE 40 10 w' v (([] : List Ent).map Ent.cells) → New w0 v → Fr none_ w0 w' → K v w') : opS Tryz.prog (S.buildS 51 0 []) K w :=
  s_bs0 (sz := 10) fun v w' ho hF' hN => hk v w' ho (fun b hb => Nat.le_trans hF.size (hN b hb)) (hF.trans hF')
theorem rm_slcH (hR : RT w0 q room L r) {i : Nat} (hi : i ≤ r.length) (hk : ∀ v, RdE 10 w0 v ((r.take i).map Ent.cells) → K v w) : opS Tryz.prog (S.slc 51 L none (some (i64 i)) none) K w := by
  have hr := hR.own.rd
  obtain ⟨a, c, rfl, hc⟩ := hr.cap
  have hl : (r.map Ent.cells).length = r.length := List.length_map _
  rw [opS_slice (run_boundsH (hi := (i : Int)) (by omega) (by omega))]
  have := hr.part (l := 0) (m := i) (by omega) (by omega)
  have e : (r.map Ent.cells).take i = (r.take i).map Ent.cells := List.map_take.symm
  rw [List.drop_zero, e] at this
  exact hk _ this
theorem rm_slcL (hR : RT w0 q room L r) {i : Nat} {x : Int} (hx : x = i) (hi : i ≤ r.length) (hk : ∀ v, RdE 10 w0 v ((r.drop i).map Ent.cells) → K v w) : opS Tryz.prog (S.slc 51 L (some (i64 x)) none none) K w := by
  subst hx
  have hr := hR.own.rd
  obtain ⟨a, c, rfl, hc⟩ := hr.cap
  have hl : (r.map Ent.cells).length = r.length := List.length_map _
  rw [opS_slice (run_boundsL (lo := (i : Int)) (by omega) (by omega))]
  have := hr.part (l := i) (m := (r.map Ent.cells).length) (by omega) (Nat.le_refl _)
  have e : (r.map Ent.cells).drop i = (r.drop i).map Ent.cells := List.map_drop.symm
  rw [List.take_length, e] at this
  exact hk _ this
theorem rm_app {l g : List Ent} {v u : Value} (ho : OwnE 40 10 w v (l.map Ent.cells)) (hN : New w0 v) (hF : Fr none_ w0 w) (hu : RdE 10 w0 u (g.map Ent.cells)) (hl : l.length + g.length ≤ 2 ^ 21)
    (hk : ∀ v' w', OwnE 40 10 w' v' ((l ++ g).map Ent.cells) → New w0 v' → Fr none_ w0 w' → K v' w') : opS Tryz.prog (S.bi .append #[51, 51] 51 [v, u]) K w := by
  refine s_app (sz := 10) (by_ := 40) (z := .agg zE.cells.toArray) rfl (by decide) ho (hu.fr hF fun _ _ h => h) (ents_one _) (by rw [List.length_map, List.length_map]; omega) fun v' w' ho' hb' hF' => hk v' w' (by rw [List.map_append]; exact ho') (fun b hb => ?_) (hF.trans_new hF' fun b hb e => by have := hN _ e; omega)
  rcases hb' with hb' | hb'
  · exact hN b (hb' ▸ hb)
  · exact Nat.le_trans hF.size (hb' b hb)
end

end Go.Gx.S

namespace Go.Gx.S
open Go Go.Gx Go.Proofs
variable {K : Value → World → Prop} {w : World}

/-- how it is told of a kind: 0 old, 1 a port, 2 a VLAN -/
def KindA (kind a b : Int) (A : Ent → Bool) (r : List Ent) : Prop :=
  (kind = 0 ∧ (-4611686018427387904 ≤ a - b ∧ a - b ≤ 4611686018427387904) ∧ ∀ e ∈ r, A e = decide (e.at_ ≤ a - b)) ∨ (kind = 1 ∧ ∀ e, A e = (e.port == a)) ∨ (kind = 2 ∧ ∀ e, A e = (e.vlan == a))

theorem rforget_spec {q room : Nat} {L : Value} {r : List Ent} {A : Ent → Bool} {kind a b : Int} (ht : RT w q room L r) (hro : ∀ e ∈ r, e.ok) (hA : KindA kind a b A r) (hn : r.length ≤ 2 ^ 20)
    (h : ∀ w' L' v, RT w' q room L' (r.filter fun e => !(A e && !e.static)) → RdE 10 w' v ((r.filter fun e => A e && !e.static).map Ent.cells) → New w L' → New w v → (∀ x, blkS v = some x → blkS L' ≠ some x) → Fr (fun x => x = q) w w' → K v w') :
    CallsR Tryz.prog 92 #[pt q 0, i64 kind, i64 a, i64 b] K w := by
  apply c92
  unfold p92
  have hq0 := lt_of_heap ht.blk
  obtain ⟨la, lc, hL⟩ := ht.own.rd.form
  rw [List.length_map] at hL
  subst hL
  refine jn2 (fun x y w' => OwnE 40 10 w' x ((r.filter fun e => !(A e && !e.static)).map Ent.cells) ∧ OwnE 40 10 w' y ((r.filter fun e => A e && !e.static).map Ent.cells) ∧ New w x ∧ New w y ∧ (∀ z, blkS x = some z → blkS y ≠ some z) ∧ Fr none_ w w') ?_ fun j hj => ?_
  · rintro x y w2 ⟨ox, oy, nx, ny, nxy, hF2⟩
    have ht2 := ht.fr0 hF2
    have hone := ox.one
    simp only [push_cast, Nat.reduceAdd, Nat.reduceLeDiff, Nat.reduceLT, Int.reduceToNat, Nat.left_eq_add, Nat.add_eq_left, Nat.add_left_cancel_iff, Nat.reduceEqDiff, Nat.add_assoc, Nat.succ_ne_zero, ht2.blk, hone]
    refine h _ x y ⟨?_, ?_, fun b hb e => by have := nx b hb; omega⟩ ?_ nx ny (fun z hz hx => nxy z hx hz) (Fr.step_wr (fp := fun x => x = q) (RT.none hF2) (.inl rfl) _ _)
    · simp only [push_cast, Nat.reduceAdd, Nat.reduceLeDiff, Nat.reduceLT, Int.reduceToNat, Nat.left_eq_add, Nat.add_eq_left, Nat.add_left_cancel_iff, Nat.reduceEqDiff, Nat.add_assoc, Nat.succ_ne_zero, ht2.blk]
    · refine ox.frame fun b hb => ?_
      have hbq : ¬ b = q := fun e => by have := nx b hb; omega
      simp only [push_cast, Nat.reduceAdd, Nat.reduceLeDiff, Nat.reduceLT, Int.reduceToNat, Nat.left_eq_add, Nat.add_eq_left, Nat.add_left_cancel_iff, Nat.reduceEqDiff, Nat.add_assoc, Nat.succ_ne_zero, hbq]
    · refine (oy.frame fun b hb => ?_).rd
      have hbq : ¬ b = q := fun e => by have := ny b hb; omega
      simp only [push_cast, Nat.reduceAdd, Nat.reduceLeDiff, Nat.reduceLT, Int.reduceToNat, Nat.left_eq_add, Nat.add_eq_left, Nat.add_left_cancel_iff, Nat.reduceEqDiff, Nat.add_assoc, Nat.succ_ne_zero, hbq]
  refine loop3 (fun n x y z w' => ∃ i : Nat, z = i64 i ∧ n + i = r.length ∧ OwnE 40 10 w' x (((r.take i).filter fun e => !(A e && !e.static)).map Ent.cells) ∧ OwnE 40 10 w' y (((r.take i).filter fun e => A e && !e.static).map Ent.cells) ∧ New w x ∧ New w y ∧ (∀ z, blkS x = some z → blkS y ≠ some z) ∧ Fr none_ w w') ?_ r.length
    ⟨0, rfl, rfl, own_nil _ _ _, own_nil _ _ _, (fun _ hb => by cases hb), (fun _ hb => by cases hb), (fun _ hb => by cases hb), Fr.refl _ _⟩
  rintro n x y z w2 X ⟨i, rfl, hi, ox, oy, nx, ny, nxy, hF2⟩ hX
  have ht2 := ht.fr0 hF2
  simp only [push_cast, Nat.reduceAdd, Nat.reduceLeDiff, Nat.reduceLT, Int.reduceToNat, Nat.left_eq_add, Nat.add_eq_left, Nat.add_left_cancel_iff, Nat.reduceEqDiff, Nat.add_assoc, Nat.succ_ne_zero, ht2.blk]
  refine br_dec (fun hlt => ?_) fun hge => ?_
  case refine_2 =>
    have : i = r.length := by omega
    subst this
    rw [List.take_length] at ox oy
    exact hj _ _ _ ⟨ox, oy, nx, ny, nxy, hF2⟩
  have hil : i < r.length := by omega
  have hok := hro _ (List.getElem_mem hil)
  have hAe : KindA kind a b A [r[i]] := by
    rcases hA with ⟨h1, h2, h3⟩ | h1 | h1
    · exact .inl ⟨h1, h2, fun e he => h3 e (by simp at he; rw [he]; exact List.getElem_mem hil)⟩
    · exact .inr (.inl h1)
    · exact .inr (.inr h1)
  refine s_getE ht2.own.rd hil ?_
  refine ent_slot fun _ w3 hw3 hF3 => ?_
  have hsz2 := hF2.size
  have htk : ∀ P : Ent → Bool, (r.take (i + 1)).filter P = (r.take i).filter P ++ if P r[i] = true then [r[i]] else [] := fun P => by
    rw [List.take_succ_eq_append_getElem hil, List.filter_append]
    congr 1
    by_cases e : P r[i] = true <;> simp [e]
  have hlk : ∀ P : Ent → Bool, ((r.take i).filter P).length ≤ i := fun P => Nat.le_trans (List.length_filter_le _ _) (by rw [List.length_take]; omega)
  replace ox := ox.fr hF3 fun _ _ h => h
  replace oy := oy.fr hF3 fun _ _ h => h
  have hF23 := hF2.trans hF3
  generalize hsl : w2.heap.size = sl at *
  generalize r[i] = e at *
  clear ht2 hF3
  refine jn1 (fun v w' => v = .bool (A e) ∧ Fr none_ w3 w') ?_ fun j2 hj2 => ?_
  · rintro v w4 ⟨rfl, hF4⟩
    refine jn0 (fun w' => Fr none_ w3 w' ∧ (A e && !e.static) = false) ?_ fun j3 hj3 => ?_
    · rintro w5 ⟨hF5, hk⟩
      have hw5 := hF5.heap hw3 fun h => h
      have hF25 := hF23.trans hF5
      simp only [push_cast, Nat.reduceAdd, Nat.reduceLeDiff, Nat.reduceLT, Int.reduceToNat, Nat.left_eq_add, Nat.add_eq_left, Nat.add_left_cancel_iff, Nat.reduceEqDiff, Nat.add_assoc, Nat.succ_ne_zero, hw5]
      refine s_bs1 (sz := 10) (z := .agg zE.cells.toArray) (Ent.cells_length _) rfl (by decide) (by decide) fun u w6 hu hF6 hN6 => ?_
      refine s_app (sz := 10) (by_ := 40) (z := .agg zE.cells.toArray) rfl (by decide) (ox.fr (hF5.trans hF6) fun _ _ h => h) hu.rd (by simp [Ent.cells_one]) (by have := hlk fun e => !(A e && !e.static); rw [List.length_map]; simp only [List.length_cons, List.length_nil]; omega) fun v7 w7 ho7 hb7 hF7 => ?_
      have hF27 : Fr none_ w w7 := (hF25.trans hF6).trans_new hF7 fun b hb e => by have := nx _ e; omega
      have hs6 := (hF25.trans hF6).size
      have h36 := hF5.trans hF6
      have oy7 : OwnE 40 10 w7 y _ := (oy.fr h36 fun _ _ h => h).fr hF7 fun b hb e => nxy b e hb
      have hlt36 := h36.size
      simp only [push_cast, Nat.reduceAdd, Nat.reduceLeDiff, Nat.reduceLT, Int.reduceToNat, Nat.left_eq_add, Nat.add_eq_left, Nat.add_left_cancel_iff, Nat.reduceEqDiff, Nat.add_assoc, Nat.succ_ne_zero]
      rw [wrap_i64 (by omega)]
      refine hX (n - 1) _ _ _ _ (by omega) ⟨i + 1, by simp, by omega, ?_, ?_, fun b hb => ?_, ny, fun z hz hy => ?_, hF27⟩
      · rw [htk, hk]; simpa using ho7
      · rw [htk, hk]; simpa using oy7
      · rcases hb7 with hb7 | hb7
        · exact nx b (hb7 ▸ hb)
        · have := hb7 b hb; omega
      · rcases hb7 with hb7 | hb7
        · exact nxy z (hb7 ▸ hz) hy
        · have h8 := hb7 z hz
          have h9 := oy.lt hy
          omega
    · simp only [push_cast, Nat.reduceAdd, Nat.reduceLeDiff, Nat.reduceLT, Int.reduceToNat, Nat.left_eq_add, Nat.add_eq_left, Nat.add_left_cancel_iff, Nat.reduceEqDiff, Nat.add_assoc, Nat.succ_ne_zero]
      refine br_intro (fun hAt => ?_) fun hAt => hj3 _ ⟨hF4, by rw [hAt]; rfl⟩
      have hw4 := hF4.heap hw3 fun h => h
      simp only [push_cast, Nat.reduceAdd, Nat.reduceLeDiff, Nat.reduceLT, Int.reduceToNat, Nat.left_eq_add, Nat.add_eq_left, Nat.add_left_cancel_iff, Nat.reduceEqDiff, Nat.add_assoc, Nat.succ_ne_zero, hw4]
      refine br_intro (fun hst => ?_) fun hst => hj3 _ ⟨hF4, by simp at hst; simp [hst]⟩
      have hk : (A e && !e.static) = true := by rw [hAt]; simpa using hst
      have hF24 := hF23.trans hF4
      refine s_bs1 (sz := 10) (z := .agg zE.cells.toArray) (Ent.cells_length _) rfl (by decide) (by decide) fun u w6 hu hF6 hN6 => ?_
      refine s_app (sz := 10) (by_ := 40) (z := .agg zE.cells.toArray) rfl (by decide) (oy.fr (hF4.trans hF6) fun _ _ h => h) hu.rd (by simp [Ent.cells_one]) (by have := hlk fun e => A e && !e.static; rw [List.length_map]; simp only [List.length_cons, List.length_nil]; omega) fun v7 w7 ho7 hb7 hF7 => ?_
      have hF27 : Fr none_ w w7 := (hF24.trans hF6).trans_new hF7 fun b hb e => by have := ny _ e; omega
      have hs6 := (hF24.trans hF6).size
      have h36 := hF4.trans hF6
      have ox7 : OwnE 40 10 w7 x _ := (ox.fr h36 fun _ _ h => h).fr hF7 fun b hb e => nxy b hb e
      have hlt36 := h36.size
      simp only [push_cast, Nat.reduceAdd, Nat.reduceLeDiff, Nat.reduceLT, Int.reduceToNat, Nat.left_eq_add, Nat.add_eq_left, Nat.add_left_cancel_iff, Nat.reduceEqDiff, Nat.add_assoc, Nat.succ_ne_zero]
      rw [wrap_i64 (by omega)]
      refine hX (n - 1) _ _ _ _ (by omega) ⟨i + 1, by simp, by omega, ?_, ?_, nx, fun b hb => ?_, fun z hz hy => ?_, hF27⟩
      · rw [htk, hk]; simpa using ox7
      · rw [htk, hk]; simpa using ho7
      · rcases hb7 with hb7 | hb7
        · exact ny b (hb7 ▸ hb)
        · have := hb7 b hb; omega
      · rcases hb7 with hb7 | hb7
        · exact nxy z hz (hb7 ▸ hy)
        · have h8 := hb7 z hy
          have h9 := ox.lt hz
          omega
  · rcases hAe with ⟨rfl, h2, h3⟩ | ⟨rfl, h3⟩ | ⟨rfl, h3⟩
    · have h3 := h3 e (by simp)
      simp only [push_cast, Nat.reduceAdd, Nat.reduceLeDiff, Nat.reduceLT, Int.reduceToNat, Nat.left_eq_add, Nat.add_eq_left, Nat.add_left_cancel_iff, Nat.reduceEqDiff, Nat.add_assoc, Nat.succ_ne_zero]
      refine br_intro (fun _ => ?_) fun e => by simp at e
      simp only [push_cast, Nat.reduceAdd, Nat.reduceLeDiff, Nat.reduceLT, Int.reduceToNat, Nat.left_eq_add, Nat.add_eq_left, Nat.add_left_cancel_iff, Nat.reduceEqDiff, Nat.add_assoc, Nat.succ_ne_zero, hw3]
      rw [wrap_i64 (by omega), ← h3]
      exact hj2 _ _ ⟨rfl, Fr.refl _ _⟩
    · simp only [push_cast, Nat.reduceAdd, Nat.reduceLeDiff, Nat.reduceLT, Int.reduceToNat, Nat.left_eq_add, Nat.add_eq_left, Nat.add_left_cancel_iff, Nat.reduceEqDiff, Nat.add_assoc, Nat.succ_ne_zero]
      refine br_intro (fun e => by simp at e) fun _ => ?_
      rw [jn_1]
      simp only [push_cast, Nat.reduceAdd, Nat.reduceLeDiff, Nat.reduceLT, Int.reduceToNat, Nat.left_eq_add, Nat.add_eq_left, Nat.add_left_cancel_iff, Nat.reduceEqDiff, Nat.add_assoc, Nat.succ_ne_zero]
      refine br_intro (fun _ => ?_) fun e => by simp at e
      simp only [push_cast, Nat.reduceAdd, Nat.reduceLeDiff, Nat.reduceLT, Int.reduceToNat, Nat.left_eq_add, Nat.add_eq_left, Nat.add_left_cancel_iff, Nat.reduceEqDiff, Nat.add_assoc, Nat.succ_ne_zero, hw3]
      rw [← h3]
      exact hj2 _ _ ⟨rfl, Fr.refl _ _⟩
    · simp only [push_cast, Nat.reduceAdd, Nat.reduceLeDiff, Nat.reduceLT, Int.reduceToNat, Nat.left_eq_add, Nat.add_eq_left, Nat.add_left_cancel_iff, Nat.reduceEqDiff, Nat.add_assoc, Nat.succ_ne_zero]
      refine br_intro (fun e => by simp at e) fun _ => ?_
      rw [jn_1]
      simp only [push_cast, Nat.reduceAdd, Nat.reduceLeDiff, Nat.reduceLT, Int.reduceToNat, Nat.left_eq_add, Nat.add_eq_left, Nat.add_left_cancel_iff, Nat.reduceEqDiff, Nat.add_assoc, Nat.succ_ne_zero]
      refine br_intro (fun e => by simp at e) fun _ => ?_
      rw [jn_1]
      simp only [push_cast, Nat.reduceAdd, Nat.reduceLeDiff, Nat.reduceLT, Int.reduceToNat, Nat.left_eq_add, Nat.add_eq_left, Nat.add_left_cancel_iff, Nat.reduceEqDiff, Nat.add_assoc, Nat.succ_ne_zero]
      refine br_intro (fun _ => ?_) fun e => by simp at e
      simp only [push_cast, Nat.reduceAdd, Nat.reduceLeDiff, Nat.reduceLT, Int.reduceToNat, Nat.left_eq_add, Nat.add_eq_left, Nat.add_left_cancel_iff, Nat.reduceEqDiff, Nat.add_assoc, Nat.succ_ne_zero, hw3]
      rw [← h3]
      exact hj2 _ _ ⟨rfl, Fr.refl _ _⟩

theorem timedB_no {t : Int} (hn : ¬ (0 ≤ t ∧ t ≤ 1099511627776)) : timedB t = false := by
  cases e : timedB t with
  | false => rfl
  | true => exact absurd (timedB_iff.1 e) hn

theorem rage_spec {q room : Nat} {L : Value} {r : List Ent} {now lim : Int} (ht : RT w q room L r) (hro : ∀ e ∈ r, e.ok) (hn : r.length ≤ 2 ^ 20)
    (h0 : (timedB now && timedB lim) = false → K (.slice none 0 0) w)
    (h : (timedB now && timedB lim) = true → ∀ w' L' v, RT w' q room L' (r.filter fun e => !(ageA now lim e && !e.static)) → RdE 10 w' v ((r.filter fun e => ageA now lim e && !e.static).map Ent.cells) → New w L' → New w v → (∀ x, blkS v = some x → blkS L' ≠ some x) → Fr (fun x => x = q) w w' → K v w') :
    CallsR Tryz.prog 63 #[pt q 0, i64 now, i64 lim] K w := by
  apply c63
  unfold p63
  simp only [push_cast, Nat.reduceAdd, Nat.reduceLeDiff, Nat.reduceLT, Int.reduceToNat, Nat.left_eq_add, Nat.add_eq_left, Nat.add_left_cancel_iff, Nat.reduceEqDiff, Nat.add_assoc, Nat.succ_ne_zero]
  refine br_dec (fun h1 => h0 (by rw [timedB_no (t := now) (by omega)]; rfl)) fun h1 => ?_
  refine br_dec (fun h2 => h0 (by rw [timedB_no (t := now) (by omega)]; rfl)) fun h2 => ?_
  refine br_dec (fun h3 => h0 (by rw [Bool.and_comm, timedB_no (t := lim) (by omega)]; rfl)) fun h3 => ?_
  refine br_dec (fun h4 => h0 (by rw [Bool.and_comm, timedB_no (t := lim) (by omega)]; rfl)) fun h4 => ?_
  refine rforget_spec (A := ageA now lim) ht hro (.inl ⟨rfl, by omega, fun e he => decide_eq_decide.2 (by omega)⟩) hn (h ?_)
  rw [timedB_iff.2 ⟨by omega, by omega⟩, timedB_iff.2 ⟨by omega, by omega⟩]; rfl
/-! ### New -/

theorem rnew_spec (room : Int) (h0 : room < 1 ∨ 1024 < room → K (.tuple #[.pointer none, i64 1]) w)
    (h1 : 1 ≤ room → room ≤ 1024 → ∀ (q : Nat) (L : Value) (w' : World), RT w' q room.toNat L [] → Fr none_ w w' → w.heap.size ≤ q → New w L → K (.tuple #[pt q 0, i64 0]) w') :
    CallsR Tryz.prog 52 #[i64 room] K w := by
  apply c52
  unfold p52
  simp only [push_cast, Nat.reduceAdd, Nat.reduceLeDiff, Nat.reduceLT, Int.reduceToNat, Nat.left_eq_add, Nat.add_eq_left, Nat.add_left_cancel_iff, Nat.reduceEqDiff, Nat.add_assoc, Nat.succ_ne_zero]
  refine br_dec (fun ha => h0 (.inl ha)) fun ha => ?_
  refine br_dec (fun hb => h0 (.inr hb)) fun hb => ?_
  rw [opS_build _ rfl]
  simp only [push_cast, Nat.reduceAdd, Nat.reduceLeDiff, Nat.reduceLT, Int.reduceToNat, Nat.left_eq_add, Nat.add_eq_left, Nat.add_left_cancel_iff, Nat.reduceEqDiff, Nat.add_assoc, Nat.succ_ne_zero]
  obtain ⟨n, rfl⟩ : ∃ n : Nat, room = n := ⟨room.toNat, by omega⟩
  refine h1 (by omega) (by omega) w.heap.size (.slice none 0 0) (w.alloc _) ⟨?_, own_nil _ _ _, fun b hb => (by cases hb)⟩ ?_ (Nat.le_refl _) fun b hb => by cases hb
  · simp only [push_cast, Nat.reduceAdd, Nat.reduceLeDiff, Nat.reduceLT, Int.reduceToNat, Nat.left_eq_add, Nat.add_eq_left, Nat.add_left_cancel_iff, Nat.reduceEqDiff, Nat.add_assoc, Nat.succ_ne_zero, Int.toNat_natCast]; rfl
  · exact (Fr.refl _ _).step_alloc rfl

end Go.Gx.S
end

section
/- What a loop over a function collects. -/
namespace Go.Gx
open Go
variable {P : Program} {K : Value → World → Prop} {w : World}

theorem upd_own {E sz b0 : Nat} {v : Value} {es : List (List Value)} {o : Obj} (h : OwnE E sz w v es) (hn : ∀ b, blkS v = some b → b0 ≠ b) : OwnE E sz (upd w b0 o) v es :=
  h.frame fun b hb => heap_upd_ne (hn b hb)

/-- while a loop collects into the slot q: its marks lie at s, its own block behind; 'it' is another's -/
structure CI (E sz : Nat) (T : TypeId) (w0 : World) (q s : Nat) (L : Loop) (it : Nat) (es : List (List Value)) (w : World) : Prop where
  slot : ∃ v, w.heap[q]? = some (cellsO [v] T) ∧ OwnE E sz w v es ∧ ∀ b, blkS v = some b → s + 1 < b ∧ b ≠ it
  loop : ∃ L', w.heap[s + 1]? = some (.loop L') ∧ LoopSame L' L ∧ L'.state = .ready ∧ L'.pending = none
  dfr : w.heap[s]? = some (.deferred (some []))
  fr : Fr none_ w0 w
  q0 : w0.heap.size ≤ q
  qs : q < s
  its : s + 1 < it

theorem CI.stay {E sz : Nat} {T : TypeId} {w0 w' : World} {q s it : Nat} {L : Loop} {es : List (List Value)} (h : CI E sz T w0 q s L it es w) (hF : Fr (fun b => b = it) w w') : CI E sz T w0 q s L it es w' := by
  obtain ⟨⟨v, h1, h2, h3⟩, ⟨L', h4, h5⟩, h6, h7, h8, h9, h10⟩ := h
  refine ⟨⟨v, hF.heap h1 (by omega), h2.fr hF (fun b hb => (h3 b hb).2), h3⟩, ⟨L', hF.heap h4 (by omega), h5⟩, hF.heap h6 (by omega), h7.trans_new hF fun b hb e => ?_, h8, h9, h10⟩
  omega

/-- at its start -/
theorem CI.start {E sz : Nat} {T : TypeId} {w0 w' : World} {q it : Nat} {L : Loop} {v : Value} {es : List (List Value)} (hL1 : L.state = .ready) (hL2 : L.pending.isNone = true) (hs : w.heap[q]? = some (cellsO [v] T)) (hv : OwnE E sz w v es) (hvn : blkS v = none)
    (hF : Fr none_ w0 w) (hq : w0.heap.size ≤ q) (hF' : Fr none_ ((w.alloc (.deferred (some []))).alloc (.loop L)) w') (hit : w.heap.size + 2 ≤ it) : CI E sz T w0 q w.heap.size L it es w' := by
  have hlt := lt_of_heap hs
  have hF2 : Fr none_ w ((w.alloc (.deferred (some []))).alloc (.loop L)) := ((Fr.refl _ _).step_alloc rfl).step_alloc rfl
  refine ⟨⟨v, hF'.heap (hF2.heap hs fun h => h) fun h => h, hv.fr (hF2.trans hF') (fun _ _ h => h), fun b hb => by rw [hvn] at hb; cases hb⟩, ⟨L, hF'.heap ?_ fun h => h, ⟨rfl, rfl, rfl, rfl, rfl⟩, hL1, by simpa using hL2⟩, hF'.heap ?_ fun h => h, (hF.trans hF2).trans hF', hq, hlt, by omega⟩
  · have := heap_alloc_new (w.alloc (.deferred (some []))) (.loop L)
    rwa [size_alloc] at this
  · rw [heap_alloc_lt (by rw [size_alloc]; omega)]
    exact heap_alloc_new _ _

/-- a round -/
theorem coll_roundM {T E sz by_ : Nat} {ag : Bool} {z : Value} {ty : TypeId} [hT : SlT P T E] [hs : Sz P E sz ag] [hsT : Sz P T 1 false] [hb : By P E by_] [hz : ZV P E z] {w0 : World} {q s it : Nat} {L : Loop} {es : List (List Value)} {x : List Value} {mid : (Value → World → Prop) → World → Prop}
    (hx : ∀ (K : Value → World → Prop) w1, Fr (fun b => b = s + 1) w w1 → (∀ v' w', OwnE E sz w' v' [x] → Fr none_ w1 w' → New w1 v' → K v' w') → mid K w1) (hone : x.all S.oneCell = true) (hzn : z.cells.size = sz) (hby : 0 < by_) (hroom : (2 * (es.length + 1) + 192) * by_ ≤ 2 ^ 48)
    (h : CI E sz T w0 q s L it es w) (hit : it < w.heap.size) (hK : ∀ w', CI E sz T w0 q s L it (es ++ [x]) w' → Fr (fun b => b ≠ it ∧ w0.heap.size ≤ b) w w' → K (.bool true) w') :
    opS P (S.beginR (pt (s + 1) 0)) (fun _ => opS P (S.ld T (pt q 0)) fun x6 => mid fun x7 => opS P (S.bi .append #[T, T] ty [x6, x7]) fun x8 => opS P (S.st T (pt q 0) x8) fun _ => opS P (S.endR (pt (s + 1) 0) none) K) w := by
  obtain ⟨⟨v, hv, hvO, hvb⟩, ⟨L', hlb, hsame, hst, hpd⟩, hd, hfr, hq, hqs, hits⟩ := h
  have hlt1 := lt_of_heap hlb
  have hsz := hfr.size
  rw [opS_beginR hlb hst]
  have f2 : Fr (fun b => b = s + 1) w (upd w (s + 1) (.loop { L' with state := .busy })) := Fr.upd' hlb rfl _ rfl rfl
  have l2 : (upd w (s + 1) (.loop { L' with state := .busy })).heap[s + 1]? = some (.loop { L' with state := .busy }) := heap_upd_same (by rw [hlb]; rfl)
  generalize upd w (s + 1) (.loop { L' with state := .busy }) = W2 at f2 l2 ⊢
  have v2 : W2.heap[q]? = some (cellsO [v] T) := f2.heap hv (by omega)
  rw [s_ld1, v2, cellAt_cells, List.getElem?_cons_zero, onS_some]
  refine hx _ _ f2 fun vG W3 hG f3 nG => ?_
  have o2 : OwnE E sz W2 v es := hvO.fr f2 (fun b hb => by have := (hvb b hb).1; omega)
  have o3 : OwnE E sz W3 v es := o2.fr f3 (fun _ _ h => h)
  refine s_app (T := T) (T2 := T) (sz := sz) (by_ := by_) hzn hby o3 hG.rd (by simpa using hone) (by simpa using hroom) fun vH W4 hH bH f4 => ?_
  have hvH : ∀ b, blkS vH = some b → s + 1 < b ∧ b ≠ it := fun b hb => by
    rcases bH with bH | bH
    · exact hvb b (bH ▸ hb)
    · have := bH b hb; have := f3.size; have := f2.size; omega
  have v4 : W4.heap[q]? = some (cellsO [v] T) := f4.heap (f3.heap v2 (fun h => h)) (fun h => by have := hvb _ h; omega)
  have l4 : W4.heap[s + 1]? = some (.loop { L' with state := .busy }) := f4.heap (f3.heap l2 (fun h => h)) (fun h => by have := hvb _ h; omega)
  have f5 : Fr (fun b => b = s + 1 ∨ blkS v = some b ∨ b = q) w (wr W4 q 0 [vH]) := by
    refine Fr.step_wr ?_ (.inl (.inr (.inr rfl))) _ _
    refine Fr.trans_new ?_ f4 (fun b _ h => .inr (.inl h))
    exact (f2.mono (fun b _ h => .inl h)).trans_new f3 (fun _ _ h => h.elim)
  rw [s_st1 _ _ _ hH.one, v4, okAt_cells]
  have ok : decide (0 + 1 ≤ [v].length) = true := rfl
  rw [ok, onB_true]
  have v5 : (wr W4 q 0 [vH]).heap[q]? = some (cellsO [vH] T) := by rw [heap_wr, if_pos rfl, v4, putAt_cells]; rfl
  have l5 : (wr W4 q 0 [vH]).heap[s + 1]? = some (.loop { L' with state := .busy }) := by
    rw [heap_wr, if_neg (by omega)]; exact l4
  have o5 : OwnE E sz (wr W4 q 0 [vH]) vH (es ++ [x]) := hH.fr (Fr.wr (fp := fun b => b = q) W4 _ 0 [vH] rfl) (fun b hb e => by have := hvH b hb; omega)
  generalize wr W4 q 0 [vH] = W5 at f5 v5 l5 o5 ⊢
  rw [opS_endR l5]
  have f6 := f5.step_upd l5 rfl (.loop { L' with state := .ready, pending := none }) rfl (.inl (.inl rfl))
  have hfr2 : Fr none_ w0 (upd W5 (s + 1) (.loop { L' with state := .ready, pending := none })) :=
    hfr.trans_new f6 (fun b hb h => by
      rcases h with h | h | h
      · omega
      · have := hvb b h; omega
      · omega)
  refine hK _ ⟨⟨vH, ?_, upd_own o5 (fun b hb => by have := hvH b hb; omega), hvH⟩, ⟨{ L' with state := .ready, pending := none }, heap_upd_same (by rw [l5]; rfl), hsame, rfl, rfl⟩, f6.heap hd ?_, hfr2, hq, hqs, hits⟩ (f6.mono fun b _ h => ?_)
  · rw [heap_upd_ne (by omega)]; exact v5
  · rintro (h | h | h)
    · omega
    · have := hvb _ h; omega
    · omega
  · rcases h with h | h | h
    · omega
    · have := hvb _ h; exact ⟨this.2, by omega⟩
    · omega

theorem coll_round {T E sz by_ : Nat} {ag : Bool} {z : Value} {ty : TypeId} [hT : SlT P T E] [hs : Sz P E sz ag] [hsT : Sz P T 1 false] [hb : By P E by_] [hz : ZV P E z] {w0 : World} {q s it : Nat} {L : Loop} {es : List (List Value)} {x : List Value} {xv : Value}
    (hx : ∀ (K : Value → World → Prop) w, (∀ v' w', OwnE E sz w' v' [x] → Fr none_ w w' → New w v' → K v' w') → opS P (S.buildS T 1 [(0, xv)]) K w) (hone : x.all S.oneCell = true) (hzn : z.cells.size = sz) (hby : 0 < by_) (hroom : (2 * (es.length + 1) + 192) * by_ ≤ 2 ^ 48)
    (h : CI E sz T w0 q s L it es w) (hit : it < w.heap.size) (hK : ∀ w', CI E sz T w0 q s L it (es ++ [x]) w' → Fr (fun b => b ≠ it ∧ w0.heap.size ≤ b) w w' → K (.bool true) w') :
    opS P (S.beginR (pt (s + 1) 0)) (fun _ => opS P (S.ld T (pt q 0)) fun x6 => opS P (S.buildS T 1 [(0, xv)]) fun x7 => opS P (S.bi .append #[T, T] ty [x6, x7]) fun x8 => opS P (S.st T (pt q 0) x8) fun _ => opS P (S.endR (pt (s + 1) 0) none) K) w :=
  coll_roundM (mid := fun K => opS P (S.buildS T 1 [(0, xv)]) K) (fun K w1 _ hk => hx K w1 hk) hone hzn hby hroom h hit hK

/-- at its end -/
theorem coll_end (P : Program) {E sz : Nat} {T : TypeId} {w0 : World} {q s it : Nat} {L : Loop} {es : List (List Value)} (h : CI E sz T w0 q s L it es w) :
    ∃ v w', (Instr.endLoop (s + 1)).run P w = .ok none w' ∧ w'.heap[q]? = some (cellsO [v] T) ∧ OwnE E sz w' v es ∧ (∀ b, blkS v = some b → s + 1 < b) ∧ w'.heap[s]? = some (.deferred (some [])) ∧ Fr none_ w0 w' ∧ q < s ∧ w0.heap.size ≤ q := by
  obtain ⟨⟨v, hv, hvO, hvb⟩, ⟨L', hlb, hsame, hst, hpd⟩, hd, hfr, hq, hqs, hits⟩ := h
  refine ⟨v, _, by rw [run_endLoop hlb (by rw [hst]; decide), hpd], ?_, upd_own hvO fun b hb => by have := (hvb b hb).1; omega, fun b hb => (hvb b hb).1, ?_, hfr.step_upd hlb rfl _ rfl (.inr (by omega)), hqs, hq⟩
  · rw [heap_upd_ne (by omega)]; exact hv
  · rw [heap_upd_ne (by omega)]; exact hd

end Go.Gx
end

section
/- What a loop over a function collects, where some rounds collect nothing. -/
namespace Go.Gx
open Go
variable {P : Program} {K : Value → World → Prop} {w : World}

/-- while a loop collects into the slot q: its marks lie at s, its own block behind -/
structure CJ (E sz : Nat) (T : TypeId) (w0 : World) (q s : Nat) (L : Loop) (busy : Bool) (es : List (List Value)) (w : World) : Prop where
  slot : ∃ v, w.heap[q]? = some (cellsO [v] T) ∧ OwnE E sz w v es ∧ ∀ b, blkS v = some b → s + 1 < b
  loop : ∃ L', w.heap[s + 1]? = some (.loop L') ∧ LoopSame L' L ∧ L'.state = (if busy then .busy else .ready) ∧ L'.pending = none
  dfr : w.heap[s]? = some (.deferred (some []))
  fr : Fr none_ w0 w
  q0 : w0.heap.size ≤ q
  qs : q < s

theorem CJ.stay {E sz : Nat} {T : TypeId} {w0 w' : World} {q s : Nat} {L : Loop} {busy : Bool} {es : List (List Value)} (h : CJ E sz T w0 q s L busy es w) (hF : Fr none_ w w') : CJ E sz T w0 q s L busy es w' := by
  obtain ⟨⟨v, h1, h2, h3⟩, ⟨L', h4, h5⟩, h6, h7, h8, h9⟩ := h
  exact ⟨⟨v, hF.heap h1 (fun h => h), h2.fr hF (fun _ _ h => h), h3⟩, ⟨L', hF.heap h4 (fun h => h), h5⟩, hF.heap h6 (fun h => h), h7.trans hF, h8, h9⟩

theorem CJ.start {E sz : Nat} {T : TypeId} {w0 : World} {q : Nat} {L : Loop} {v : Value} {es : List (List Value)} (hL1 : L.state = .ready) (hL2 : L.pending.isNone = true) (hs : w.heap[q]? = some (cellsO [v] T)) (hv : OwnE E sz w v es) (hvn : blkS v = none)
    (hF : Fr none_ w0 w) (hq : w0.heap.size ≤ q) : CJ E sz T w0 q w.heap.size L false es ((w.alloc (.deferred (some []))).alloc (.loop L)) := by
  have hlt := lt_of_heap hs
  have hF2 : Fr none_ w ((w.alloc (.deferred (some []))).alloc (.loop L)) := ((Fr.refl _ _).step_alloc rfl).step_alloc rfl
  refine ⟨⟨v, hF2.heap hs fun h => h, hv.fr hF2 (fun _ _ h => h), fun b hb => by rw [hvn] at hb; cases hb⟩, ⟨L, ?_, ⟨rfl, rfl, rfl, rfl, rfl⟩, hL1, by simpa using hL2⟩, ?_, hF.trans hF2, hq, hlt⟩
  · have := heap_alloc_new (w.alloc (.deferred (some []))) (.loop L)
    rwa [size_alloc] at this
  · rw [heap_alloc_lt (by rw [size_alloc]; omega)]
    exact heap_alloc_new _ _

theorem cj_begin {E sz : Nat} {T : TypeId} {w0 : World} {q s : Nat} {L : Loop} {es : List (List Value)} (h : CJ E sz T w0 q s L false es w) (hK : ∀ w', CJ E sz T w0 q s L true es w' → Fr (fun b => b = s + 1) w w' → K undef w') : opS P (S.beginR (pt (s + 1) 0)) K w := by
  obtain ⟨⟨v, hv, hvO, hvb⟩, ⟨L', hlb, hsame, hst, hpd⟩, hd, hfr, hq, hqs⟩ := h
  rw [opS_beginR hlb hst]
  have f2 : Fr (fun b => b = s + 1) w (upd w (s + 1) (.loop { L' with state := .busy })) := Fr.upd' hlb rfl _ rfl rfl
  have l2 : (upd w (s + 1) (.loop { L' with state := .busy })).heap[s + 1]? = some (.loop { L' with state := .busy }) := heap_upd_same (by rw [hlb]; rfl)
  exact hK _ ⟨⟨v, f2.heap hv (by omega), upd_own hvO fun b hb => by have := hvb b hb; omega, hvb⟩, ⟨_, l2, hsame, rfl, hpd⟩, f2.heap hd (by omega), hfr.trans_new f2 fun b hb e => by omega, hq, hqs⟩ f2

theorem cj_endR {E sz : Nat} {T : TypeId} {w0 : World} {q s : Nat} {L : Loop} {es : List (List Value)} (h : CJ E sz T w0 q s L true es w) (hK : ∀ w', CJ E sz T w0 q s L false es w' → Fr (fun b => b = s + 1) w w' → K (.bool true) w') : opS P (S.endR (pt (s + 1) 0) none) K w := by
  obtain ⟨⟨v, hv, hvO, hvb⟩, ⟨L', hlb, hsame, hst, hpd⟩, hd, hfr, hq, hqs⟩ := h
  rw [opS_endR hlb]
  have f2 : Fr (fun b => b = s + 1) w (upd w (s + 1) (.loop { L' with state := .ready, pending := none })) := Fr.upd' hlb rfl _ rfl rfl
  have l2 : (upd w (s + 1) (.loop { L' with state := .ready, pending := none })).heap[s + 1]? = some (.loop { L' with state := .ready, pending := none }) := heap_upd_same (by rw [hlb]; rfl)
  exact hK _ ⟨⟨v, f2.heap hv (by omega), upd_own hvO fun b hb => by have := hvb b hb; omega, hvb⟩, ⟨_, l2, hsame, rfl, rfl⟩, f2.heap hd (by omega), hfr.trans_new f2 fun b hb e => by omega, hq, hqs⟩ f2

theorem cj_append {T E sz by_ : Nat} {ag : Bool} {z : Value} {ty : TypeId} [hT : SlT P T E] [hs : Sz P E sz ag] [hsT : Sz P T 1 false] [hb : By P E by_] [hz : ZV P E z] {w0 : World} {q s : Nat} {L : Loop} {es : List (List Value)} {x : List Value} {mid : (Value → World → Prop) → World → Prop}
    (hx : ∀ (K : Value → World → Prop), (∀ v' w', OwnE E sz w' v' [x] → Fr none_ w w' → New w v' → K v' w') → mid K w) (hone : x.all S.oneCell = true) (hzn : z.cells.size = sz) (hby : 0 < by_) (hroom : (2 * (es.length + 1) + 192) * by_ ≤ 2 ^ 48)
    (h : CJ E sz T w0 q s L true es w) (hK : ∀ w', CJ E sz T w0 q s L true (es ++ [x]) w' → Fr (fun b => b = q ∨ s + 1 < b) w w' → K undef w') :
    opS P (S.ld T (pt q 0)) (fun x6 => mid fun x7 => opS P (S.bi .append #[T, T] ty [x6, x7]) fun x8 => opS P (S.st T (pt q 0) x8) K) w := by
  obtain ⟨⟨v, hv, hvO, hvb⟩, ⟨L', hlb, hsame, hst, hpd⟩, hd, hfr, hq, hqs⟩ := h
  have hlt1 := lt_of_heap hlb
  have hsz := hfr.size
  rw [s_ld1, hv, cellAt_cells, List.getElem?_cons_zero, onS_some]
  refine hx _ fun vG W3 hG f3 nG => ?_
  have o3 : OwnE E sz W3 v es := hvO.fr f3 (fun _ _ h => h)
  have hs3 := f3.size
  refine s_app (T := T) (T2 := T) (sz := sz) (by_ := by_) hzn hby o3 hG.rd (by simpa using hone) (by simpa using hroom) fun vH W4 hH bH f4 => ?_
  have hvH : ∀ b, blkS vH = some b → s + 1 < b := fun b hb => by
    rcases bH with bH | bH
    · exact hvb b (bH ▸ hb)
    · have := bH b hb; omega
  have v4 : W4.heap[q]? = some (cellsO [v] T) := f4.heap (f3.heap hv (fun h => h)) (fun h => by have := hvb _ h; omega)
  have l4 : W4.heap[s + 1]? = some (.loop L') := f4.heap (f3.heap hlb (fun h => h)) (fun h => by have := hvb _ h; omega)
  have f5 : Fr (fun b => b = q ∨ s + 1 < b) w (wr W4 q 0 [vH]) := by
    refine Fr.step_wr (fp := fun b => b = q ∨ s + 1 < b) ?_ (.inl (.inl rfl)) _ _
    exact (f3.mono (fun _ _ h => h.elim)).trans_new f4 (fun b _ h => .inr (hvb b h))
  rw [s_st1 _ _ _ hH.one, v4, okAt_cells]
  have ok : decide (0 + 1 ≤ [v].length) = true := rfl
  rw [ok, onB_true]
  have v5 : (wr W4 q 0 [vH]).heap[q]? = some (cellsO [vH] T) := by rw [heap_wr, if_pos rfl, v4, putAt_cells]; rfl
  have l5 : (wr W4 q 0 [vH]).heap[s + 1]? = some (.loop L') := by
    rw [heap_wr, if_neg (by omega)]; exact l4
  have o5 : OwnE E sz (wr W4 q 0 [vH]) vH (es ++ [x]) := hH.fr (Fr.wr (fp := fun b => b = q) W4 _ 0 [vH] rfl) (fun b hb e => by have := hvH b hb; omega)
  exact hK _ ⟨⟨vH, v5, o5, hvH⟩, ⟨L', l5, hsame, hst, hpd⟩, f5.heap hd (by omega), hfr.trans_new f5 fun b hb e => by omega, hq, hqs⟩ f5

theorem cj_end (P : Program) {E sz : Nat} {T : TypeId} {w0 : World} {q s : Nat} {L : Loop} {es : List (List Value)} (h : CJ E sz T w0 q s L false es w) :
    ∃ v w', (Instr.endLoop (s + 1)).run P w = .ok none w' ∧ w'.heap[q]? = some (cellsO [v] T) ∧ OwnE E sz w' v es ∧ (∀ b, blkS v = some b → s + 1 < b) ∧ w'.heap[s]? = some (.deferred (some [])) ∧ Fr none_ w0 w' ∧ Fr (fun b => b = s + 1) w w' := by
  obtain ⟨⟨v, hv, hvO, hvb⟩, ⟨L', hlb, hsame, hst, hpd⟩, hd, hfr, hq, hqs⟩ := h
  have hst : L'.state = .ready := hst
  refine ⟨v, _, by rw [run_endLoop hlb (by rw [hst]; decide), hpd], ?_, upd_own hvO fun b hb => by have := hvb b hb; omega, hvb, ?_, hfr.step_upd hlb rfl _ rfl (.inr (by omega)), Fr.upd' hlb rfl _ rfl rfl⟩
  · rw [heap_upd_ne (by omega)]; exact hv
  · rw [heap_upd_ne (by omega)]; exact hd

end Go.Gx
end

section
/- A bridge: its ports. -/
set_option linter.unusedVariables false
set_option linter.unusedSimpArgs false
set_option maxRecDepth 100000
namespace Go.Gx.S
open Go Go.Gx Go.Proofs
variable {K : Value → World → Prop} {w : World}

/-! ### Plain -/

structure FS where
  t : VT
  r : List Ent
  S : List Int
  N : List Int
  Ln : List Int

def incr (l : List Int) (k : Nat) : List Int := l.set k (IntKind.i64.wrap (l.getD k 0 + 1))
def hasB (S : List Int) (port : Int) : Bool := decide (1 ≤ port) && decide (port < S.length)
def stateL (S : List Int) (port : Int) : Int := if hasB S port then S.getD port.toNat 0 else 0
def setL' (S : List Int) (port st : Int) : List Int × Int := if hasB S port && (decide (0 ≤ st) && decide (st ≤ 2)) then (S.set port.toNat st, 0) else (S, 1)
def reservedM (m : Mac) : Bool := decide (m.b0 = 1 ∧ m.b1 = 128 ∧ m.b2 = 194 ∧ m.b3 = 0 ∧ m.b4 = 0 ∧ m.b5 < 16)
def learnF (room : Nat) (fs : FS) (v : Int) (m : Mac) (port now : Int) : FS :=
  { fs with r := (learnL room fs.r v m port now).1, Ln := if (learnL room fs.r v m port now).2.2 ≠ 0 then incr fs.Ln 2 else if (learnL room fs.r v m port now).2.1 = 1 then incr fs.Ln 0 else if (learnL room fs.r v m port now).2.1 = 2 then incr fs.Ln 1 else fs.Ln }
def refusedL (fs : FS) (port : Int) (f : Frm) (n : Nat) (now : Int) : Int × Int :=
  if !(hasB fs.S port) || (!(f.right n) || !(timedB now)) then (1, 0)
  else if reservedM f.dst then (2, 0)
  else if fs.S.getD port.toNat 0 = 0 then (3, 0)
  else if (fs.t.inn port f n).2 ≠ 0 then (4, 0)
  else if grp f.src then (5, (fs.t.inn port f n).1)
  else (0, (fs.t.inn port f n).1)

/-! ### A bridge's blocks -/

def brC (vp p : Nat) (sl : Value) (N Ln : List Int) : List Value := pt vp 0 :: pt p 0 :: sl :: (N.map i64 ++ Ln.map i64)

structure BR (N0 : Nat) (w : World) (bp vp vm vnb p pb o c sb so sc room : Nat) (ps : List Ent) (fs : FS) : Prop where
  blk : w.heap[bp]? = some (cellsO (brC vp p (.slice (some ⟨sb, so, none⟩) fs.S.length sc) fs.N fs.Ln) 83)
  v : Vl.VRep w vp vm vnb fs.t
  f : FT w p pb o c room ps fs.r
  s : OwnE 3 1 w (.slice (some ⟨sb, so, none⟩) fs.S.length sc) (fs.S.map cellI)
  nl : fs.N.length = 9
  ll : fs.Ln.length = 3
  sl : fs.S.length ≤ 64
  d1 : bp ≠ vp ∧ bp ≠ vm ∧ bp ≠ vnb ∧ bp ≠ p ∧ bp ≠ pb ∧ bp ≠ sb
  d2 : sb ≠ vp ∧ sb ≠ vm ∧ sb ≠ vnb ∧ sb ≠ p ∧ sb ≠ pb
  d3 : p ≠ vp ∧ p ≠ vm ∧ p ≠ vnb ∧ pb ≠ vp ∧ pb ≠ vm ∧ pb ≠ vnb
  ge : N0 ≤ bp ∧ N0 ≤ vp ∧ N0 ≤ vm ∧ N0 ≤ vnb ∧ N0 ≤ p ∧ N0 ≤ pb ∧ N0 ≤ sb

section
variable {N0 bp vp vm vnb p pb o c sb so sc room : Nat} {ps : List Ent} {fs : FS}
theorem BR.fr0 {w' : World} (h : BR N0 w bp vp vm vnb p pb o c sb so sc room ps fs) (hF : Fr none_ w w') : BR N0 w' bp vp vm vnb p pb o c sb so sc room ps fs :=
  ⟨hF.heap h.blk (fun h => h), h.v.fr0 hF, h.f.fr0 hF, h.s.fr hF (fun _ _ h => h), h.nl, h.ll, h.sl, h.d1, h.d2, h.d3, h.ge⟩
theorem BR.lt (h : BR N0 w bp vp vm vnb p pb o c sb so sc room ps fs) : bp < w.heap.size ∧ vp < w.heap.size ∧ vm < w.heap.size ∧ vnb < w.heap.size ∧ p < w.heap.size ∧ pb < w.heap.size ∧ sb < w.heap.size := by
  have h1 := h.v.lt
  have h2 := h.f.fb.lt
  exact ⟨lt_of_heap h.blk, h1.1, h1.2.1, h1.2.2, h2.1, h2.2, h.s.lt (b := sb) rfl⟩
theorem BR.len (h : BR N0 w bp vp vm vnb p pb o c sb so sc room ps fs) : (brC vp p (.slice (some ⟨sb, so, none⟩) fs.S.length sc) fs.N fs.Ln).length = 15 := by
  simp [brC, h.nl, h.ll]
/-- the bridge's own cells are written -/
theorem BR.own {w' : World} {N' Ln' : List Int} (h : BR N0 w bp vp vm vnb p pb o c sb so sc room ps fs) (hF : Fr (fun b => b = bp) w w') (hb : w'.heap[bp]? = some (cellsO (brC vp p (.slice (some ⟨sb, so, none⟩) fs.S.length sc) N' Ln') 83)) (hn : N'.length = 9) (hl : Ln'.length = 3) :
    BR N0 w' bp vp vm vnb p pb o c sb so sc room ps { fs with N := N', Ln := Ln' } := by
  have d1 := h.d1
  exact ⟨hb, h.v.fr hF (by omega) (by omega) (by omega), h.f.fr hF (by omega) (by omega), h.s.fr hF (fun b hb e => by simp only [blkS, Option.some.injEq] at hb; omega), hn, hl, h.sl, h.d1, h.d2, h.d3, h.ge⟩
/-- its table of stations is -/
theorem BR.tab {w' : World} {ps' r' : List Ent} (h : BR N0 w bp vp vm vnb p pb o c sb so sc room ps fs) (hF : Fr (pp p pb) w w') (ht : FT w' p pb o c room ps' r') : BR N0 w' bp vp vm vnb p pb o c sb so sc room ps' { fs with r := r' } := by
  have d1 := h.d1
  have d2 := h.d2
  have d3 := h.d3
  have hp : ∀ b, pp p pb b → b = p ∨ b = pb := fun b e => e
  exact ⟨hF.heap h.blk fun e => by have := hp _ e; omega, h.v.fr hF (fun e => by have := hp _ e; omega) (fun e => by have := hp _ e; omega) (fun e => by have := hp _ e; omega), ht, h.s.fr hF (fun b hb e => by simp only [blkS, Option.some.injEq] at hb; have := hp _ e; omega), h.nl, h.ll, h.sl, h.d1, h.d2, h.d3, h.ge⟩
/-- its VLANs are -/
theorem BR.vl {w' : World} {t' : VT} (h : BR N0 w bp vp vm vnb p pb o c sb so sc room ps fs) (hF : Fr (Vl.vfp vp vm vnb) w w') (ht : Vl.VRep w' vp vm vnb t') : BR N0 w' bp vp vm vnb p pb o c sb so sc room ps { fs with t := t' } := by
  have d1 := h.d1
  have d2 := h.d2
  have d3 := h.d3
  have hp : ∀ b, Vl.vfp vp vm vnb b → b = vp ∨ b = vm ∨ b = vnb := fun b e => e
  exact ⟨hF.heap h.blk fun e => by have := hp _ e; omega, ht, h.f.fr hF (fun e => by have := hp _ e; omega) (fun e => by have := hp _ e; omega), h.s.fr hF (fun b hb e => by simp only [blkS, Option.some.injEq] at hb; have := hp _ e; omega), h.nl, h.ll, h.sl, h.d1, h.d2, h.d3, h.ge⟩
/-- its states are -/
theorem BR.st {w' : World} {S' : List Int} (h : BR N0 w bp vp vm vnb p pb o c sb so sc room ps fs) (hF : Fr (fun b => b = sb) w w') (hl : S'.length = fs.S.length) (hs : OwnE 3 1 w' (.slice (some ⟨sb, so, none⟩) fs.S.length sc) (S'.map cellI)) : BR N0 w' bp vp vm vnb p pb o c sb so sc room ps { fs with S := S' } := by
  have d1 := h.d1
  have d2 := h.d2
  refine ⟨?_, h.v.fr hF (by omega) (by omega) (by omega), h.f.fr hF (by omega) (by omega), ?_, h.nl, h.ll, ?_, h.d1, h.d2, h.d3, h.ge⟩
  · rw [hl]; exact hF.heap h.blk (by omega)
  · rw [hl]; exact hs
  · rw [hl]; exact h.sl
theorem BR.of {w' : World} {fp : Nat → Prop} (h : BR N0 w bp vp vm vnb p pb o c sb so sc room ps fs) (hF : Fr fp w w') (hfp : ∀ b, fp b → b = bp ∨ b = vp ∨ b = vm ∨ b = vnb ∨ b = p ∨ b = pb ∨ b = sb) : Fr (fun b => N0 ≤ b) w w' := hF.mono fun b _ e => by
  have h2 := h.ge
  have := hfp b e
  omega

theorem brC_0 (sl : Value) (N Ln : List Int) : (brC vp p sl N Ln)[0]? = some (pt vp 0) := id rfl
theorem brC_1 (sl : Value) (N Ln : List Int) : (brC vp p sl N Ln)[1]? = some (pt p 0) := id rfl
theorem brC_2 (sl : Value) (N Ln : List Int) : (brC vp p sl N Ln)[2]? = some sl := id rfl
attribute [push_cast] brC_0 brC_1 brC_2
theorem brC_n {sl : Value} {N Ln : List Int} {k : Nat} (hN : N.length = 9) (hk : k < 9) : (brC vp p sl N Ln)[k + 3]? = some (i64 (N.getD k 0)) := by
  show (N.map i64 ++ Ln.map i64)[k]? = _
  rw [List.getElem?_append_left (by rw [List.length_map]; omega), List.getElem?_map, List.getElem?_eq_getElem (by omega), List.getD_eq_getElem?_getD, List.getElem?_eq_getElem (by omega)]
  rfl
theorem brC_l {sl : Value} {N Ln : List Int} {k : Nat} (hN : N.length = 9) (hL : Ln.length = 3) (hk : k < 3) : (brC vp p sl N Ln)[k + 12]? = some (i64 (Ln.getD k 0)) := by
  show (N.map i64 ++ Ln.map i64)[k + 9]? = _
  rw [List.getElem?_append_right (by rw [List.length_map]; omega), List.length_map, hN, Nat.add_sub_cancel, List.getElem?_map, List.getElem?_eq_getElem (by omega), List.getD_eq_getElem?_getD, List.getElem?_eq_getElem (by omega)]
  rfl
theorem splice_one {l : List Value} {i : Nat} (h : i < l.length) (v : Value) : splice l i [v] = l.set i v := by
  refine List.ext_getElem? fun j => ?_
  rw [splice_get (by simp; omega), List.getElem?_set]
  by_cases h1 : j < i
  · rw [if_pos h1, if_neg (by omega)]
  · rw [if_neg h1]
    by_cases h2 : i = j
    · subst h2
      rw [if_pos (by simp), if_pos rfl, if_pos h]
      simp
    · rw [if_neg (by simp; omega), if_neg h2]
theorem brC_setn {sl : Value} {N Ln : List Int} {k : Nat} (hN : N.length = 9) (hL : Ln.length = 3) (hk : k < 9) (v : Int) : splice (brC vp p sl N Ln) (k + 3) [i64 v] = brC vp p sl (N.set k v) Ln := by
  rw [splice_one (by simp [brC]; omega)]
  show pt vp 0 :: pt p 0 :: sl :: (N.map i64 ++ Ln.map i64).set k (i64 v) = _
  rw [List.set_append_left _ _ (by rw [List.length_map]; omega), ← List.map_set]
  rfl
theorem brC_setl {sl : Value} {N Ln : List Int} {k : Nat} (hN : N.length = 9) (hL : Ln.length = 3) (hk : k < 3) (v : Int) : splice (brC vp p sl N Ln) (k + 12) [i64 v] = brC vp p sl N (Ln.set k v) := by
  rw [splice_one (by simp [brC]; omega)]
  show pt vp 0 :: pt p 0 :: sl :: (N.map i64 ++ Ln.map i64).set (k + 9) (i64 v) = _
  rw [List.set_append_right _ _ (by rw [List.length_map]; omega), List.length_map, hN, Nat.add_sub_cancel, ← List.map_set]
  rfl

theorem vlans_spec (h : BR N0 w bp vp vm vnb p pb o c sb so sc room ps fs) (hk : K (pt vp 0) w) : CallsR Tryz.prog 29 #[pt bp 0] K w := by
  apply c29
  unfold p29
  simp only [push_cast, Nat.reduceAdd, Nat.reduceLeDiff, Nat.reduceLT, Int.reduceToNat, Nat.left_eq_add, Nat.add_eq_left, Nat.add_left_cancel_iff, Nat.reduceEqDiff, Nat.add_assoc, Nat.succ_ne_zero, h.blk]
  exact hk
theorem stations_spec (h : BR N0 w bp vp vm vnb p pb o c sb so sc room ps fs) (hk : K (pt p 0) w) : CallsR Tryz.prog 14 #[pt bp 0] K w := by
  apply c14
  unfold p14
  simp only [push_cast, Nat.reduceAdd, Nat.reduceLeDiff, Nat.reduceLT, Int.reduceToNat, Nat.left_eq_add, Nat.add_eq_left, Nat.add_left_cancel_iff, Nat.reduceEqDiff, Nat.add_assoc, Nat.succ_ne_zero, h.blk]
  exact hk
theorem has_spec {port : Int} (h : BR N0 w bp vp vm vnb p pb o c sb so sc room ps fs) (hk : K (.bool (hasB fs.S port)) w) : CallsR Tryz.prog 49 #[pt bp 0, i64 port] K w := by
  apply c49
  unfold p49
  unfold hasB at hk
  simp only [push_cast, Nat.reduceAdd, Nat.reduceLeDiff, Nat.reduceLT, Int.reduceToNat, Nat.left_eq_add, Nat.add_eq_left, Nat.add_left_cancel_iff, Nat.reduceEqDiff, Nat.add_assoc, Nat.succ_ne_zero]
  refine br_dec (fun h1 => ?_) fun h1 => ?_
  · rw [decide_eq_true (show 1 ≤ port from h1), Bool.true_and] at hk
    simp only [push_cast, Nat.reduceAdd, Nat.reduceLeDiff, Nat.reduceLT, Int.reduceToNat, Nat.left_eq_add, Nat.add_eq_left, Nat.add_left_cancel_iff, Nat.reduceEqDiff, Nat.add_assoc, Nat.succ_ne_zero, h.blk]
    exact hk
  · rw [decide_eq_false (show ¬ 1 ≤ port from h1), Bool.false_and] at hk
    exact hk

/-- a state is read -/
theorem st_get {i : Int} {R : Value → World → Prop} (h : BR N0 w bp vp vm vnb p pb o c sb so sc room ps fs) (h0 : 0 ≤ i) (hi : i.toNat < fs.S.length) (hk : R (i64 (fs.S.getD i.toNat 0)) w) :
    opS Tryz.prog (S.ia 70 (.slice (some ⟨sb, so, none⟩) fs.S.length sc) (i64 i)) (fun x => opS Tryz.prog (S.ld 3 x) R) w := by
  refine s_iaE h.s.rd h0 (by rw [List.length_map]; exact hi) fun b o _ _ he => ?_
  rw [s_ld1, he.cell0 (by simp [cellI])]
  simp only [List.getElem_map, cellI]
  rw [List.getD_eq_getElem?_getD, List.getElem?_eq_getElem hi] at hk
  exact hk

theorem hasB_iff {S : List Int} {port : Int} : hasB S port = true ↔ 1 ≤ port ∧ port < S.length := by unfold hasB; simp

theorem set_spec {port st : Int} (h : BR N0 w bp vp vm vnb p pb o c sb so sc room ps fs) (hk : ∀ w', BR N0 w' bp vp vm vnb p pb o c sb so sc room ps { fs with S := (setL' fs.S port st).1 } → Fr (fun b => b = sb) w w' → K (i64 (setL' fs.S port st).2) w') :
    CallsR Tryz.prog 23 #[pt bp 0, i64 port, i64 st] K w := by
  apply c23
  unfold p23
  unfold setL' at hk
  simp only [push_cast, Nat.reduceAdd, Nat.reduceLeDiff, Nat.reduceLT, Int.reduceToNat, Nat.left_eq_add, Nat.add_eq_left, Nat.add_left_cancel_iff, Nat.reduceEqDiff, Nat.add_assoc, Nat.succ_ne_zero]
  refine has_spec h ?_
  simp only [push_cast, Nat.reduceAdd, Nat.reduceLeDiff, Nat.reduceLT, Int.reduceToNat, Nat.left_eq_add, Nat.add_eq_left, Nat.add_left_cancel_iff, Nat.reduceEqDiff, Nat.add_assoc, Nat.succ_ne_zero]
  cases hh : hasB fs.S port with
  | false =>
    rw [hh, Bool.false_and] at hk
    simp only [push_cast, Nat.reduceAdd, Nat.reduceLeDiff, Nat.reduceLT, Int.reduceToNat, Nat.left_eq_add, Nat.add_eq_left, Nat.add_left_cancel_iff, Nat.reduceEqDiff, Nat.add_assoc, Nat.succ_ne_zero, Bool.not_false]
    exact hk _ h (Fr.refl _ _)
  | true =>
  rw [hh, Bool.true_and] at hk
  obtain ⟨hp1, hp2⟩ := hasB_iff.1 hh
  simp only [push_cast, Nat.reduceAdd, Nat.reduceLeDiff, Nat.reduceLT, Int.reduceToNat, Nat.left_eq_add, Nat.add_eq_left, Nat.add_left_cancel_iff, Nat.reduceEqDiff, Nat.add_assoc, Nat.succ_ne_zero, Bool.not_true]
  refine br_dec (fun h1 => ?_) fun h1 => ?_
  · rw [decide_eq_false (by omega), Bool.false_and] at hk
    exact hk _ h (Fr.refl _ _)
  refine br_dec (fun h2 => ?_) fun h2 => ?_
  · rw [decide_eq_true (by omega), decide_eq_false (by omega), Bool.true_and] at hk
    exact hk _ h (Fr.refl _ _)
  rw [decide_eq_true (show 0 ≤ st by omega), decide_eq_true (show st ≤ 2 by omega), Bool.true_and, if_pos rfl] at hk
  simp only [push_cast, Nat.reduceAdd, Nat.reduceLeDiff, Nat.reduceLT, Int.reduceToNat, Nat.left_eq_add, Nat.add_eq_left, Nat.add_left_cancel_iff, Nat.reduceEqDiff, Nat.add_assoc, Nat.succ_ne_zero, h.blk]
  have hml : (fs.S.map cellI).length = fs.S.length := List.length_map _
  have ho := h.s
  rw [← hml] at ho ⊢
  refine s_iaE ho.rd (by omega) (by rw [hml]; omega) fun b' o' c' hv _ => ?_
  simp only [Value.slice.injEq, Option.some.injEq, Addr.mk.injEq] at hv
  obtain ⟨⟨rfl, rfl, _⟩, _, rfl⟩ := hv
  obtain ⟨hok, hput⟩ := ho.put (e := [i64 st]) rfl (show port.toNat < _ by rw [hml]; omega)
  simp only [push_cast, Nat.reduceAdd, Nat.reduceLeDiff, Nat.reduceLT, Int.reduceToNat, Nat.left_eq_add, Nat.add_eq_left, Nat.add_left_cancel_iff, Nat.reduceEqDiff, Nat.add_assoc, Nat.succ_ne_zero, hok]
  refine hk _ (h.st (Fr.step_wr (fp := fun b => b = sb) (Fr.refl _ _) (.inl rfl) _ _) (List.length_set ..) ?_) (Fr.step_wr (fp := fun b => b = sb) (Fr.refl _ _) (.inl rfl) _ _)
  rw [List.map_set, ← hml]
  exact hput

theorem state_spec {port : Int} (h : BR N0 w bp vp vm vnb p pb o c sb so sc room ps fs) (hk : K (i64 (stateL fs.S port)) w) : CallsR Tryz.prog 24 #[pt bp 0, i64 port] K w := by
  apply c24
  unfold p24
  unfold stateL at hk
  simp only [push_cast, Nat.reduceAdd, Nat.reduceLeDiff, Nat.reduceLT, Int.reduceToNat, Nat.left_eq_add, Nat.add_eq_left, Nat.add_left_cancel_iff, Nat.reduceEqDiff, Nat.add_assoc, Nat.succ_ne_zero]
  refine has_spec h ?_
  simp only [push_cast, Nat.reduceAdd, Nat.reduceLeDiff, Nat.reduceLT, Int.reduceToNat, Nat.left_eq_add, Nat.add_eq_left, Nat.add_left_cancel_iff, Nat.reduceEqDiff, Nat.add_assoc, Nat.succ_ne_zero]
  cases hh : hasB fs.S port with
  | false =>
    rw [hh] at hk
    simp only [push_cast, Nat.reduceAdd, Nat.reduceLeDiff, Nat.reduceLT, Int.reduceToNat, Nat.left_eq_add, Nat.add_eq_left, Nat.add_left_cancel_iff, Nat.reduceEqDiff, Nat.add_assoc, Nat.succ_ne_zero, Bool.not_false]
    exact hk
  | true =>
    rw [hh, if_pos rfl] at hk
    obtain ⟨hp1, hp2⟩ := hasB_iff.1 hh
    simp only [push_cast, Nat.reduceAdd, Nat.reduceLeDiff, Nat.reduceLT, Int.reduceToNat, Nat.left_eq_add, Nat.add_eq_left, Nat.add_left_cancel_iff, Nat.reduceEqDiff, Nat.add_assoc, Nat.succ_ne_zero, Bool.not_true, h.blk]
    exact st_get h (by omega) (by omega) hk

end
end Go.Gx.S
end

section
/- A bridge: what it learns, and refuses. -/
set_option linter.unusedVariables false
set_option linter.unusedSimpArgs false
set_option maxRecDepth 100000
namespace Go.Gx.S
open Go Go.Gx Go.Proofs
variable {K : Value → World → Prop} {w : World}

theorem andn15 : ∀ a : Fin 256, (BitVec.ofNat 8 a.val &&& ~~~ (BitVec.ofNat 8 15)).toNat = a.val / 16 * 16 := by decide +kernel
theorem s_andn15 {x : Int} (h : isB x) : opS Tryz.prog (S.binI .andNot (.int .u8 x) (.int .u8 15)) K w = K (.int .u8 (x / 16 * 16)) w := by
  unfold isB at h
  obtain ⟨a, rfl⟩ := Int.eq_ofNat_of_zero_le (show 0 ≤ x by omega)
  unfold S.binI
  simp only []
  have e : (BitVec.ofInt 8 (a : Int) &&& ~~~ BitVec.ofInt 8 15).toNat = a / 16 * 16 := by
    rw [ofInt_nat (by omega), ofInt_nat (by omega)]
    exact andn15 ⟨a, by omega⟩
  have : (binOp .andNot 0 (.int .u8 (a : Int)) (.int .u8 15)).run Tryz.prog w = .ok (.int .u8 ((a : Int) / 16 * 16)) w := by
    show (Op.intBits .andNot .u8 (a : Int) 15).run Tryz.prog w = _
    unfold Op.intBits
    show Result.ok (Value.int .u8 (IntKind.u8.wrap ((BitVec.ofInt 8 (a : Int) &&& ~~~ BitVec.ofInt 8 15).toNat : Int))) w = _
    rw [e, wrap_u8]
    congr 2
    omega
  rw [opS_bind, this]

theorem preserved_spec {m : Mac} (hm : m.ok) (h : ∀ w', Fr none_ w w' → K (.bool (reservedM m)) w') : CallsR Tryz.prog 70 #[.agg m.cells.toArray] K w := by
  apply c70
  unfold p70
  simp only [push_cast, Nat.reduceAdd, Nat.reduceLeDiff, Nat.reduceLT, Int.reduceToNat, Nat.left_eq_add, Nat.add_eq_left, Nat.add_left_cancel_iff, Nat.reduceEqDiff, Nat.add_assoc, Nat.succ_ne_zero]
  have h0 : (w.alloc (cellsO m.cells 24)).heap[w.heap.size]? = some (cellsO m.cells 24) := by simp only [push_cast, Nat.reduceAdd, Nat.reduceLeDiff, Nat.reduceLT, Int.reduceToNat, Nat.left_eq_add, Nat.add_eq_left, Nat.add_left_cancel_iff, Nat.reduceEqDiff, Nat.add_assoc, Nat.succ_ne_zero]
  have hF : Fr none_ w (w.alloc (cellsO m.cells 24)) := (by repeat' first | with_reducible exact Fr.refl _ _ | with_reducible refine Fr.step_alloc ?_ ?_ | with_reducible refine Fr.step_drew ?_ | with_reducible refine Fr.step_wr ?_ ?_ _ _ | exact rfl | exact Or.inr (by omega) | exact Or.inl rfl | exact Or.inl (Or.inl rfl) | exact Or.inl (Or.inr rfl))
  generalize w.alloc (cellsO m.cells 24) = W at *
  rw [opS_iaA w.heap.size 0 .i64 5 (by decide)]
  simp only [push_cast, Nat.reduceAdd, Nat.reduceLeDiff, Nat.reduceLT, Int.reduceToNat, Nat.left_eq_add, Nat.add_eq_left, Nat.add_left_cancel_iff, Nat.reduceEqDiff, Nat.add_assoc, Nat.succ_ne_zero, h0]
  have e5 : m.cells[5]? = some (u8 m.b5) := rfl
  simp only [e5, push_cast, Nat.reduceAdd, Nat.reduceLeDiff, Nat.reduceLT, Int.reduceToNat, Nat.left_eq_add, Nat.add_eq_left, Nat.add_left_cancel_iff, Nat.reduceEqDiff, Nat.add_assoc, Nat.succ_ne_zero]
  obtain ⟨a0, a1, a2, a3, a4, a5⟩ := hm
  rw [s_andn15 a5, opS_iaA w.heap.size 0 .i64 5 (by decide)]
  have e6 : splice m.cells 5 [Value.int .u8 (m.b5 / 16 * 16)] = Mac.cells ⟨m.b0, m.b1, m.b2, m.b3, m.b4, m.b5 / 16 * 16⟩ := rfl
  have e7 : m.cells.length = 6 := rfl
  have e8 : ∀ m : Mac, (m.cells.drop 0).take 6 = m.cells := fun m => rfl
  have e9 : ∀ m : Mac, m.cells.length = 6 := fun m => rfl
  simp only [push_cast, Nat.reduceAdd, Nat.reduceLeDiff, Nat.reduceLT, Int.reduceToNat, Nat.left_eq_add, Nat.add_eq_left, Nat.add_left_cancel_iff, Nat.reduceEqDiff, Nat.add_assoc, Nat.succ_ne_zero, h0, e6, e9, e8]
  have eb : opS Tryz.prog (S.build 24 [(0, .int .u8 1), (1, .int .u8 128), (2, .int .u8 194)]) = fun (K : Value → World → Prop) w => K (.agg (Mac.cells ⟨1, 128, 194, 0, 0, 0⟩).toArray) w := by
    funext K w
    rw [opS_build _ rfl]; rfl
  rw [eb]
  unfold isB at a5
  refine s_eqG (MacT.enc (P := Tryz.prog) (T := 24) (d := 6) (m := ⟨m.b0, m.b1, m.b2, m.b3, m.b4, m.b5 / 16 * 16⟩) ⟨a0, a1, a2, a3, a4, show isB (m.b5 / 16 * 16) by unfold isB; omega⟩) (MacT.enc (P := Tryz.prog) (T := 24) (d := 6) (m := ⟨1, 128, 194, 0, 0, 0⟩) (by simp [Mac.ok, isB])) fun q hq => ?_
  rw [Mac.lits_inj] at hq
  have : q = reservedM m := by
    unfold reservedM
    cases q with
    | false =>
      refine (decide_eq_false fun ⟨h0, h1, h2, h3, h4, h5⟩ => ?_).symm
      have := hq.2 (Mac.ext h0 h1 h2 h3 h4 (by show m.b5 / 16 * 16 = 0; omega))
      cases this
    | true =>
      have := hq.1 rfl
      simp only [Mac.mk.injEq] at this
      exact (decide_eq_true ⟨this.1, this.2.1, this.2.2.1, this.2.2.2.1, this.2.2.2.2.1, by omega⟩).symm
  rw [this]
  exact h _ (hF.step_wr (.inr (Nat.le_refl _)) _ _)

section
variable {N0 bp vp vm vnb p pb o c sb so sc room : Nat} {ps : List Ent} {fs : FS}

theorem cnt_l {k : Nat} {x : Int} {R : Value → World → Prop} (hx : x = k) (hk : k < 3) (h : BR N0 w bp vp vm vnb p pb o c sb so sc room ps fs) (hK : ∀ w', BR N0 w' bp vp vm vnb p pb o c sb so sc room ps { fs with Ln := incr fs.Ln k } → Fr (fun b => b = bp) w w' → R undef w') :
    opS Tryz.prog (S.nc (pt bp 0)) (fun x14 => opS Tryz.prog (S.fa 83 x14 4) fun x15 => opS Tryz.prog (S.ia 81 x15 (.int .i64 x)) fun x16 => opS Tryz.prog (S.ld 3 x16) fun x17 => opS Tryz.prog (S.binI .add x17 (.int .i64 1)) fun x18 =>
      opS Tryz.prog (S.nc (pt bp 0)) fun x19 => opS Tryz.prog (S.fa 83 x19 4) fun x20 => opS Tryz.prog (S.ia 81 x20 (.int .i64 x)) fun x21 => opS Tryz.prog (S.st 3 x21 x18) R) w := by
  subst hx
  have hia : ∀ (R : Value → World → Prop) w, opS Tryz.prog (S.ia 81 (pt bp 12) (.int .i64 (k : Nat))) R w = R (pt bp (k + 12)) w := fun R w => by
    rw [opS_iaA bp 12 .i64 (k : Int) (by omega)]
    rw [Int.toNat_natCast, Nat.mul_one, Nat.add_comm]
  have hg := brC_l (vp := vp) (p := p) (sl := .slice (some ⟨sb, so, none⟩) fs.S.length sc) h.nl h.ll hk
  have hs := brC_setl (vp := vp) (p := p) (sl := .slice (some ⟨sb, so, none⟩) fs.S.length sc) h.nl h.ll hk (IntKind.i64.wrap (fs.Ln.getD k 0 + 1))
  have hl := h.len
  simp only [push_cast, Nat.reduceAdd, Nat.reduceLeDiff, Nat.reduceLT, Int.reduceToNat, Nat.left_eq_add, Nat.add_eq_left, Nat.add_left_cancel_iff, Nat.reduceEqDiff, Nat.add_assoc, Nat.succ_ne_zero, h.blk, hia, hg]
  rw [hl, decide_eq_true (show k + (12 + 1) ≤ 15 by omega)]
  simp only [push_cast, Nat.reduceAdd, Nat.reduceLeDiff, Nat.reduceLT, Int.reduceToNat, Nat.left_eq_add, Nat.add_eq_left, Nat.add_left_cancel_iff, Nat.reduceEqDiff, Nat.add_assoc, Nat.succ_ne_zero]
  refine hK _ (h.own (N' := fs.N) (Ln' := incr fs.Ln k) (Fr.step_wr (fp := fun b => b = bp) (Fr.refl _ _) (.inl rfl) _ _) ?_ h.nl (by unfold incr; rw [List.length_set]; exact h.ll)) (Fr.step_wr (fp := fun b => b = bp) (Fr.refl _ _) (.inl rfl) _ _)
  simp only [push_cast, Nat.reduceAdd, Nat.reduceLeDiff, Nat.reduceLT, Int.reduceToNat, Nat.left_eq_add, Nat.add_eq_left, Nat.add_left_cancel_iff, Nat.reduceEqDiff, Nat.add_assoc, Nat.succ_ne_zero, h.blk, hs]
  rfl

theorem cnt_n {k : Nat} {x : Int} {R : Value → World → Prop} (hx : x = k) (hk : k < 9) (h : BR N0 w bp vp vm vnb p pb o c sb so sc room ps fs) (hK : ∀ w', BR N0 w' bp vp vm vnb p pb o c sb so sc room ps { fs with N := incr fs.N k } → Fr (fun b => b = bp) w w' → R undef w') :
    opS Tryz.prog (S.nc (pt bp 0)) (fun x14 => opS Tryz.prog (S.fa 83 x14 3) fun x15 => opS Tryz.prog (S.ia 55 x15 (.int .i64 x)) fun x16 => opS Tryz.prog (S.ld 3 x16) fun x17 => opS Tryz.prog (S.binI .add x17 (.int .i64 1)) fun x18 =>
      opS Tryz.prog (S.nc (pt bp 0)) fun x19 => opS Tryz.prog (S.fa 83 x19 3) fun x20 => opS Tryz.prog (S.ia 55 x20 (.int .i64 x)) fun x21 => opS Tryz.prog (S.st 3 x21 x18) R) w := by
  subst hx
  have hia : ∀ (R : Value → World → Prop) w, opS Tryz.prog (S.ia 55 (pt bp 3) (.int .i64 (k : Nat))) R w = R (pt bp (k + 3)) w := fun R w => by
    rw [opS_iaA bp 3 .i64 (k : Int) (by omega)]
    rw [Int.toNat_natCast, Nat.mul_one, Nat.add_comm]
  have hg := brC_n (vp := vp) (p := p) (sl := .slice (some ⟨sb, so, none⟩) fs.S.length sc) (Ln := fs.Ln) h.nl hk
  have hs := brC_setn (vp := vp) (p := p) (sl := .slice (some ⟨sb, so, none⟩) fs.S.length sc) h.nl h.ll hk (IntKind.i64.wrap (fs.N.getD k 0 + 1))
  have hl := h.len
  simp only [push_cast, Nat.reduceAdd, Nat.reduceLeDiff, Nat.reduceLT, Int.reduceToNat, Nat.left_eq_add, Nat.add_eq_left, Nat.add_left_cancel_iff, Nat.reduceEqDiff, Nat.add_assoc, Nat.succ_ne_zero, h.blk, hia, hg]
  rw [hl, decide_eq_true (show k + (3 + 1) ≤ 15 by omega)]
  simp only [push_cast, Nat.reduceAdd, Nat.reduceLeDiff, Nat.reduceLT, Int.reduceToNat, Nat.left_eq_add, Nat.add_eq_left, Nat.add_left_cancel_iff, Nat.reduceEqDiff, Nat.add_assoc, Nat.succ_ne_zero]
  refine hK _ (h.own (N' := incr fs.N k) (Ln' := fs.Ln) (Fr.step_wr (fp := fun b => b = bp) (Fr.refl _ _) (.inl rfl) _ _) ?_ (by unfold incr; rw [List.length_set]; exact h.nl) h.ll) (Fr.step_wr (fp := fun b => b = bp) (Fr.refl _ _) (.inl rfl) _ _)
  simp only [push_cast, Nat.reduceAdd, Nat.reduceLeDiff, Nat.reduceLT, Int.reduceToNat, Nat.left_eq_add, Nat.add_eq_left, Nat.add_left_cancel_iff, Nat.reduceEqDiff, Nat.add_assoc, Nat.succ_ne_zero, h.blk, hs]
  rfl

def lfp (bp p pb : Nat) : Nat → Prop := fun b => b = bp ∨ b = p ∨ b = pb

theorem blearn_spec {v port now : Int} {m : Mac} (h : BR N0 w bp vp vm vnb p pb o c sb so sc room ps fs) (hv : isI v) (hm : m.ok) (hp : isI port) (ht : isI now)
    (hk : ∀ w' ps', BR N0 w' bp vp vm vnb p pb o c sb so sc room ps' (learnF room fs v m port now) → Fr (lfp bp p pb) w w' → K (.tuple #[]) w') :
    CallsR Tryz.prog 35 #[pt bp 0, i64 v, .agg m.cells.toArray, i64 port, i64 now] K w := by
  apply c35
  unfold p35
  have hF : Fr none_ w (w.alloc (cellsO m.cells 24)) := (by repeat' first | with_reducible exact Fr.refl _ _ | with_reducible refine Fr.step_alloc ?_ ?_ | with_reducible refine Fr.step_drew ?_ | with_reducible refine Fr.step_wr ?_ ?_ _ _ | exact rfl | exact Or.inr (by omega) | exact Or.inl rfl | exact Or.inl (Or.inl rfl) | exact Or.inl (Or.inr rfl))
  have hm0 : (w.alloc (cellsO m.cells 24)).heap[w.heap.size]? = some (cellsO m.cells 24) := by simp only [push_cast, Nat.reduceAdd, Nat.reduceLeDiff, Nat.reduceLT, Int.reduceToNat, Nat.left_eq_add, Nat.add_eq_left, Nat.add_left_cancel_iff, Nat.reduceEqDiff, Nat.add_assoc, Nat.succ_ne_zero]
  simp only [opS_box, cells_agg, alloc_cellsO]
  replace h := h.fr0 hF
  generalize w.alloc (cellsO m.cells 24) = W at *
  simp only [push_cast, Nat.reduceAdd, Nat.reduceLeDiff, Nat.reduceLT, Int.reduceToNat, Nat.left_eq_add, Nat.add_eq_left, Nat.add_left_cancel_iff, Nat.reduceEqDiff, Nat.add_assoc, Nat.succ_ne_zero, h.blk, hm0]
  have hFd : Fr none_ w W.drew := hF.step_drew
  replace h := h.fr0 (Fr.drew W)
  generalize W.drew = W2 at *
  refine learn_spec h.f hv hm hp ht fun w2 ps2 ht2 hF2 => ?_
  have h2 := h.tab hF2 ht2
  have hF02 : Fr (lfp bp p pb) w w2 := (hFd.mono fun _ _ e => e.elim).trans_new hF2 fun b _ e => .inr e
  unfold learnF at hk
  have done : ∀ {w' : World} {Ln' : List Int}, BR N0 w' bp vp vm vnb p pb o c sb so sc room ps2 { fs with r := (learnL room fs.r v m port now).1, Ln := Ln' } → Fr (fun b => b = bp) w2 w' → Fr (lfp bp p pb) w w' := fun _ hF => hF02.trans_new hF fun b _ e => .inl e
  simp only [push_cast, Nat.reduceAdd, Nat.reduceLeDiff, Nat.reduceLT, Int.reduceToNat, Nat.left_eq_add, Nat.add_eq_left, Nat.add_left_cancel_iff, Nat.reduceEqDiff, Nat.add_assoc, Nat.succ_ne_zero]
  refine br_intro (fun he => ?_) fun he => ?_
  · have he : (learnL room fs.r v m port now).2.2 ≠ 0 := by simpa using he
    rw [if_pos he] at hk
    refine cnt_l (k := 2) rfl (by decide) (h2.fr0 (Fr.drew w2)) fun w3 h3 hF3 => ?_
    exact hk _ ps2 h3 (hF02.step_drew.trans_new hF3 fun b _ e => .inl e)
  have he : (learnL room fs.r v m port now).2.2 = 0 := by simpa using he
  rw [if_neg (fun e => e he)] at hk
  refine br_intro (fun h1 => ?_) fun h1 => ?_
  · have h1 : (learnL room fs.r v m port now).2.1 = 1 := by simpa using h1
    rw [if_pos h1] at hk
    refine cnt_l (k := 0) rfl (by decide) (h2.fr0 (Fr.drew w2)) fun w3 h3 hF3 => ?_
    exact hk _ ps2 h3 (hF02.step_drew.trans_new hF3 fun b _ e => .inl e)
  have h1 : (learnL room fs.r v m port now).2.1 ≠ 1 := by simpa using h1
  rw [if_neg h1] at hk
  refine br_intro (fun h3 => ?_) fun h3 => ?_
  · have h3 : (learnL room fs.r v m port now).2.1 = 2 := by simpa using h3
    rw [if_pos h3] at hk
    refine cnt_l (k := 1) rfl (by decide) (h2.fr0 (Fr.drew w2)) fun w3 h3 hF3 => ?_
    exact hk _ ps2 h3 (hF02.step_drew.trans_new hF3 fun b _ e => .inl e)
  · have h3 : (learnL room fs.r v m port now).2.1 ≠ 2 := by simpa using h3
    rw [if_neg h3] at hk
    exact hk _ ps2 h2 hF02

theorem refused_spec {port now : Int} {f : Frm} {bs : List Int} (h : BR N0 w bp vp vm vnb p pb o c sb so sc room ps fs) (hf : FrmR w f bs)
    (hk : ∀ w', Fr none_ w w' → K (.tuple #[i64 (refusedL fs port f bs.length now).1, i64 (refusedL fs port f bs.length now).2]) w') :
    CallsR Tryz.prog 34 #[pt bp 0, i64 port, .agg f.cells.toArray, i64 now] K w := by
  apply c34
  unfold p34
  obtain ⟨ba, bc, hbd⟩ := hf.2.form
  have hF : Fr none_ w (w.alloc (cellsO f.cells 27)) := (by repeat' first | with_reducible exact Fr.refl _ _ | with_reducible refine Fr.step_alloc ?_ ?_ | with_reducible refine Fr.step_drew ?_ | with_reducible refine Fr.step_wr ?_ ?_ _ _ | exact rfl | exact Or.inr (by omega) | exact Or.inl rfl | exact Or.inl (Or.inl rfl) | exact Or.inl (Or.inr rfl))
  have hx0 : (w.alloc (cellsO f.cells 27)).heap[w.heap.size]? = some (cellsO f.cells 27) := by simp only [push_cast, Nat.reduceAdd, Nat.reduceLeDiff, Nat.reduceLT, Int.reduceToNat, Nat.left_eq_add, Nat.add_eq_left, Nat.add_left_cancel_iff, Nat.reduceEqDiff, Nat.add_assoc, Nat.succ_ne_zero]
  simp only [opS_box, cells_agg, alloc_cellsO]
  replace h := h.fr0 hF
  replace hf := hf.fr0 hF
  generalize w.alloc (cellsO f.cells 27) = W at *
  generalize w.heap.size = fb at *
  unfold refusedL at hk
  simp only [push_cast, Nat.reduceAdd, Nat.reduceLeDiff, Nat.reduceLT, Int.reduceToNat, Nat.left_eq_add, Nat.add_eq_left, Nat.add_left_cancel_iff, Nat.reduceEqDiff, Nat.add_assoc, Nat.succ_ne_zero]
  refine has_spec h ?_
  simp only [push_cast, Nat.reduceAdd, Nat.reduceLeDiff, Nat.reduceLT, Int.reduceToNat, Nat.left_eq_add, Nat.add_eq_left, Nat.add_left_cancel_iff, Nat.reduceEqDiff, Nat.add_assoc, Nat.succ_ne_zero]
  cases hh : hasB fs.S port with
  | false =>
    rw [hh] at hk
    simp only [push_cast, Nat.reduceAdd, Nat.reduceLeDiff, Nat.reduceLT, Int.reduceToNat, Nat.left_eq_add, Nat.add_eq_left, Nat.add_left_cancel_iff, Nat.reduceEqDiff, Nat.add_assoc, Nat.succ_ne_zero, Bool.not_false]
    exact hk _ hF
  | true =>
  rw [hh] at hk
  obtain ⟨hp1, hp2⟩ := hasB_iff.1 hh
  simp only [push_cast, Nat.reduceAdd, Nat.reduceLeDiff, Nat.reduceLT, Int.reduceToNat, Nat.left_eq_add, Nat.add_eq_left, Nat.add_left_cancel_iff, Nat.reduceEqDiff, Nat.add_assoc, Nat.succ_ne_zero, Bool.not_true, hx0]
  refine Vl.right_spec hbd fun w2 hF2 => ?_
  replace h := h.fr0 hF2
  replace hf := hf.fr0 hF2
  replace hx0 := hF2.heap hx0 fun h => h
  replace hF := hF.trans hF2
  simp only [push_cast, Nat.reduceAdd, Nat.reduceLeDiff, Nat.reduceLT, Int.reduceToNat, Nat.left_eq_add, Nat.add_eq_left, Nat.add_left_cancel_iff, Nat.reduceEqDiff, Nat.add_assoc, Nat.succ_ne_zero]
  cases hr : f.right bs.length with
  | false =>
    rw [hr] at hk
    simp only [push_cast, Nat.reduceAdd, Nat.reduceLeDiff, Nat.reduceLT, Int.reduceToNat, Nat.left_eq_add, Nat.add_eq_left, Nat.add_left_cancel_iff, Nat.reduceEqDiff, Nat.add_assoc, Nat.succ_ne_zero, Bool.not_false]
    exact hk _ hF
  | true =>
  rw [hr] at hk
  simp only [push_cast, Nat.reduceAdd, Nat.reduceLeDiff, Nat.reduceLT, Int.reduceToNat, Nat.left_eq_add, Nat.add_eq_left, Nat.add_left_cancel_iff, Nat.reduceEqDiff, Nat.add_assoc, Nat.succ_ne_zero, Bool.not_true]
  refine br_dec (fun h1 => ?_) fun h1 => ?_
  · rw [timedB_no (t := now) (by omega)] at hk
    exact hk _ hF
  refine br_dec (fun h2 => ?_) fun h2 => ?_
  · rw [timedB_no (t := now) (by omega)] at hk
    exact hk _ hF
  rw [timedB_iff.2 ⟨by omega, by omega⟩] at hk
  rw [if_neg (by decide)] at hk
  simp only [push_cast, Nat.reduceAdd, Nat.reduceLeDiff, Nat.reduceLT, Int.reduceToNat, Nat.left_eq_add, Nat.add_eq_left, Nat.add_left_cancel_iff, Nat.reduceEqDiff, Nat.add_assoc, Nat.succ_ne_zero, hx0]
  refine preserved_spec hf.1.1 fun w3 hF3 => ?_
  replace h := h.fr0 hF3
  replace hf := hf.fr0 hF3
  replace hx0 := hF3.heap hx0 fun h => h
  replace hF := hF.trans hF3
  simp only [push_cast, Nat.reduceAdd, Nat.reduceLeDiff, Nat.reduceLT, Int.reduceToNat, Nat.left_eq_add, Nat.add_eq_left, Nat.add_left_cancel_iff, Nat.reduceEqDiff, Nat.add_assoc, Nat.succ_ne_zero]
  refine br_intro (fun hrs => ?_) fun hrs => ?_
  · rw [if_pos hrs] at hk
    exact hk _ hF
  rw [if_neg (by rw [hrs]; simp)] at hk
  simp only [push_cast, Nat.reduceAdd, Nat.reduceLeDiff, Nat.reduceLT, Int.reduceToNat, Nat.left_eq_add, Nat.add_eq_left, Nat.add_left_cancel_iff, Nat.reduceEqDiff, Nat.add_assoc, Nat.succ_ne_zero, h.blk]
  refine st_get h (by omega) (by omega) ?_
  simp only [push_cast, Nat.reduceAdd, Nat.reduceLeDiff, Nat.reduceLT, Int.reduceToNat, Nat.left_eq_add, Nat.add_eq_left, Nat.add_left_cancel_iff, Nat.reduceEqDiff, Nat.add_assoc, Nat.succ_ne_zero]
  refine br_intro (fun h0 => ?_) fun h0 => ?_
  · rw [if_pos (by simpa using h0)] at hk
    exact hk _ hF
  rw [if_neg (by simpa using h0)] at hk
  simp only [push_cast, Nat.reduceAdd, Nat.reduceLeDiff, Nat.reduceLT, Int.reduceToNat, Nat.left_eq_add, Nat.add_eq_left, Nat.add_left_cancel_iff, Nat.reduceEqDiff, Nat.add_assoc, Nat.succ_ne_zero, h.blk, hx0]
  have hFd := hF.step_drew
  replace h := h.fr0 (Fr.drew w3)
  replace hf := hf.fr0 (Fr.drew w3)
  replace hx0 := (Fr.drew (fp := none_) w3).heap hx0 fun h => h
  generalize w3.drew = w4 at *
  refine Vl.vin_spec h.v hf fun w5 hF5 => ?_
  replace hf := hf.fr0 hF5
  replace hx0 := hF5.heap hx0 fun h => h
  simp only [push_cast, Nat.reduceAdd, Nat.reduceLeDiff, Nat.reduceLT, Int.reduceToNat, Nat.left_eq_add, Nat.add_eq_left, Nat.add_left_cancel_iff, Nat.reduceEqDiff, Nat.add_assoc, Nat.succ_ne_zero]
  refine br_intro (fun he => ?_) fun he => ?_
  · rw [if_pos (by simpa using he)] at hk
    exact hk _ (hFd.trans hF5)
  rw [if_neg (by simpa using he)] at hk
  simp only [push_cast, Nat.reduceAdd, Nat.reduceLeDiff, Nat.reduceLT, Int.reduceToNat, Nat.left_eq_add, Nat.add_eq_left, Nat.add_left_cancel_iff, Nat.reduceEqDiff, Nat.add_assoc, Nat.succ_ne_zero, hx0]
  refine pgroup_spec hf.1.2.1 fun w6 hF6 => ?_
  simp only [push_cast, Nat.reduceAdd, Nat.reduceLeDiff, Nat.reduceLT, Int.reduceToNat, Nat.left_eq_add, Nat.add_eq_left, Nat.add_left_cancel_iff, Nat.reduceEqDiff, Nat.add_assoc, Nat.succ_ne_zero]
  refine br_intro (fun hg => ?_) fun hg => ?_
  · rw [if_pos hg] at hk
    exact hk _ ((hFd.trans hF5).trans hF6)
  · rw [if_neg (by rw [hg]; simp)] at hk
    exact hk _ ((hFd.trans hF5).trans hF6)

end
end Go.Gx.S
end

section
/- A bridge: to which ports frames go. -/
set_option linter.unusedVariables false
set_option linter.unusedSimpArgs false
set_option maxRecDepth 100000
namespace Go.Gx.S
open Go Go.Gx Go.Proofs
variable {K : Value → World → Prop} {w : World}

/-! ### Plain -/

def outAt (t : VT) (S : List Int) (v frm : Int) (f : Frm) (n : Nat) (i : Nat) : Option (Int × Frm) :=
  if (i : Int) = frm then none else if S.getD i 0 ≠ 2 then none else if (t.out v i f n).2 = 0 then some ((i : Int), (t.out v i f n).1) else none
def sendN (t : VT) (S : List Int) (v frm : Int) (f : Frm) (n : Nat) : Nat → List (Int × Frm)
  | 0 => []
  | k + 1 => sendN t S v frm f n k ++ (outAt t S v frm f n k).toList
def tgt (target : Int) (o : Int × Frm) : Bool := decide (target = 0 ∨ o.1 = target)
def relayL (t : VT) (S : List Int) (v frm target : Int) (f : Frm) (n : Nat) : List (Int × Frm) := (sendN t S v frm f n S.length).filter (tgt target)
def outC (o : Int × Frm) : List Value := i64 o.1 :: o.2.cells
theorem outC.len (o : Int × Frm) : (outC o).length = 18 := id rfl
theorem outC.g0 (o : Int × Frm) : (outC o)[0]? = some (i64 o.1) := id rfl
theorem outC.d1 (o : Int × Frm) : ((outC o).drop 1).take 17 = o.2.cells := id rfl
attribute [push_cast] outC.len outC.g0 outC.d1
theorem frm_len (f : Frm) : f.cells.length = 17 := id rfl
theorem frm_dw (f : Frm) : (f.cells.drop 0).take 17 = f.cells := id rfl

theorem sendN_len {t : VT} {S : List Int} {v frm : Int} {f : Frm} {n : Nat} : ∀ k, (sendN t S v frm f n k).length ≤ k
  | 0 => Nat.le_refl _
  | k + 1 => by
    have := sendN_len (t := t) (S := S) (v := v) (frm := frm) (f := f) (n := n) k
    unfold sendN
    rw [List.length_append]
    cases outAt t S v frm f n k <;> simp <;> omega

/-- a frame's cells but for its body are of one cell each; so is its body where it is a slice -/
theorem frm_one {f : Frm} (h : S.oneCell f.body = true) : f.cells.all S.oneCell = true := by
  simp only [Frm.cells, List.all_cons, List.all_nil, h]
  rfl
theorem frmR_one {f : Frm} {bs : List Int} (h : FrmR w f bs) : f.cells.all S.oneCell = true := by
  obtain ⟨a, c, hb⟩ := h.2.form
  exact frm_one (by rw [hb]; rfl)
theorem out_one {t : VT} {v n : Int} {f : Frm} {m : Nat} (h : S.oneCell f.body = true) : (t.out v n f m).1.cells.all S.oneCell = true := by
  unfold VT.out
  split
  · split
    · rfl
    · exact frm_one h
    · exact frm_one h
  · rfl
theorem outC_one {o : Int × Frm} (h : o.2.cells.all S.oneCell = true) : (outC o).all S.oneCell = true := by
  unfold outC
  rw [List.all_cons, h]
  rfl

theorem zalloc_frm : opS Tryz.prog (S.alloc 27) K w = K (pt w.heap.size 0) (w.alloc (cellsO zFrm.cells 27)) := by
  rw [opS_alloc]; rfl
theorem build_out (i : Int) (f : Frm) : opS Tryz.prog (S.build 49 [(0, i64 i), (1, .agg f.cells.toArray)]) K w = K (.agg (outC (i, f)).toArray) w := by
  rw [opS_build _ rfl]; rfl
theorem out_slot {g : Int × Frm} (hg : g.2.cells.all S.oneCell = true) {R : Value → Value → World → Prop} (h : ∀ u w', w'.heap[w.heap.size]? = some (cellsO (outC g) 49) → Fr none_ w w' → R (pt w.heap.size 0) u w') :
    opS Tryz.prog (S.alloc 49) (fun x => opS Tryz.prog (S.st 49 x (.agg (outC g).toArray)) (R x)) w := by
  have hz : opS Tryz.prog (S.alloc 49) (fun x => opS Tryz.prog (S.st 49 x (.agg (outC g).toArray)) (R x)) w = opS Tryz.prog (S.st 49 (pt w.heap.size 0) (.agg (outC g).toArray)) (R (pt w.heap.size 0)) (w.alloc (cellsO (outC (0, zFrm)) 49)) := by
    rw [opS_alloc]; rfl
  rw [hz, s_stA _ _ (outC g) rfl (outC_one hg), heap_alloc_new, okAt_cells]
  have e : splice (outC (0, zFrm)) 0 (outC g) = outC g := rfl
  rw [show decide (0 + (outC g).length ≤ (outC (0, zFrm)).length) = true from rfl, onB_true]
  refine h _ _ ?_ (Fr.step_wr (Fr.step_alloc (Fr.refl _ _) rfl) (.inr (Nat.le_refl _)) _ _)
  rw [heap_wr, if_pos rfl, heap_alloc_new, putAt_cells, e]

section
variable {N0 bp vp vm vnb p pb o c sb so sc room : Nat} {ps : List Ent} {fs : FS}

/-! ### In any order -/

section
variable {w0 : World} {f : Frm} {bs : List Int} {b1 b3 b4 : Nat} {v : Int}
theorem so_ldB (h : BR N0 w0 bp vp vm vnb p pb o c sb so sc room ps fs) (hb : w0.heap[b1]? = some (cellsO [pt bp 0] 32)) (hF : Fr none_ w0 w) {R : Value → World → Prop} (hk : R (pt bp 0) w) :
    opS Tryz.prog (S.ld 32 (pt b1 0)) (fun x => opS Tryz.prog (S.nc x) fun y => opS Tryz.prog (S.fa 83 y 0) R) w := by
  have := hF.heap hb fun h => h
  simp only [push_cast, Nat.reduceAdd, Nat.reduceLeDiff, Nat.reduceLT, Int.reduceToNat, Nat.left_eq_add, Nat.add_eq_left, Nat.add_left_cancel_iff, Nat.reduceEqDiff, Nat.add_assoc, Nat.succ_ne_zero, this]
  exact hk
theorem so_ldV (h : BR N0 w0 bp vp vm vnb p pb o c sb so sc room ps fs) (hF : Fr none_ w0 w) {R : Value → World → Prop} (hk : R (pt vp 0) w) : opS Tryz.prog (S.ld 71 (pt bp 0)) R w := by
  have := hF.heap h.blk fun h => h
  simp only [push_cast, Nat.reduceAdd, Nat.reduceLeDiff, Nat.reduceLT, Int.reduceToNat, Nat.left_eq_add, Nat.add_eq_left, Nat.add_left_cancel_iff, Nat.reduceEqDiff, Nat.add_assoc, Nat.succ_ne_zero, this]
  exact hk
theorem so_ldI (hb : w0.heap[b3]? = some (cellsO [i64 v] 3)) (hF : Fr none_ w0 w) {R : Value → World → Prop} (hk : R (i64 v) w) : opS Tryz.prog (S.ld 3 (pt b3 0)) R w := by
  have := hF.heap hb fun h => h
  simp only [push_cast, Nat.reduceAdd, Nat.reduceLeDiff, Nat.reduceLT, Int.reduceToNat, Nat.left_eq_add, Nat.add_eq_left, Nat.add_left_cancel_iff, Nat.reduceEqDiff, Nat.add_assoc, Nat.succ_ne_zero, this]
  exact hk
theorem so_ldF (hb : w0.heap[b4]? = some (cellsO f.cells 27)) (hF : Fr none_ w0 w) {R : Value → World → Prop} (hk : R (.agg f.cells.toArray) w) : opS Tryz.prog (S.ld 27 (pt b4 0)) R w := by
  have := hF.heap hb fun h => h
  simp only [push_cast, Nat.reduceAdd, Nat.reduceLeDiff, Nat.reduceLT, Int.reduceToNat, Nat.left_eq_add, Nat.add_eq_left, Nat.add_left_cancel_iff, Nat.reduceEqDiff, Nat.add_assoc, Nat.succ_ne_zero, this, frm_len, frm_dw]
  exact hk
theorem so_alloc (hF : Fr none_ w0 w) {R : Value → World → Prop} (hk : ∀ sl w', w'.heap[sl]? = some (cellsO zFrm.cells 27) → w0.heap.size ≤ sl → Fr none_ w0 w' → R (pt sl 0) w') : opS Tryz.prog (S.alloc 27) R w := by
  rw [zalloc_frm]
  refine hk _ _ ?_ hF.size (hF.trans ((Fr.refl _ _).step_alloc rfl))
  simp only [push_cast, Nat.reduceAdd, Nat.reduceLeDiff, Nat.reduceLT, Int.reduceToNat, Nat.left_eq_add, Nat.add_eq_left, Nat.add_left_cancel_iff, Nat.reduceEqDiff, Nat.add_assoc, Nat.succ_ne_zero]
theorem so_out {i : Int} (h : BR N0 w0 bp vp vm vnb p pb o c sb so sc room ps fs) (hf : FrmR w0 f bs) (hF : Fr none_ w0 w) {R : Value → Value → World → Prop} (hk : ∀ w', Fr none_ w0 w' → Fr none_ w w' → R (.agg (fs.t.out v i f bs.length).1.cells.toArray) (i64 (fs.t.out v i f bs.length).2) w') :
    opS Tryz.prog (S.cl 77 [pt vp 0, i64 v, i64 i, .agg f.cells.toArray]) (fun x => opS Tryz.prog (S.ext x 0) fun a => opS Tryz.prog (S.ext x 1) fun b => R a b) w := by
  simp only [push_cast, Nat.reduceAdd, Nat.reduceLeDiff, Nat.reduceLT, Int.reduceToNat, Nat.left_eq_add, Nat.add_eq_left, Nat.add_left_cancel_iff, Nat.reduceEqDiff, Nat.add_assoc, Nat.succ_ne_zero]
  refine Vl.vout_spec (h.v.fr0 hF) (hf.fr0 hF) fun w' hF' => ?_
  simp only [s_ext, List.getElem?_toArray, List.getElem?_cons_zero, List.getElem?_cons_succ, onS_some]
  exact hk w' (hF.trans hF') hF'
theorem so_st1 {g : Frm} {sl : Nat} {w1 : World} (hg : g.cells.all S.oneCell = true) (hs : w1.heap[sl]? = some (cellsO zFrm.cells 27)) (hl : w0.heap.size ≤ sl) (hF1 : Fr none_ w1 w) (hF : Fr none_ w0 w) {R : Value → World → Prop} (hk : ∀ u w', w'.heap[sl]? = some (cellsO g.cells 27) → Fr none_ w0 w' → R u w') :
    opS Tryz.prog (S.st 27 (pt sl 0) (.agg g.cells.toArray)) R w := by
  have hs' := hF1.heap hs fun h => h
  rw [s_stA _ _ _ (frm_len g) hg, hs', okAt_cells]
  have e : splice zFrm.cells 0 g.cells = g.cells := rfl
  rw [show decide (0 + 17 ≤ zFrm.cells.length) = true from rfl, onB_true]
  refine hk _ _ ?_ (hF.step_wr (.inr hl) _ _)
  rw [heap_wr, if_pos rfl, hs', putAt_cells, e]
end

theorem senders_spec {v frm : Int} {f : Frm} {bs : List Int} (hf : FrmR w f bs)
    (hk : ∀ w', w'.heap[w.heap.size]? = some (cellsO [pt bp 0] 32) → w'.heap[w.heap.size + 2]? = some (cellsO [i64 frm] 3) → w'.heap[w.heap.size + 1]? = some (cellsO [i64 v] 3) → w'.heap[w.heap.size + 3]? = some (cellsO f.cells 27) → Fr none_ w w' →
      K (.func (.func 76) #[] #[pt w.heap.size 0, pt (w.heap.size + 2) 0, pt (w.heap.size + 1) 0, pt (w.heap.size + 3) 0]) w') :
    CallsR Tryz.prog 38 #[pt bp 0, i64 v, i64 frm, .agg f.cells.toArray] K w := by
  apply c38
  unfold p38
  simp only [push_cast, Nat.reduceAdd, Nat.reduceLeDiff, Nat.reduceLT, Int.reduceToNat, Nat.left_eq_add, Nat.add_eq_left, Nat.add_left_cancel_iff, Nat.reduceEqDiff, Nat.add_assoc, Nat.succ_ne_zero]
  refine hk _ ?_ ?_ ?_ ?_ (by repeat' first | with_reducible exact Fr.refl _ _ | with_reducible refine Fr.step_alloc ?_ ?_ | with_reducible refine Fr.step_drew ?_ | with_reducible refine Fr.step_wr ?_ ?_ _ _ | exact rfl | exact Or.inr (by omega) | exact Or.inl rfl | exact Or.inl (Or.inl rfl) | exact Or.inl (Or.inr rfl)) <;> simp only [push_cast, Nat.reduceAdd, Nat.reduceLeDiff, Nat.reduceLT, Int.reduceToNat, Nat.left_eq_add, Nat.add_eq_left, Nat.add_left_cancel_iff, Nat.reduceEqDiff, Nat.add_assoc, Nat.succ_ne_zero]

theorem senders1_spec {y : Value} {v frm : Int} {f : Frm} {bs : List Int} {b1 b2 b3 b4 : Nat} (fpY : Nat → Prop) (A : World → Prop) (I : List (Int × Frm) → World → Prop)
    (hA0 : ∀ w1, A w1 → BR N0 w1 bp vp vm vnb p pb o c sb so sc room ps fs ∧ FrmR w1 f bs ∧ w1.heap[b1]? = some (cellsO [pt bp 0] 32) ∧ w1.heap[b2]? = some (cellsO [i64 frm] 3) ∧ w1.heap[b3]? = some (cellsO [i64 v] 3) ∧ w1.heap[b4]? = some (cellsO f.cells 27))
    (hAN : ∀ w1 w2, A w1 → Fr none_ w1 w2 → A w2) (hAY : ∀ w1 w2, A w1 → Fr fpY w1 w2 → A w2) (hIN : ∀ d w1 w2, I d w1 → Fr none_ w1 w2 → I d w2) (hA : A w) (hI : I [] w)
    (hy : ∀ d x w1 KY, I d w1 → A w1 → d.length ≤ 64 → (outC x).all S.oneCell = true → (∀ w2, I (d ++ [x]) w2 → Fr fpY w1 w2 → KY (.bool true) w2) → opS Tryz.prog (S.call y [.agg (outC x).toArray]) KY w1)
    (h : ∀ w', I (sendN fs.t fs.S v frm f bs.length fs.S.length) w' → A w' → K (.tuple #[]) w') :
    CallsR Tryz.prog 76 #[y, pt b1 0, pt b2 0, pt b3 0, pt b4 0] K w := by
  apply c76
  unfold p76
  obtain ⟨hB, hf, h1, h2, h3, h4⟩ := hA0 w hA
  have hsl := hB.sl
  obtain ⟨ba, bc, hbd⟩ := hf.2.form
  have hbo : S.oneCell f.body = true := by rw [hbd]; rfl
  simp only [push_cast, Nat.reduceAdd, Nat.reduceLeDiff, Nat.reduceLT, Int.reduceToNat, Nat.left_eq_add, Nat.add_eq_left, Nat.add_left_cancel_iff, Nat.reduceEqDiff, Nat.add_assoc, Nat.succ_ne_zero, h1, hB.blk]
  refine jn0 (fun w' => I (sendN fs.t fs.S v frm f bs.length fs.S.length) w' ∧ A w') (fun w' ⟨a, b⟩ => h w' a b) fun j hj => ?_
  refine loop1 (fun n x w' => ∃ i : Nat, x = i64 i ∧ n + i = fs.S.length ∧ I (sendN fs.t fs.S v frm f bs.length i) w' ∧ A w') ?_ fs.S.length ⟨0, rfl, rfl, hI, hA⟩
  rintro n x w1 X ⟨i, rfl, hi, hI1, hA1⟩ hX
  simp only [push_cast, Nat.reduceAdd, Nat.reduceLeDiff, Nat.reduceLT, Int.reduceToNat, Nat.left_eq_add, Nat.add_eq_left, Nat.add_left_cancel_iff, Nat.reduceEqDiff, Nat.add_assoc, Nat.succ_ne_zero]
  refine br_dec (fun hlt => ?_) fun hge => ?_
  case refine_2 =>
    have : i = fs.S.length := by omega
    subst this
    exact hj _ ⟨hI1, hA1⟩
  have hil : i < fs.S.length := by omega
  have hdl := sendN_len (t := fs.t) (S := fs.S) (v := v) (frm := frm) (f := f) (n := bs.length) i
  obtain ⟨hB1, hf1, g1, g2, g3, g4⟩ := hA0 w1 hA1
  have hnone : outAt fs.t fs.S v frm f bs.length i = none → ∀ w', Fr none_ w1 w' → X (i64 (IntKind.i64.wrap ((i : Int) + 1))) w' := fun he w' hF => by
    rw [wrap_i64 (by omega)]
    refine hX (n - 1) _ _ (by omega) ⟨i + 1, by simp, by omega, ?_, hAN _ _ hA1 hF⟩
    unfold sendN
    rw [he]
    simpa using hIN _ _ _ hI1 hF
  refine st_get hB1 (by omega) (by omega) ?_
  rw [Int.toNat_natCast]
  simp only [push_cast, Nat.reduceAdd, Nat.reduceLeDiff, Nat.reduceLT, Int.reduceToNat, Nat.left_eq_add, Nat.add_eq_left, Nat.add_left_cancel_iff, Nat.reduceEqDiff, Nat.add_assoc, Nat.succ_ne_zero, g2]
  refine br_intro (fun hfr => hnone ?_ _ (Fr.refl _ _)) fun hfr => ?_
  · unfold outAt; rw [if_pos (by simpa using hfr)]
  have hfr : ¬ (i : Int) = frm := by simpa using hfr
  refine br_intro (fun hst => hnone ?_ _ (Fr.refl _ _)) fun hst => ?_
  · unfold outAt; rw [if_neg hfr, if_pos (by simpa using hst)]
  have hst : fs.S.getD i 0 = 2 := by simpa using hst
  have hoa : outAt fs.t fs.S v frm f bs.length i = if (fs.t.out v i f bs.length).2 = 0 then some ((i : Int), (fs.t.out v i f bs.length).1) else none := by
    unfold outAt
    rw [if_neg hfr, if_neg (by rw [hst]; simp)]
  have hgo := out_one (t := fs.t) (v := v) (n := (i : Int)) (m := bs.length) hbo
  refine jn2 (fun a b w' => ∃ sl, a = pt sl 0 ∧ b = i64 (fs.t.out v i f bs.length).2 ∧ w'.heap[sl]? = some (cellsO (fs.t.out v i f bs.length).1.cells 27) ∧ Fr none_ w1 w') ?_ fun j2 hj2 => ?_
  · rintro a b w2 ⟨sl, rfl, rfl, hs, hF2⟩
    simp only [push_cast, Nat.reduceAdd, Nat.reduceLeDiff, Nat.reduceLT, Int.reduceToNat, Nat.left_eq_add, Nat.add_eq_left, Nat.add_left_cancel_iff, Nat.reduceEqDiff, Nat.add_assoc, Nat.succ_ne_zero, hs, frm_len, frm_dw]
    refine br_intro (fun he => ?_) fun he => ?_
    · rw [if_pos (by simpa using he)] at hoa
      rw [build_out]
      refine hy _ (_, _) w2 _ (hIN _ _ _ hI1 hF2) (hAN _ _ hA1 hF2) (by omega) (outC_one hgo) fun w3 hI3 hF3 => ?_
      simp only [push_cast, Nat.reduceAdd, Nat.reduceLeDiff, Nat.reduceLT, Int.reduceToNat, Nat.left_eq_add, Nat.add_eq_left, Nat.add_left_cancel_iff, Nat.reduceEqDiff, Nat.add_assoc, Nat.succ_ne_zero, Bool.not_true]
      rw [wrap_i64 (by omega)]
      refine hX (n - 1) _ _ (by omega) ⟨i + 1, by simp, by omega, ?_, hAY _ _ (hAN _ _ hA1 hF2) hF3⟩
      unfold sendN
      rw [hoa]
      exact hI3
    · rw [if_neg (by simpa using he)] at hoa
      exact hnone hoa _ hF2
  · simp only [drw_eq]
    have hB2 := hB1.fr0 (Fr.drew w1)
    have hf2 := hf1.fr0 (Fr.drew w1)
    have k1 := (Fr.drew (fp := none_) w1).heap g1 fun h => h
    have k3 := (Fr.drew (fp := none_) w1).heap g3 fun h => h
    have k4 := (Fr.drew (fp := none_) w1).heap g4 fun h => h
    have hFd : Fr none_ w1 w1.drew := Fr.drew w1
    generalize w1.drew = wd at *
    have hself : Fr none_ wd wd := Fr.refl _ _
    have fin : ∀ sl w', w'.heap[sl]? = some (cellsO (fs.t.out v i f bs.length).1.cells 27) → Fr none_ wd w' → j2 (pt sl 0) (i64 (fs.t.out v i f bs.length).2) w' := fun sl w' hs hF => hj2 _ _ _ ⟨sl, rfl, rfl, hs, hFd.trans hF⟩
    clear hnone hX hj hI hA hy h hA0 hAN hAY hIN
    repeat' first
      | with_reducible refine allW_intro ?_ ?_
      | with_reducible refine so_ldB hB2 k1 (by assumption) ?_
      | with_reducible refine so_ldV hB2 (by assumption) ?_
      | with_reducible refine so_ldI k3 (by assumption) ?_
      | with_reducible refine so_ldF k4 (by assumption) ?_
      | with_reducible refine so_alloc (w0 := wd) (by assumption) fun _ _ _ _ _ => ?_
      | with_reducible refine so_out hB2 hf2 (by assumption) fun _ _ _ => ?_
      | (with_reducible refine so_st1 (w0 := wd) hgo (by assumption) (by assumption) (by first | assumption | exact Fr.refl _ _) (by assumption) fun _ _ _ _ => ?_; exact fin _ _ (by assumption) (by assumption))

end
end Go.Gx.S
end

section
/- A bridge: what it relays. -/
set_option linter.unusedVariables false
set_option linter.unusedSimpArgs false
set_option maxRecDepth 100000
namespace Go.Gx.S
open Go Go.Gx Go.Proofs
variable {K : Value → World → Prop} {w : World}

theorem frm_keep {fp : Nat → Prop} {w0 w1 w2 : World} {f : Frm} {bs : List Int} (h0 : FrmR w0 f bs) (h : FrmR w1 f bs) (hF : Fr fp w1 w2) (hn : ∀ b, b < w0.heap.size → ¬ fp b) : FrmR w2 f bs := by
  obtain ⟨hok, h1, h2⟩ := h
  refine ⟨hok, ?_, h2⟩
  obtain ⟨h3, h4⟩ := h1
  refine ⟨?_, h4⟩
  rcases h3 with h3 | ⟨b, o, c, cs, T, fz, hv, hb, hc, ho, hl⟩
  · exact .inl h3
  · rcases h0.2.1.1 with ⟨⟨a', c', hv'⟩, hn', hl'⟩ | ⟨b', o', c', cs', T', fz', hv', hb', _⟩
    · refine .inl ⟨⟨a', c', hv'⟩, hn', hl'⟩
    · rw [hv] at hv'
      simp only [Value.slice.injEq, Option.some.injEq, Addr.mk.injEq] at hv'
      obtain ⟨⟨rfl, rfl, _⟩, _, rfl⟩ := hv'
      exact .inr ⟨b, o, c, cs, T, fz, hv, hF.heap hb (hn b (lt_of_heap hb')), hc, ho, hl⟩

theorem run_bounds3 {n c : Nat} (h : n ≤ c) : (Instr.sliceBounds true n c none (some (.int .i64 (n : Nat))) (some (.int .i64 (n : Nat)))).run Tryz.prog w = .ok (0, n, n) w := by
  unfold Instr.sliceBounds
  simp only [pure_bind]
  rw [Sem.run_bind, run_sliceBound (by omega), Result.andThen_ok, Sem.run_bind, run_sliceBound (by omega), Result.andThen_ok]
  rfl
theorem clip_spec {v : Value} {es : List (List Value)} (hv : RdE 18 w v es) (hk : ∀ v', RdE 18 w v' es → (∀ b, blkS v' = some b → blkS v = some b) → K v' w) : CallsR Tryz.prog 39 #[v] K w := by
  apply c39
  unfold p39
  obtain ⟨a, c, rfl, hc⟩ := hv.cap
  simp only [push_cast, Nat.reduceAdd, Nat.reduceLeDiff, Nat.reduceLT, Int.reduceToNat, Nat.left_eq_add, Nat.add_eq_left, Nat.add_left_cancel_iff, Nat.reduceEqDiff, Nat.add_assoc, Nat.succ_ne_zero]
  unfold S.slc
  rw [opS_bind]
  unfold Instr.sliceAt
  rw [Sem.run_bind, run_underlying_of (SlT.und (P := Tryz.prog) (T := 35)), Result.andThen_ok]
  simp only []
  unfold Instr.slice
  rw [Sem.run_bind, run_underlying_of (SlT.und (P := Tryz.prog) (T := 35)), Result.andThen_ok]
  simp only []
  rw [Sem.run_bind, run_bounds3 hc, Result.andThen_ok]
  simp only []
  rw [Sem.run_bind, Sz.size (P := Tryz.prog) (T := 49) w, Result.andThen_ok]
  have e : (if es.length = 0 then a else Option.map (fun x : Addr => x.add (0 * 18)) a) = a := by
    split
    · rfl
    · cases a with
      | none => rfl
      | some x =>
        obtain ⟨b, o, f⟩ := x
        rcases hv.1 with ⟨_, hn, _⟩ | ⟨b', o', c', cs, T, fz, h1, _⟩
        · omega
        · simp only [Value.slice.injEq, Option.some.injEq, Addr.mk.injEq] at h1
          obtain ⟨⟨rfl, rfl, rfl⟩, _, _⟩ := h1
          show some (Addr.add _ _) = _
          rw [add_none, Nat.zero_mul, Nat.add_zero]
  show K (.slice (if es.length = 0 then a else Option.map (fun x : Addr => x.add (0 * 18)) a) (es.length - 0) (es.length - 0)) w
  rw [e]
  refine hk _ ⟨?_, hv.2⟩ fun b hb => by cases a <;> exact hb
  rcases hv.1 with ⟨⟨a', c', h1⟩, hn, hl⟩ | ⟨b', o', c', cs, T, fz, h1, hb, hc', ho, hl⟩
  · simp only [Value.slice.injEq] at h1
    exact .inl ⟨⟨a, es.length - 0, by rw [hn]⟩, hn, hl⟩
  · simp only [Value.slice.injEq] at h1
    obtain ⟨rfl, _, rfl⟩ := h1
    exact .inr ⟨b', o', es.length, cs, T, fz, rfl, hb, Nat.le_refl _, ho, hl⟩

section
variable {N0 bp vp vm vnb p pb o c sb so sc room : Nat} {ps : List Ent} {fs : FS}

/-- the bridge's blocks are not among those -/
theorem BR.fr {fp : Nat → Prop} {w' : World} (h : BR N0 w bp vp vm vnb p pb o c sb so sc room ps fs) (hF : Fr fp w w') (hn : ∀ b, (b = bp ∨ b = vp ∨ b = vm ∨ b = vnb ∨ b = p ∨ b = pb ∨ b = sb) → ¬ fp b) : BR N0 w' bp vp vm vnb p pb o c sb so sc room ps fs :=
  ⟨hF.heap h.blk (hn _ (by simp)), h.v.fr hF (hn _ (by simp)) (hn _ (by simp)) (hn _ (by simp)), h.f.fr hF (hn _ (by simp)) (hn _ (by simp)), h.s.fr hF (fun b hb => by simp only [blkS, Option.some.injEq] at hb; exact hn _ (by simp [hb.symm])), h.nl, h.ll, h.sl, h.d1, h.d2, h.d3, h.ge⟩

theorem relay_spec {v frm target : Int} {f : Frm} {bs : List Int} (h : BR N0 w bp vp vm vnb p pb o c sb so sc room ps fs) (hf : FrmR w f bs)
    (hk : ∀ x w', RdE 18 w' x ((relayL fs.t fs.S v frm target f bs.length).map outC) → New w x → Fr none_ w w' → K x w') :
    CallsR Tryz.prog 17 #[pt bp 0, i64 v, i64 frm, i64 target, .agg f.cells.toArray] K w := by
  apply c17
  unfold p17
  have hf0 := hf
  have hlt := h.lt
  have hF : Fr none_ w (((w.alloc (cellsO [i64 target] 3)).alloc (cellsO f.cells 27)).alloc (cellsO [.slice none 0 0] 35)) := (by repeat' first | with_reducible exact Fr.refl _ _ | with_reducible refine Fr.step_alloc ?_ ?_ | with_reducible refine Fr.step_drew ?_ | with_reducible refine Fr.step_wr ?_ ?_ _ _ | exact rfl | exact Or.inr (by omega) | exact Or.inl rfl | exact Or.inl (Or.inl rfl) | exact Or.inl (Or.inr rfl))
  have ht0 : (((w.alloc (cellsO [i64 target] 3)).alloc (cellsO f.cells 27)).alloc (cellsO [.slice none 0 0] 35)).heap[w.heap.size]? = some (cellsO [i64 target] 3) := by simp only [push_cast, Nat.reduceAdd, Nat.reduceLeDiff, Nat.reduceLT, Int.reduceToNat, Nat.left_eq_add, Nat.add_eq_left, Nat.add_left_cancel_iff, Nat.reduceEqDiff, Nat.add_assoc, Nat.succ_ne_zero]
  have hf1 : (((w.alloc (cellsO [i64 target] 3)).alloc (cellsO f.cells 27)).alloc (cellsO [.slice none 0 0] 35)).heap[w.heap.size + 1]? = some (cellsO f.cells 27) := by simp only [push_cast, Nat.reduceAdd, Nat.reduceLeDiff, Nat.reduceLT, Int.reduceToNat, Nat.left_eq_add, Nat.add_eq_left, Nat.add_left_cancel_iff, Nat.reduceEqDiff, Nat.add_assoc, Nat.succ_ne_zero]
  have hq0 : (((w.alloc (cellsO [i64 target] 3)).alloc (cellsO f.cells 27)).alloc (cellsO [.slice none 0 0] 35)).heap[w.heap.size + 2]? = some (cellsO [.slice none 0 0] 35) := by simp only [push_cast, Nat.reduceAdd, Nat.reduceLeDiff, Nat.reduceLT, Int.reduceToNat, Nat.left_eq_add, Nat.add_eq_left, Nat.add_left_cancel_iff, Nat.reduceEqDiff, Nat.add_assoc, Nat.succ_ne_zero]
  have hWs : (((w.alloc (cellsO [i64 target] 3)).alloc (cellsO f.cells 27)).alloc (cellsO [.slice none 0 0] 35)).heap.size = w.heap.size + 3 := by rw [size_alloc, size_alloc, size_alloc]
  simp only [push_cast, Nat.reduceAdd, Nat.reduceLeDiff, Nat.reduceLT, Int.reduceToNat, Nat.left_eq_add, Nat.add_eq_left, Nat.add_left_cancel_iff, Nat.reduceEqDiff, Nat.add_assoc, Nat.succ_ne_zero, frm_len, frm_dw]
  replace h := h.fr0 hF
  replace hf := hf.fr0 hF
  generalize ((w.alloc (cellsO [i64 target] 3)).alloc (cellsO f.cells 27)).alloc (cellsO [.slice none 0 0] 35) = W at *
  refine senders_spec (bp := bp) hf fun w2 k1 k2 k3 k4 hF2 => ?_
  replace h := h.fr0 hF2
  replace hf := hf.fr0 hF2
  replace ht0 := hF2.heap ht0 fun h => h
  replace hq0 := hF2.heap hq0 fun h => h
  replace hF := hF.trans hF2
  have hk4 := lt_of_heap k4
  rw [hWs] at k1 k2 k3 k4 hk4 ⊢
  simp only [push_cast, Nat.reduceAdd, Nat.reduceLeDiff, Nat.reduceLT, Int.reduceToNat, Nat.left_eq_add, Nat.add_eq_left, Nat.add_left_cancel_iff, Nat.reduceEqDiff, Nat.add_assoc, Nat.succ_ne_zero]
  intro L hL1 hL2 hL3 hyield
  rw [enterS_call]
  have hFs : Fr none_ w2 ((w2.alloc (.deferred (some []))).alloc (.loop L)) := ((Fr.refl _ _).step_alloc rfl).step_alloc rfl
  have hI0 : CJ 49 18 35 w (w.heap.size + 2) w2.heap.size L false [] ((w2.alloc (.deferred (some []))).alloc (.loop L)) := CJ.start hL1 hL3 hq0 (own_nil _ _ _) rfl hF (by omega)
  have hss : w2.heap.size + 1 < ((w2.alloc (.deferred (some []))).alloc (.loop L)).heap.size := by rw [size_alloc, size_alloc]; omega
  refine senders1_spec (v := v) (frm := frm) (f := f) (bs := bs) (b1 := w.heap.size + 3) (b2 := w.heap.size + 3 + 2) (b3 := w.heap.size + 3 + 1) (b4 := w.heap.size + 3 + 3) (fun b => b = w.heap.size + 2 ∨ w2.heap.size < b)
    (fun w' => BR N0 w' bp vp vm vnb p pb o c sb so sc room ps fs ∧ FrmR w' f bs ∧ w'.heap[w.heap.size + 3]? = some (cellsO [pt bp 0] 32) ∧ w'.heap[w.heap.size + 3 + 2]? = some (cellsO [i64 frm] 3) ∧ w'.heap[w.heap.size + 3 + 1]? = some (cellsO [i64 v] 3) ∧ w'.heap[w.heap.size + 3 + 3]? = some (cellsO f.cells 27) ∧ w'.heap[w.heap.size]? = some (cellsO [i64 target] 3))
    (fun d w' => CJ 49 18 35 w (w.heap.size + 2) w2.heap.size L false ((d.filter (tgt target)).map outC) w') (fun w1 ⟨a, b, c, d, e, f, _⟩ => ⟨a, b, c, d, e, f⟩) (fun w1 w2 ⟨a, b, c, d, e, f, g⟩ hF => ⟨a.fr0 hF, b.fr0 hF, hF.heap c fun h => h, hF.heap d fun h => h, hF.heap e fun h => h, hF.heap f fun h => h, hF.heap g fun h => h⟩)
    (fun w1 w2' ⟨a, b, c, d, e, f, g⟩ hF => ⟨a.fr hF fun b hb => by omega, frm_keep hf0 b hF fun b hb => by omega, hF.heap c (by omega), hF.heap d (by omega), hF.heap e (by omega), hF.heap f (by omega), hF.heap g (by omega)⟩)
    (fun d w1 w2 hI hF => hI.stay hF) ⟨h.fr0 hFs, hf.fr0 hFs, hFs.heap k1 fun h => h, hFs.heap k2 fun h => h, hFs.heap k3 fun h => h, hFs.heap k4 fun h => h, hFs.heap ht0 fun h => h⟩ hI0 ?_ ?_
  · intro d x w1 KY hI ⟨_, _, _, _, _, _, g⟩ hdl hone hK
    obtain ⟨L', hlb, hsame, hst, hpd⟩ := hI.loop
    have hlt1 := lt_of_heap hlb
    refine hyield KY [.agg (outC x).toArray] w1 L' hst hsame hlb rfl ?_
    show opS Tryz.prog (S.alloc 49) (fun x12 => opS Tryz.prog (S.st 49 x12 (.agg (outC x).toArray)) fun x13 => opS Tryz.prog (S.beginR (pt (w2.heap.size + 1) 0)) fun x14 => jnJ 0 (
        opS Tryz.prog (S.ld 35 (pt (w.heap.size + 2) 0)) fun x15 => opS Tryz.prog (S.ld 49 x12) fun x16 => opS Tryz.prog (S.buildS 35 1 [(0, x16)]) fun x17 => opS Tryz.prog (S.bi .append #[35, 35] 35 [x15, x17]) fun x18 => opS Tryz.prog (S.st 35 (pt (w.heap.size + 2) 0) x18) fun x19 => opS Tryz.prog (S.endR (pt (w2.heap.size + 1) 0) none) fun x20 => KY x20) fun j0 =>
      opS Tryz.prog (S.ld 3 (pt w.heap.size 0)) fun x15 => opS Tryz.prog (S.binI .eql x15 (.int .i64 0)) fun x16 => brn x16 j0 (opS Tryz.prog (S.fa 49 x12 0) fun x17 => opS Tryz.prog (S.ld 3 x17) fun x18 => opS Tryz.prog (S.ld 3 (pt w.heap.size 0)) fun x19 => opS Tryz.prog (S.binI .eql x18 x19) fun x20 => brn x20 j0 (opS Tryz.prog (S.endR (pt (w2.heap.size + 1) 0) none) fun x21 => KY x21))) w1
    have hone2 : x.2.cells.all S.oneCell = true := by
      unfold outC at hone
      rw [List.all_cons, Bool.and_eq_true] at hone
      exact hone.2
    refine out_slot hone2 fun _ w3 hw3 hF3 => ?_
    have hs13 := hF3.size
    refine cj_begin (hI.stay hF3) fun w4 hI4 hF4 => ?_
    have g4 := hF4.heap (hF3.heap g fun h => h) (by omega)
    have hw4 := hF4.heap hw3 (by omega)
    have hF14 : Fr (fun b => b = w.heap.size + 2 ∨ w2.heap.size < b) w1 w4 := (hF3.mono fun _ _ e => e.elim).trans_new hF4 fun b _ e => .inr (by omega)
    refine jn0 (fun w' => w' = w4 ∧ tgt target x = true) ?_ fun j0 hj0 => ?_
    · rintro w' ⟨rfl, ht⟩
      refine cj_append (T := 35) (E := 49) (sz := 18) (by_ := 72) (z := .agg (outC (0, zFrm)).toArray) (x := outC x) (mid := fun K => opS Tryz.prog (S.ld 49 (pt w1.heap.size 0)) fun x9 => opS Tryz.prog (S.buildS 35 1 [(0, x9)]) K) (fun K hk => ?_) hone rfl (by decide) ?_ hI4 fun w5 hI5 hF5 => ?_
      · have e : (List.take 18 (List.drop 0 (outC x))) = outC x := rfl
        simp only [push_cast, Nat.reduceAdd, Nat.reduceLeDiff, Nat.reduceLT, Int.reduceToNat, Nat.left_eq_add, Nat.add_eq_left, Nat.add_left_cancel_iff, Nat.reduceEqDiff, Nat.add_assoc, Nat.succ_ne_zero, hw4, e]
        exact s_bs1 (sz := 18) (z := .agg (outC (0, zFrm)).toArray) rfl rfl (by decide) (by decide) hk
      · have := List.length_filter_le (tgt target) d
        rw [List.length_map]; omega
      · refine cj_endR hI5 fun w6 hI6 hF6 => ?_
        refine hK w6 ?_ ((hF14.trans_new hF5 fun b _ e => by omega).trans_new hF6 fun b _ e => .inr (by omega))
        rw [List.filter_append, List.map_append, List.filter_cons, if_pos ht]
        exact hI6
    · simp only [push_cast, Nat.reduceAdd, Nat.reduceLeDiff, Nat.reduceLT, Int.reduceToNat, Nat.left_eq_add, Nat.add_eq_left, Nat.add_left_cancel_iff, Nat.reduceEqDiff, Nat.add_assoc, Nat.succ_ne_zero, g4]
      have hskip : tgt target x = false → opS Tryz.prog (S.endR (pt (w2.heap.size + 1) 0) none) KY w4 := fun ht => by
        refine cj_endR hI4 fun w6 hI6 hF6 => ?_
        refine hK w6 ?_ (hF14.trans_new hF6 fun b _ e => .inr (by omega))
        rw [List.filter_append, List.map_append, List.filter_cons, if_neg (by rw [ht]; simp)]
        simpa using hI6
      refine br_intro (fun h0 => hj0 _ ⟨rfl, ?_⟩) fun h0 => ?_
      · unfold tgt
        exact decide_eq_true (.inl (by simpa using h0))
      simp only [push_cast, Nat.reduceAdd, Nat.reduceLeDiff, Nat.reduceLT, Int.reduceToNat, Nat.left_eq_add, Nat.add_eq_left, Nat.add_left_cancel_iff, Nat.reduceEqDiff, Nat.add_assoc, Nat.succ_ne_zero, g4, hw4]
      refine br_intro (fun h1 => hj0 _ ⟨rfl, ?_⟩) fun h1 => hskip ?_
      · unfold tgt
        exact decide_eq_true (.inr (by simpa using h1))
      · unfold tgt
        refine decide_eq_false fun e => ?_
        rcases e with e | e
        · rw [e] at h0; simp at h0
        · rw [e] at h1; simp at h1
  · intro w3 hI hA
    obtain ⟨u, w4, hrun, hs4, hu4, hb4, hd4, hF4, hF34⟩ := cj_end Tryz.prog hI
    refine ⟨none, w4, hrun, ?_⟩
    simp only [push_cast, Nat.reduceAdd, Nat.reduceLeDiff, Nat.reduceLT, Int.reduceToNat, Nat.left_eq_add, Nat.add_eq_left, Nat.add_left_cancel_iff, Nat.reduceEqDiff, Nat.add_assoc, Nat.succ_ne_zero, hs4]
    refine clip_spec hu4.rd fun u' hu' hbu => ?_
    show opS Tryz.prog (S.take (pt w2.heap.size 0)) _ _
    rw [opS_take hd4]
    have hF2w := hF.size
    refine hk u' _ ?_ (fun b hb => ?_) (hF4.step_upd hd4 rfl _ rfl (.inr hF2w))
    · refine hu'.frame fun b hb => heap_upd_ne ?_
      have := hb4 b (hbu b hb)
      omega
    · have := hb4 b (hbu b hb)
      omega

end
end Go.Gx.S
end

section
/- A bridge: what comes of a frame. -/
set_option linter.unusedVariables false
set_option linter.unusedSimpArgs false
set_option maxRecDepth 100000
namespace Go.Gx.S
open Go Go.Gx Go.Proofs
variable {K : Value → World → Prop} {w : World}

def wayC (c v t : Int) (o : Value) : List Value := [i64 c, i64 v, i64 t, o]
theorem wayC.len (c v t : Int) (o : Value) : (wayC c v t o).length = 4 := id rfl
theorem wayC.g0 (c v t : Int) (o : Value) : (wayC c v t o)[0]? = some (i64 c) := id rfl
theorem wayC.g1 (c v t : Int) (o : Value) : (wayC c v t o)[1]? = some (i64 v) := id rfl
theorem wayC.g2 (c v t : Int) (o : Value) : (wayC c v t o)[2]? = some (i64 t) := id rfl
theorem wayC.g3 (c v t : Int) (o : Value) : (wayC c v t o)[3]? = some o := id rfl
theorem wayC.dw (c v t : Int) (o : Value) : ((wayC c v t o).drop 0).take 4 = wayC c v t o := id rfl
theorem wayC.s0 (c v t c' : Int) (o : Value) : splice (wayC c v t o) 0 [.int .i64 c'] = wayC c' v t o := id rfl
theorem wayC.s2 (c v t t' : Int) (o : Value) : splice (wayC c v t o) 2 [.int .i64 t'] = wayC c v t' o := id rfl
theorem wayC.s3 (c v t : Int) (o a : Value) : splice (wayC c v t o) 3 [a] = wayC c v t a := id rfl
theorem wayC.sw (c v t c' v' t' : Int) (o o' : Value) : splice (wayC c v t o) 0 (wayC c' v' t' o') = wayC c' v' t' o' := id rfl
theorem wayC.one (c v t : Int) (a : Option Addr) (n m : Nat) : (wayC c v t (.slice a n m)).all S.oneCell = true := id rfl
attribute [push_cast] wayC.len wayC.g0 wayC.g1 wayC.g2 wayC.g3 wayC.dw wayC.s0 wayC.s2 wayC.s3 wayC.sw wayC.one

theorem zalloc_way : opS Tryz.prog (S.alloc 37) K w = K (pt w.heap.size 0) (w.alloc (cellsO (wayC 0 0 0 (.slice none 0 0)) 37)) := by
  rw [opS_alloc]; rfl
theorem build_way1 (v : Int) : opS Tryz.prog (S.build 37 [(1, i64 v)]) K w = K (.agg (wayC 0 v 0 (.slice none 0 0)).toArray) w := by
  rw [opS_build _ rfl]; rfl
theorem build_way2 (c v : Int) : opS Tryz.prog (S.build 37 [(0, i64 c), (1, i64 v)]) K w = K (.agg (wayC c v 0 (.slice none 0 0)).toArray) w := by
  rw [opS_build _ rfl]; rfl
theorem way_slot {c v : Int} {R : Value → Value → World → Prop} (h : ∀ u w', w'.heap[w.heap.size]? = some (cellsO (wayC c v 0 (.slice none 0 0)) 37) → Fr none_ w w' → R (pt w.heap.size 0) u w') :
    opS Tryz.prog (S.alloc 37) (fun x => opS Tryz.prog (S.st 37 x (.agg (wayC c v 0 (.slice none 0 0)).toArray)) (R x)) w := by
  rw [zalloc_way, s_stA _ _ (wayC c v 0 (.slice none 0 0)) rfl rfl, heap_alloc_new, okAt_cells]
  rw [show decide (0 + (wayC c v 0 (.slice none 0 0)).length ≤ (wayC 0 0 0 (.slice none 0 0)).length) = true from rfl, onB_true]
  refine h _ _ ?_ (Fr.step_wr (Fr.step_alloc (Fr.refl _ _) rfl) (.inr (Nat.le_refl _)) _ _)
  rw [heap_wr, if_pos rfl, heap_alloc_new, putAt_cells]
  rfl

def endL (t : Int) (l : List (Int × Frm)) : Int × Int × List (Int × Frm) := if l = [] then (8, t, []) else (0, t, l)
def sentL (fs : FS) (v port : Int) (f : Frm) (n : Nat) : Int × Int × List (Int × Frm) :=
  if fs.S.getD port.toNat 0 = 1 then (6, 0, [])
  else match atK fs.r (v, f.dst) with
    | some x => if x.port = port then (7, 0, []) else endL x.port (if x.port > 0 then relayL fs.t fs.S v port x.port f n else [])
    | none => endL 0 (relayL fs.t fs.S v port 0 f n)

def endL2 (c t : Int) (l : List (Int × Frm)) : Int × Int × List (Int × Frm) := if c = 0 ∧ l = [] then (8, t, []) else (c, t, l)

def takeA (room : Nat) (fs : FS) (port : Int) (f : Frm) (n : Nat) (now : Int) : FS × Int × Int × Int × List (Int × Frm) :=
  if (refusedL fs port f n now).1 = 0 then
    ({ learnF room fs (refusedL fs port f n now).2 f.src port now with N := incr fs.N (sentL (learnF room fs (refusedL fs port f n now).2 f.src port now) (refusedL fs port f n now).2 port f n).1.toNat },
      (sentL (learnF room fs (refusedL fs port f n now).2 f.src port now) (refusedL fs port f n now).2 port f n).1, (refusedL fs port f n now).2, (sentL (learnF room fs (refusedL fs port f n now).2 f.src port now) (refusedL fs port f n now).2 port f n).2)
  else ({ fs with N := incr fs.N (refusedL fs port f n now).1.toNat }, (refusedL fs port f n now).1, (refusedL fs port f n now).2, 0, [])

theorem endL_range (t : Int) (l : List (Int × Frm)) : 0 ≤ (endL t l).1 ∧ (endL t l).1 < 9 := by
  unfold endL
  split
  · exact ⟨(by decide : (0 : Int) ≤ 8), (by decide : (8 : Int) < 9)⟩
  · exact ⟨(by decide : (0 : Int) ≤ 0), (by decide : (0 : Int) < 9)⟩
theorem sentL_range (fs : FS) (v port : Int) (f : Frm) (n : Nat) : 0 ≤ (sentL fs v port f n).1 ∧ (sentL fs v port f n).1 < 9 := by
  unfold sentL
  split
  · exact ⟨by decide, by decide⟩
  · split
    · split
      · exact ⟨by decide, by decide⟩
      · exact endL_range _ _
    · exact endL_range _ _
theorem refusedL_range (fs : FS) (port : Int) (f : Frm) (n : Nat) (now : Int) : 0 ≤ (refusedL fs port f n now).1 ∧ (refusedL fs port f n now).1 < 9 := by
  unfold refusedL
  split
  · simp
  · split
    · simp
    · split
      · simp
      · split
        · simp
        · split <;> simp
theorem refusedL_port {fs : FS} {port : Int} {f : Frm} {n : Nat} {now : Int} (h : (refusedL fs port f n now).1 = 0) : hasB fs.S port = true ∧ f.right n = true ∧ timedB now = true ∧ (refusedL fs port f n now).2 = (fs.t.inn port f n).1 ∧ (fs.t.inn port f n).2 = 0 ∧ grp f.src = false := by
  unfold refusedL at h ⊢
  split at h
  · cases h
  · rename_i h1
    rw [if_neg h1]
    simp only [Bool.or_eq_true, Bool.not_eq_true', not_or, Bool.not_eq_false] at h1
    split at h
    · cases h
    · rename_i h2
      rw [if_neg h2]
      split at h
      · cases h
      · rename_i h3
        rw [if_neg h3]
        split at h
        · cases h
        · rename_i h4
          rw [if_neg h4]
          split at h
          · cases h
          · rename_i h5
            rw [if_neg h5]
            exact ⟨h1.1, h1.2.1, h1.2.2, rfl, by simpa using h4, by simpa using h5⟩

theorem inn_isI {t : VT} {p : Int} {f : Frm} {n : Nat} (ht : t.ok) (hf : f.ok) : isI (t.inn p f n).1 := by
  have hz : isI 0 := isI_iff.2 (by decide)
  have hv : isI (if f.vlan = 0 then t.nat.getD p.toNat 0 else f.vlan) := by
    by_cases h0 : f.vlan = 0
    · rw [if_pos h0, List.getD_eq_getElem?_getD]
      cases hg : t.nat[p.toNat]? with
      | none => exact hz
      | some x =>
        have := ht.nat x (List.mem_of_getElem? hg)
        exact isI_iff.2 (by simp only [Option.getD_some]; omega)
    · rw [if_neg h0]
      exact hf.2.2.1
  unfold VT.inn
  by_cases h1 : t.port p ∧ f.right n = true
  · rw [if_pos h1]
    generalize (if f.vlan = 0 then t.nat.getD p.toNat 0 else f.vlan) = v at *
    simp only
    split
    · exact hv
    · exact hz
  · rw [if_neg h1]
    exact hz

section
variable {N0 bp vp vm vnb p pb o c sb so sc room : Nat} {ps : List Ent} {fs : FS}

section
variable {w0 : World} {f : Frm} {fb : Nat} {v : Int}
theorem se_ldT (h : BR N0 w0 bp vp vm vnb p pb o c sb so sc room ps fs) (hF : Fr none_ w0 w) {R : Value → World → Prop} (hk : R (pt p 0) w) : opS Tryz.prog (S.ld 42 (pt bp 1)) R w := by
  have := hF.heap h.blk fun h => h
  simp only [push_cast, Nat.reduceAdd, Nat.reduceLeDiff, Nat.reduceLT, Int.reduceToNat, Nat.left_eq_add, Nat.add_eq_left, Nat.add_left_cancel_iff, Nat.reduceEqDiff, Nat.add_assoc, Nat.succ_ne_zero, this]
  exact hk
theorem se_ldM (hb : w0.heap[fb]? = some (cellsO f.cells 27)) (hF : Fr none_ w0 w) {R : Value → World → Prop} (hk : R (.agg f.dst.cells.toArray) w) : opS Tryz.prog (S.ld 24 (pt fb 0)) R w := by
  have := hF.heap hb fun h => h
  have e : (f.cells.drop 0).take 6 = f.dst.cells := rfl
  simp only [push_cast, Nat.reduceAdd, Nat.reduceLeDiff, Nat.reduceLT, Int.reduceToNat, Nat.left_eq_add, Nat.add_eq_left, Nat.add_left_cancel_iff, Nat.reduceEqDiff, Nat.add_assoc, Nat.succ_ne_zero, this, frm_len, e]
  exact hk
theorem se_alloc (hF : Fr none_ w0 w) {R : Value → World → Prop} (hk : ∀ sl w', w'.heap[sl]? = some (cellsO zE.cells 40) → w0.heap.size ≤ sl → Fr none_ w0 w' → R (pt sl 0) w') : opS Tryz.prog (S.alloc 40) R w := by
  rw [zalloc_ent]
  refine hk _ _ ?_ hF.size (hF.trans ((Fr.refl _ _).step_alloc rfl))
  simp only [push_cast, Nat.reduceAdd, Nat.reduceLeDiff, Nat.reduceLT, Int.reduceToNat, Nat.left_eq_add, Nat.add_eq_left, Nat.add_left_cancel_iff, Nat.reduceEqDiff, Nat.add_assoc, Nat.succ_ne_zero]
theorem se_look (h : BR N0 w0 bp vp vm vnb p pb o c sb so sc room ps fs) (hv : isI v) (hm : f.dst.ok) (hF : Fr none_ w0 w) {R : Value → Value → World → Prop} (hk : ∀ w', Fr none_ w0 w' → Fr none_ w w' → R (.agg (lookL fs.r (v, f.dst)).1.cells.toArray) (.bool (lookL fs.r (v, f.dst)).2) w') :
    opS Tryz.prog (S.cl 15 [pt p 0, i64 v, .agg f.dst.cells.toArray]) (fun x => opS Tryz.prog (S.ext x 0) fun a => opS Tryz.prog (S.ext x 1) fun b => R a b) w := by
  simp only [push_cast, Nat.reduceAdd, Nat.reduceLeDiff, Nat.reduceLT, Int.reduceToNat, Nat.left_eq_add, Nat.add_eq_left, Nat.add_left_cancel_iff, Nat.reduceEqDiff, Nat.add_assoc, Nat.succ_ne_zero]
  refine look_spec (h.f.fr0 hF) hv hm fun w' hF' => ?_
  simp only [s_ext, List.getElem?_toArray, List.getElem?_cons_zero, List.getElem?_cons_succ, onS_some]
  exact hk w' (hF.trans hF') hF'
theorem se_st1 {g : Ent} {sl : Nat} {w1 : World} (hs : w1.heap[sl]? = some (cellsO zE.cells 40)) (hl : w0.heap.size ≤ sl) (hF1 : Fr none_ w1 w) (hF : Fr none_ w0 w) {R : Value → World → Prop} (hk : ∀ u w', w'.heap[sl]? = some (cellsO g.cells 40) → Fr none_ w0 w' → R u w') :
    opS Tryz.prog (S.st 40 (pt sl 0) (.agg g.cells.toArray)) R w := by
  have hs' := hF1.heap hs fun h => h
  rw [s_stA _ _ _ (Ent.cells_length g) (Ent.cells_one g), hs', okAt_cells]
  have e : splice zE.cells 0 g.cells = g.cells := rfl
  rw [show decide (0 + 10 ≤ zE.cells.length) = true from rfl, onB_true]
  refine hk _ _ ?_ (hF.step_wr (.inr hl) _ _)
  rw [heap_wr, if_pos rfl, hs', putAt_cells, e]
end

theorem sent_spec {v port : Int} {f : Frm} {bs : List Int} (h : BR N0 w bp vp vm vnb p pb o c sb so sc room ps fs) (hf : FrmR w f bs) (hv : isI v) (hpt : hasB fs.S port = true)
    (hk : ∀ x w', RdE 18 w' x ((sentL fs v port f bs.length).2.2.map outC) → New w x → Fr none_ w w' → K (.agg (wayC (sentL fs v port f bs.length).1 v (sentL fs v port f bs.length).2.1 x).toArray) w') :
    CallsR Tryz.prog 36 #[pt bp 0, i64 v, i64 port, .agg f.cells.toArray] K w := by
  apply c36
  unfold p36
  obtain ⟨hp1, hp2⟩ := hasB_iff.1 hpt
  have hlt0 := h.lt
  have hfw := hf
  rw [opS_box]
  show opS Tryz.prog (S.alloc 37) _ (w.alloc (cellsO f.cells 27))
  have hF1 : Fr none_ w (w.alloc (cellsO f.cells 27)) := (by repeat' first | with_reducible exact Fr.refl _ _ | with_reducible refine Fr.step_alloc ?_ ?_ | with_reducible refine Fr.step_drew ?_ | with_reducible refine Fr.step_wr ?_ ?_ _ _ | exact rfl | exact Or.inr (by omega) | exact Or.inl rfl | exact Or.inl (Or.inl rfl) | exact Or.inl (Or.inr rfl))
  have hf0 : (w.alloc (cellsO f.cells 27)).heap[w.heap.size]? = some (cellsO f.cells 27) := by simp only [push_cast, Nat.reduceAdd, Nat.reduceLeDiff, Nat.reduceLT, Int.reduceToNat, Nat.left_eq_add, Nat.add_eq_left, Nat.add_left_cancel_iff, Nat.reduceEqDiff, Nat.add_assoc, Nat.succ_ne_zero]
  replace h := h.fr0 hF1
  replace hf := hf.fr0 hF1
  have hs1 := lt_of_heap hf0
  generalize w.alloc (cellsO f.cells 27) = w1 at *
  rw [zalloc_way]
  have hF2 : Fr none_ w1 (w1.alloc (cellsO (wayC 0 0 0 (.slice none 0 0)) 37)) := (by repeat' first | with_reducible exact Fr.refl _ _ | with_reducible refine Fr.step_alloc ?_ ?_ | with_reducible refine Fr.step_drew ?_ | with_reducible refine Fr.step_wr ?_ ?_ _ _ | exact rfl | exact Or.inr (by omega) | exact Or.inl rfl | exact Or.inl (Or.inl rfl) | exact Or.inl (Or.inr rfl))
  have hr0 : (w1.alloc (cellsO (wayC 0 0 0 (.slice none 0 0)) 37)).heap[w1.heap.size]? = some (cellsO (wayC 0 0 0 (.slice none 0 0)) 37) := by simp only [push_cast, Nat.reduceAdd, Nat.reduceLeDiff, Nat.reduceLT, Int.reduceToNat, Nat.left_eq_add, Nat.add_eq_left, Nat.add_left_cancel_iff, Nat.reduceEqDiff, Nat.add_assoc, Nat.succ_ne_zero]
  replace h := h.fr0 hF2
  replace hf := hf.fr0 hF2
  replace hf0 := hF2.heap hf0 fun h => h
  have hF12 := hF1.trans hF2
  have hs2 := lt_of_heap hr0
  generalize w1.alloc (cellsO (wayC 0 0 0 (.slice none 0 0)) 37) = w2 at *
  rw [build_way1]
  refine way_slot fun _ w3 hw3 hF3 => ?_
  replace h := h.fr0 hF3
  replace hf := hf.fr0 hF3
  replace hf0 := hF3.heap hf0 fun h => h
  replace hr0 := hF3.heap hr0 fun h => h
  have hF03 := hF12.trans hF3
  have hs3 := lt_of_heap hw3
  have hrs : w1.heap.size ≠ w2.heap.size := by omega
  generalize hfb : w.heap.size = fb at *
  generalize hrb : w1.heap.size = rs at *
  generalize hwb : w2.heap.size = ws at *
  have hne1 : ws ≠ rs := fun e => hrs e.symm
  have hlo : w.heap.size ≤ rs ∧ w.heap.size ≤ ws := by omega
  have hok := hf.1
  -- behind the look
  have rest : ∀ sl w4, w4.heap[sl]? = some (cellsO (lookL fs.r (v, f.dst)).1.cells 40) → Fr none_ w3 w4 → sl ≠ ws → sl ≠ rs → BR N0 w4 bp vp vm vnb p pb o c sb so sc room ps fs ∧ FrmR w4 f bs ∧ w4.heap[fb]? = some (cellsO f.cells 27) ∧ w4.heap[rs]? = some (cellsO (wayC 0 0 0 (.slice none 0 0)) 37) ∧ w4.heap[ws]? = some (cellsO (wayC 0 v 0 (.slice none 0 0)) 37) ∧ Fr none_ w w4 :=
    fun sl w4 _ hF _ _ => ⟨h.fr0 hF, hf.fr0 hF, hF.heap hf0 fun h => h, hF.heap hr0 fun h => h, hF.heap hw3 fun h => h, hF03.trans hF⟩
  refine jn2 (fun a b w' => ∃ sl, a = pt sl 0 ∧ b = .bool (lookL fs.r (v, f.dst)).2 ∧ w'.heap[sl]? = some (cellsO (lookL fs.r (v, f.dst)).1.cells 40) ∧ w3.heap.size ≤ sl ∧ Fr none_ w3 w') ?_ fun j2 hj2 => ?_
  case refine_2 =>
    have hFd : Fr none_ w3 w3.drew := Fr.drew w3
    have hB2 := h.fr0 hFd
    have k4 := hFd.heap hf0 fun h => h
    simp only [push_cast, Nat.reduceAdd, Nat.reduceLeDiff, Nat.reduceLT, Int.reduceToNat, Nat.left_eq_add, Nat.add_eq_left, Nat.add_left_cancel_iff, Nat.reduceEqDiff, Nat.add_assoc, Nat.succ_ne_zero]
    have hds : w3.drew.heap.size = w3.heap.size := rfl
    generalize w3.drew = wd at *
    have hself : Fr none_ wd wd := Fr.refl _ _
    have hdst := hok.1
    have fin : ∀ sl w', w'.heap[sl]? = some (cellsO (lookL fs.r (v, f.dst)).1.cells 40) → wd.heap.size ≤ sl → Fr none_ wd w' → j2 (pt sl 0) (.bool (lookL fs.r (v, f.dst)).2) w' := fun sl w' hs hl hF => hj2 _ _ _ ⟨sl, rfl, rfl, hs, by omega, hFd.trans hF⟩
    clear rest hk
    repeat' first
      | with_reducible refine allW_intro ?_ ?_
      | with_reducible refine se_ldT hB2 (by assumption) ?_
      | with_reducible refine se_ldM k4 (by assumption) ?_
      | with_reducible refine se_alloc (w0 := wd) (by assumption) fun _ _ _ _ _ => ?_
      | with_reducible refine se_look hB2 hv hdst (by assumption) fun _ _ _ => ?_
      | (with_reducible refine se_st1 (w0 := wd) (by assumption) (by assumption) (by first | assumption | exact Fr.refl _ _) (by assumption) fun _ _ _ _ => ?_; exact fin _ _ (by assumption) (by assumption) (by assumption))
  rintro a b w4 ⟨sl, rfl, rfl, hsl, hsl3, hF4⟩
  obtain ⟨h4, hf4, hfb4, hr4, hw4, hF04⟩ := rest sl w4 hsl hF4 (by omega) (by omega)
  clear rest hF12 hF03 hF1 hF2 hF3 h hf hf0 hr0 hw3
  refine jn0 (fun w' => ∃ (cc tt : Int) (x : Value) (outs : List (Int × Frm)), w'.heap[ws]? = some (cellsO (wayC cc v tt x) 37) ∧ w'.heap[rs]? = some (cellsO (wayC 0 0 0 (.slice none 0 0)) 37) ∧ RdE 18 w' x (outs.map outC) ∧ (∀ b, blkS x = some b → ws < b) ∧ Fr none_ w w' ∧ endL2 cc tt outs = sentL fs v port f bs.length) ?_ fun j hj => ?_
  · rintro w5 ⟨cc, tt, x, outs, g1, g2, hx, hn, hF5, he⟩
    obtain ⟨xa, xc, rfl⟩ := hx.form
    rw [List.length_map] at hx hn g1
    rw [← he] at hk
    have fin : ∀ w' c', RdE 18 w' (.slice xa outs.length xc) (outs.map outC) → Fr none_ w w' → (c', tt, outs) = endL2 cc tt outs →
        K (.agg (wayC c' v tt (.slice xa outs.length xc)).toArray) (wr w' rs 0 (wayC c' v tt (.slice xa outs.length xc))) := by
      intro w' c' q3 q4 q5
      rw [← q5] at hk
      refine hk _ _ (q3.frame fun b hb => ?_) (fun b hb => by have := hn b hb; omega) (q4.step_wr (.inr hlo.1) _ _)
      have hb0 := hn b hb
      have e : b ≠ rs := by omega
      simp only [push_cast, Nat.reduceAdd, Nat.reduceLeDiff, Nat.reduceLT, Int.reduceToNat, Nat.left_eq_add, Nat.add_eq_left, Nat.add_left_cancel_iff, Nat.reduceEqDiff, Nat.add_assoc, Nat.succ_ne_zero, e]
    simp only [push_cast, Nat.reduceAdd, Nat.reduceLeDiff, Nat.reduceLT, Int.reduceToNat, Nat.left_eq_add, Nat.add_eq_left, Nat.add_left_cancel_iff, Nat.reduceEqDiff, Nat.add_assoc, Nat.succ_ne_zero, g1]
    refine br_intro (fun h0 => ?_) fun h0 => ?_
    · have h0 : cc = 0 := by simpa using h0
      refine br_intro (fun h1 => ?_) fun h1 => ?_
      · have h1 : outs = [] := by simpa using h1
        simp only [push_cast, Nat.reduceAdd, Nat.reduceLeDiff, Nat.reduceLT, Int.reduceToNat, Nat.left_eq_add, Nat.add_eq_left, Nat.add_left_cancel_iff, Nat.reduceEqDiff, Nat.add_assoc, Nat.succ_ne_zero, g1, g2, hne1, hne1.symm]
        refine fin _ 8 (hx.frame fun b hb => ?_) (hF5.step_wr (.inr hlo.2) _ _) (by unfold endL2; rw [if_pos ⟨h0, h1⟩, h1])
        have e : b ≠ ws := by
          have := hn b hb
          omega
        simp only [push_cast, Nat.reduceAdd, Nat.reduceLeDiff, Nat.reduceLT, Int.reduceToNat, Nat.left_eq_add, Nat.add_eq_left, Nat.add_left_cancel_iff, Nat.reduceEqDiff, Nat.add_assoc, Nat.succ_ne_zero, e]
      · have h1 : ¬ outs = [] := by simpa using h1
        simp only [push_cast, Nat.reduceAdd, Nat.reduceLeDiff, Nat.reduceLT, Int.reduceToNat, Nat.left_eq_add, Nat.add_eq_left, Nat.add_left_cancel_iff, Nat.reduceEqDiff, Nat.add_assoc, Nat.succ_ne_zero, g1, g2]
        exact fin _ cc hx hF5 (by unfold endL2; rw [if_neg (fun e => h1 e.2)])
    · have h0 : ¬ cc = 0 := by simpa using h0
      simp only [push_cast, Nat.reduceAdd, Nat.reduceLeDiff, Nat.reduceLT, Int.reduceToNat, Nat.left_eq_add, Nat.add_eq_left, Nat.add_left_cancel_iff, Nat.reduceEqDiff, Nat.add_assoc, Nat.succ_ne_zero, g1, g2]
      exact fin _ cc hx hF5 (by unfold endL2; rw [if_neg (fun e => h0 e.1)])
  · have hlt4 := h4.lt
    simp only [push_cast, Nat.reduceAdd, Nat.reduceLeDiff, Nat.reduceLT, Int.reduceToNat, Nat.left_eq_add, Nat.add_eq_left, Nat.add_left_cancel_iff, Nat.reduceEqDiff, Nat.add_assoc, Nat.succ_ne_zero, h4.blk, jn_0]
    refine st_get h4 (by omega) (by omega) ?_
    unfold sentL at hj
    simp only [push_cast, Nat.reduceAdd, Nat.reduceLeDiff, Nat.reduceLT, Int.reduceToNat, Nat.left_eq_add, Nat.add_eq_left, Nat.add_left_cancel_iff, Nat.reduceEqDiff, Nat.add_assoc, Nat.succ_ne_zero]
    refine br_intro (fun h0 => ?_) fun h0 => ?_
    · have h0 : fs.S.getD port.toNat 0 = 1 := by simpa using h0
      rw [if_pos h0] at hj
      simp only [push_cast, Nat.reduceAdd, Nat.reduceLeDiff, Nat.reduceLT, Int.reduceToNat, Nat.left_eq_add, Nat.add_eq_left, Nat.add_left_cancel_iff, Nat.reduceEqDiff, Nat.add_assoc, Nat.succ_ne_zero, hw4]
      refine hj _ ⟨6, 0, _, [], ?_, ?_, (own_nil 49 18 _).rd, (fun b hb => by cases hb), hF04.step_wr (.inr hlo.2) _ _, rfl⟩
      · simp only [push_cast, Nat.reduceAdd, Nat.reduceLeDiff, Nat.reduceLT, Int.reduceToNat, Nat.left_eq_add, Nat.add_eq_left, Nat.add_left_cancel_iff, Nat.reduceEqDiff, Nat.add_assoc, Nat.succ_ne_zero, hw4]
      · simp only [push_cast, Nat.reduceAdd, Nat.reduceLeDiff, Nat.reduceLT, Int.reduceToNat, Nat.left_eq_add, Nat.add_eq_left, Nat.add_left_cancel_iff, Nat.reduceEqDiff, Nat.add_assoc, Nat.succ_ne_zero, hr4, hne1, hne1.symm]
    have h0 : ¬ fs.S.getD port.toNat 0 = 1 := by simpa using h0
    rw [if_neg h0] at hj
    cases hat : atK fs.r (v, f.dst) with
    | none =>
      rw [hat] at hj
      have e2 : (lookL fs.r (v, f.dst)).2 = false := by unfold lookL; rw [hat]
      simp only [push_cast, Nat.reduceAdd, Nat.reduceLeDiff, Nat.reduceLT, Int.reduceToNat, Nat.left_eq_add, Nat.add_eq_left, Nat.add_left_cancel_iff, Nat.reduceEqDiff, Nat.add_assoc, Nat.succ_ne_zero, e2, hfb4, frm_len, frm_dw]
      refine relay_spec h4 hf4 fun x w5 hx hn hF5 => ?_
      have hn' : ∀ b, blkS x = some b → ws < b := fun b hb => by have := hn b hb; have := lt_of_heap hw4; omega
      have k1 := hF5.heap hw4 fun h => h
      have k2 := hF5.heap hr4 fun h => h
      obtain ⟨xa, xc, rfl⟩ := hx.form
      simp only [push_cast, Nat.reduceAdd, Nat.reduceLeDiff, Nat.reduceLT, Int.reduceToNat, Nat.left_eq_add, Nat.add_eq_left, Nat.add_left_cancel_iff, Nat.reduceEqDiff, Nat.add_assoc, Nat.succ_ne_zero, k1]
      refine hj _ ⟨0, 0, _, _, ?_, ?_, hx.frame fun b hb => ?_, hn', (hF04.trans hF5).step_wr (.inr hlo.2) _ _, ?_⟩
      · simp only [push_cast, Nat.reduceAdd, Nat.reduceLeDiff, Nat.reduceLT, Int.reduceToNat, Nat.left_eq_add, Nat.add_eq_left, Nat.add_left_cancel_iff, Nat.reduceEqDiff, Nat.add_assoc, Nat.succ_ne_zero, k1]
      · simp only [push_cast, Nat.reduceAdd, Nat.reduceLeDiff, Nat.reduceLT, Int.reduceToNat, Nat.left_eq_add, Nat.add_eq_left, Nat.add_left_cancel_iff, Nat.reduceEqDiff, Nat.add_assoc, Nat.succ_ne_zero, k2, hne1, hne1.symm]
      · have := hn' b hb
        have e : b ≠ ws := by omega
        simp only [push_cast, Nat.reduceAdd, Nat.reduceLeDiff, Nat.reduceLT, Int.reduceToNat, Nat.left_eq_add, Nat.add_eq_left, Nat.add_left_cancel_iff, Nat.reduceEqDiff, Nat.add_assoc, Nat.succ_ne_zero, e]
      · unfold endL2 endL
        simp only [true_and]
    | some g =>
      simp only [hat] at hj
      have e2 : lookL fs.r (v, f.dst) = (g, true) := by unfold lookL; rw [hat]
      rw [e2] at hsl
      simp only [push_cast, Nat.reduceAdd, Nat.reduceLeDiff, Nat.reduceLT, Int.reduceToNat, Nat.left_eq_add, Nat.add_eq_left, Nat.add_left_cancel_iff, Nat.reduceEqDiff, Nat.add_assoc, Nat.succ_ne_zero, e2, hsl]
      refine br_intro (fun h1 => ?_) fun h1 => ?_
      · have h1 : g.port = port := by simpa using h1
        rw [if_pos h1] at hj
        simp only [push_cast, Nat.reduceAdd, Nat.reduceLeDiff, Nat.reduceLT, Int.reduceToNat, Nat.left_eq_add, Nat.add_eq_left, Nat.add_left_cancel_iff, Nat.reduceEqDiff, Nat.add_assoc, Nat.succ_ne_zero, hw4]
        refine hj _ ⟨7, 0, _, [], ?_, ?_, (own_nil 49 18 _).rd, (fun b hb => by cases hb), hF04.step_wr (.inr hlo.2) _ _, rfl⟩
        · simp only [push_cast, Nat.reduceAdd, Nat.reduceLeDiff, Nat.reduceLT, Int.reduceToNat, Nat.left_eq_add, Nat.add_eq_left, Nat.add_left_cancel_iff, Nat.reduceEqDiff, Nat.add_assoc, Nat.succ_ne_zero, hw4]
        · simp only [push_cast, Nat.reduceAdd, Nat.reduceLeDiff, Nat.reduceLT, Int.reduceToNat, Nat.left_eq_add, Nat.add_eq_left, Nat.add_left_cancel_iff, Nat.reduceEqDiff, Nat.add_assoc, Nat.succ_ne_zero, hr4, hne1, hne1.symm]
      have h1 : ¬ g.port = port := by simpa using h1
      rw [if_neg h1] at hj
      simp only [push_cast, Nat.reduceAdd, Nat.reduceLeDiff, Nat.reduceLT, Int.reduceToNat, Nat.left_eq_add, Nat.add_eq_left, Nat.add_left_cancel_iff, Nat.reduceEqDiff, Nat.add_assoc, Nat.succ_ne_zero, hw4]
      refine br_dec (fun h2 => ?_) fun h2 => ?_
      · rw [if_pos h2] at hj
        generalize hwa : wr w4 ws 2 [i64 g.port] = wa at *
        have hFa : Fr (fun b => b = ws) w4 wa := by rw [← hwa]; exact Fr.step_wr (fp := fun b => b = ws) (Fr.refl _ _) (.inl rfl) _ _
        have hF0a : Fr none_ w wa := by rw [← hwa]; exact hF04.step_wr (.inr hlo.2) _ _
        have h5 : BR N0 wa bp vp vm vnb p pb o c sb so sc room ps fs := h4.fr hFa fun b hb => by omega
        have hf5 : FrmR wa f bs := frm_keep hfw hf4 hFa fun b hb => by omega
        have k0 : wa.heap[fb]? = some (cellsO f.cells 27) := hFa.heap hfb4 (by omega)
        have k1 : wa.heap[ws]? = some (cellsO (wayC 0 v g.port (.slice none 0 0)) 37) := by rw [← hwa]; simp only [push_cast, Nat.reduceAdd, Nat.reduceLeDiff, Nat.reduceLT, Int.reduceToNat, Nat.left_eq_add, Nat.add_eq_left, Nat.add_left_cancel_iff, Nat.reduceEqDiff, Nat.add_assoc, Nat.succ_ne_zero, hw4]
        have k2 : wa.heap[rs]? = some (cellsO (wayC 0 0 0 (.slice none 0 0)) 37) := hFa.heap hr4 (by omega)
        have hfs : fb ≠ ws := by omega
        rw [if_neg hfs, hfb4]
        simp only [push_cast, Nat.reduceAdd, Nat.reduceLeDiff, Nat.reduceLT, Int.reduceToNat, Nat.left_eq_add, Nat.add_eq_left, Nat.add_left_cancel_iff, Nat.reduceEqDiff, Nat.add_assoc, Nat.succ_ne_zero, frm_len, frm_dw]
        refine relay_spec h5 hf5 fun x w5 hx hn hF5 => ?_
        have hn' : ∀ b, blkS x = some b → ws < b := fun b hb => by have := hn b hb; have := lt_of_heap k1; omega
        replace k1 := hF5.heap k1 fun h => h
        replace k2 := hF5.heap k2 fun h => h
        obtain ⟨xa, xc, rfl⟩ := hx.form
        simp only [push_cast, Nat.reduceAdd, Nat.reduceLeDiff, Nat.reduceLT, Int.reduceToNat, Nat.left_eq_add, Nat.add_eq_left, Nat.add_left_cancel_iff, Nat.reduceEqDiff, Nat.add_assoc, Nat.succ_ne_zero, k1]
        refine hj _ ⟨0, g.port, _, _, ?_, ?_, hx.frame fun b hb => ?_, hn', (hF0a.trans hF5).step_wr (.inr hlo.2) _ _, ?_⟩
        · simp only [push_cast, Nat.reduceAdd, Nat.reduceLeDiff, Nat.reduceLT, Int.reduceToNat, Nat.left_eq_add, Nat.add_eq_left, Nat.add_left_cancel_iff, Nat.reduceEqDiff, Nat.add_assoc, Nat.succ_ne_zero, k1]
        · simp only [push_cast, Nat.reduceAdd, Nat.reduceLeDiff, Nat.reduceLT, Int.reduceToNat, Nat.left_eq_add, Nat.add_eq_left, Nat.add_left_cancel_iff, Nat.reduceEqDiff, Nat.add_assoc, Nat.succ_ne_zero, k2, hne1, hne1.symm]
        · have := hn' b hb
          have e : b ≠ ws := by omega
          simp only [push_cast, Nat.reduceAdd, Nat.reduceLeDiff, Nat.reduceLT, Int.reduceToNat, Nat.left_eq_add, Nat.add_eq_left, Nat.add_left_cancel_iff, Nat.reduceEqDiff, Nat.add_assoc, Nat.succ_ne_zero, e]
        · unfold endL2 endL
          simp only [true_and]
      · rw [if_neg h2] at hj
        refine hj _ ⟨0, g.port, _, [], ?_, ?_, (own_nil 49 18 _).rd, (fun b hb => by cases hb), hF04.step_wr (.inr hlo.2) _ _, ?_⟩
        · simp only [push_cast, Nat.reduceAdd, Nat.reduceLeDiff, Nat.reduceLT, Int.reduceToNat, Nat.left_eq_add, Nat.add_eq_left, Nat.add_left_cancel_iff, Nat.reduceEqDiff, Nat.add_assoc, Nat.succ_ne_zero, hw4]
        · simp only [push_cast, Nat.reduceAdd, Nat.reduceLeDiff, Nat.reduceLT, Int.reduceToNat, Nat.left_eq_add, Nat.add_eq_left, Nat.add_left_cancel_iff, Nat.reduceEqDiff, Nat.add_assoc, Nat.succ_ne_zero, hr4, hne1, hne1.symm]
        · rfl

end
end Go.Gx.S
end

section
/- A bridge: a frame is taken. -/
set_option linter.unusedVariables false
set_option linter.unusedSimpArgs false
set_option maxRecDepth 100000
namespace Go.Gx.S
open Go Go.Gx Go.Proofs
variable {K : Value → World → Prop} {w : World}

theorem way_cause {c v t : Int} {o : Value} {b : Nat} {R : Value → World → Prop} (h : w.heap[b]? = some (cellsO (wayC c v t o) 37)) (hk : R (i64 c) w) : opS Tryz.prog (S.fa 37 (pt b 0) 0) (fun x => opS Tryz.prog (S.ld 3 x) R) w := by
  simp only [push_cast, Nat.reduceAdd, Nat.reduceLeDiff, Nat.reduceLT, Int.reduceToNat, Nat.left_eq_add, Nat.add_eq_left, Nat.add_left_cancel_iff, Nat.reduceEqDiff, Nat.add_assoc, Nat.succ_ne_zero, h]
  exact hk

section
variable {N0 bp vp vm vnb p pb o c sb so sc room : Nat} {ps : List Ent} {fs : FS}

theorem learnF_same (fs : FS) (v : Int) (m : Mac) (port now : Int) : (learnF room fs v m port now).t = fs.t ∧ (learnF room fs v m port now).S = fs.S ∧ (learnF room fs v m port now).N = fs.N := ⟨rfl, rfl, rfl⟩

theorem btake_spec {port now : Int} {f : Frm} {bs : List Int} (ht : fs.t.ok) (h : BR N0 w bp vp vm vnb p pb o c sb so sc room ps fs) (hf : FrmR w f bs) (hfl : ∃ w0 : World, FrmR w0 f bs ∧ w0.heap.size ≤ N0) (hpi : isI port) (hni : isI now)
    (hk : ∀ x w' ps', BR N0 w' bp vp vm vnb p pb o c sb so sc room ps' (takeA room fs port f bs.length now).1 → RdE 18 w' x ((takeA room fs port f bs.length now).2.2.2.2.map outC) → New w x → Fr (lfp bp p pb) w w' →
      K (.agg (wayC (takeA room fs port f bs.length now).2.1 (takeA room fs port f bs.length now).2.2.1 (takeA room fs port f bs.length now).2.2.2.1 x).toArray) w') :
    CallsR Tryz.prog 13 #[pt bp 0, i64 port, .agg f.cells.toArray, i64 now] K w := by
  apply c13
  unfold p13
  have hlt0 := h.lt
  have hfw := hf
  rw [opS_box]
  show opS Tryz.prog (S.alloc 37) _ (w.alloc (cellsO f.cells 27))
  have hF1 : Fr none_ w (w.alloc (cellsO f.cells 27)) := (by repeat' first | with_reducible exact Fr.refl _ _ | with_reducible refine Fr.step_alloc ?_ ?_ | with_reducible refine Fr.step_drew ?_ | with_reducible refine Fr.step_wr ?_ ?_ _ _ | exact rfl | exact Or.inr (by omega) | exact Or.inl rfl | exact Or.inl (Or.inl rfl) | exact Or.inl (Or.inr rfl))
  have hf0 : (w.alloc (cellsO f.cells 27)).heap[w.heap.size]? = some (cellsO f.cells 27) := by simp only [push_cast, Nat.reduceAdd, Nat.reduceLeDiff, Nat.reduceLT, Int.reduceToNat, Nat.left_eq_add, Nat.add_eq_left, Nat.add_left_cancel_iff, Nat.reduceEqDiff, Nat.add_assoc, Nat.succ_ne_zero]
  replace h := h.fr0 hF1
  replace hf := hf.fr0 hF1
  have hs1 := lt_of_heap hf0
  generalize w.alloc (cellsO f.cells 27) = w1 at *
  rw [zalloc_way]
  have hF2 : Fr none_ w1 (w1.alloc (cellsO (wayC 0 0 0 (.slice none 0 0)) 37)) := (by repeat' first | with_reducible exact Fr.refl _ _ | with_reducible refine Fr.step_alloc ?_ ?_ | with_reducible refine Fr.step_drew ?_ | with_reducible refine Fr.step_wr ?_ ?_ _ _ | exact rfl | exact Or.inr (by omega) | exact Or.inl rfl | exact Or.inl (Or.inl rfl) | exact Or.inl (Or.inr rfl))
  have hr0 : (w1.alloc (cellsO (wayC 0 0 0 (.slice none 0 0)) 37)).heap[w1.heap.size]? = some (cellsO (wayC 0 0 0 (.slice none 0 0)) 37) := by simp only [push_cast, Nat.reduceAdd, Nat.reduceLeDiff, Nat.reduceLT, Int.reduceToNat, Nat.left_eq_add, Nat.add_eq_left, Nat.add_left_cancel_iff, Nat.reduceEqDiff, Nat.add_assoc, Nat.succ_ne_zero]
  replace h := h.fr0 hF2
  replace hf := hf.fr0 hF2
  replace hf0 := hF2.heap hf0 fun h => h
  replace hF1 := hF1.trans hF2
  have hs2 := lt_of_heap hr0
  generalize w1.alloc (cellsO (wayC 0 0 0 (.slice none 0 0)) 37) = w2 at *
  simp only [push_cast, Nat.reduceAdd, Nat.reduceLeDiff, Nat.reduceLT, Int.reduceToNat, Nat.left_eq_add, Nat.add_eq_left, Nat.add_left_cancel_iff, Nat.reduceEqDiff, Nat.add_assoc, Nat.succ_ne_zero, hf0, frm_len, frm_dw]
  refine refused_spec h hf fun w3 hF3 => ?_
  replace h := h.fr0 hF3
  replace hf := hf.fr0 hF3
  replace hf0 := hF3.heap hf0 fun h => h
  replace hr0 := hF3.heap hr0 fun h => h
  replace hF1 := hF1.trans hF3
  have hs3 := lt_of_heap hr0
  generalize hca : (refusedL fs port f bs.length now).1 = ca at *
  generalize hva : (refusedL fs port f bs.length now).2 = va at *
  simp only [s_ext, List.getElem?_toArray, List.getElem?_cons_zero, List.getElem?_cons_succ, onS_some]
  rw [build_way2]
  refine way_slot fun _ w4 hw4 hF4 => ?_
  replace h := h.fr0 hF4
  replace hf := hf.fr0 hF4
  replace hf0 := hF4.heap hf0 fun h => h
  replace hr0 := hF4.heap hr0 fun h => h
  replace hF1 := hF1.trans hF4
  have hs4 := lt_of_heap hw4
  generalize hfb : w.heap.size = fb at *
  generalize hrb : w1.heap.size = rs at *
  generalize hwb : w3.heap.size = ws at *
  have hrng := refusedL_range fs port f bs.length now
  rw [hca] at hrng
  refine jn0 (fun w' => ∃ (cc vv tt : Int) (x : Value) (outs : List (Int × Frm)) (fs' : FS) (ps' : List Ent), w'.heap[ws]? = some (cellsO (wayC cc vv tt x) 37) ∧ w'.heap[rs]? = some (cellsO (wayC 0 0 0 (.slice none 0 0)) 37) ∧ RdE 18 w' x (outs.map outC) ∧ (∀ b, blkS x = some b → ws < b) ∧ Fr (lfp bp p pb) w w' ∧ BR N0 w' bp vp vm vnb p pb o c sb so sc room ps' fs' ∧ 0 ≤ cc ∧ cc < 9 ∧ takeA room fs port f bs.length now = ({ fs' with N := incr fs'.N cc.toNat }, cc, vv, tt, outs)) ?_ fun j hj => ?_
  · rintro w5 ⟨cc, vv, tt, x, outs, fs', ps', g1, g2, hx, hn, hF5, h5, c1, c2, he⟩
    rw [he] at hk
    refine way_cause (w := w5.drew) g1 ?_
    refine cnt_n (k := cc.toNat) (by omega) (by omega) (h5.fr0 (Fr.drew w5)) fun w6 h6 hF6 => ?_
    have hF56 : Fr (fun b => b = bp) w5 w6 := ((Fr.drew w5 : Fr none_ w5 w5.drew).mono fun _ _ e => e.elim).trans_new hF6 fun b _ e => e
    have hb6 : bp < fb := hlt0.1
    replace g1 := hF56.heap g1 (by omega)
    replace g2 := hF56.heap g2 (by omega)
    obtain ⟨xa, xc, rfl⟩ := hx.form
    have hne : rs ≠ ws := by omega
    simp only [push_cast, Nat.reduceAdd, Nat.reduceLeDiff, Nat.reduceLT, Int.reduceToNat, Nat.left_eq_add, Nat.add_eq_left, Nat.add_left_cancel_iff, Nat.reduceEqDiff, Nat.add_assoc, Nat.succ_ne_zero, g1, g2]
    have hx6 := hx.fr hF56 fun b hb => by have := hn b hb; omega
    have hlo : w.heap.size ≤ rs := by omega
    refine hk _ _ ps' (h6.fr (Fr.step_wr (fp := fun b => b = rs) (Fr.refl _ _) (.inl rfl) _ _) fun b hb => by omega) (hx6.frame fun b hb => ?_) (fun b hb => by have := hn b hb; omega) ?_
    · have := hn b hb
      have e : b ≠ rs := by omega
      simp only [push_cast, Nat.reduceAdd, Nat.reduceLeDiff, Nat.reduceLT, Int.reduceToNat, Nat.left_eq_add, Nat.add_eq_left, Nat.add_left_cancel_iff, Nat.reduceEqDiff, Nat.add_assoc, Nat.succ_ne_zero, e]
    · exact (hF5.trans_new hF56 fun b _ e => .inl e).step_wr (.inr hlo) _ _
  · simp only [push_cast, Nat.reduceAdd, Nat.reduceLeDiff, Nat.reduceLT, Int.reduceToNat, Nat.left_eq_add, Nat.add_eq_left, Nat.add_left_cancel_iff, Nat.reduceEqDiff, Nat.add_assoc, Nat.succ_ne_zero]
    refine br_intro (fun h0 => ?_) fun h0 => ?_
    · have h0 : ca = 0 := by simpa using h0
      obtain ⟨e1, e2, e3, e4, e5, e6⟩ := refusedL_port (hca.trans h0)
      have hok := hf.1
      have hvi : isI va := by
        have := inn_isI (p := port) (n := bs.length) ht hok
        rw [← e4, hva] at this
        exact this
      have esrc : (f.cells.drop 6).take 6 = f.src.cells := rfl
      simp only [push_cast, Nat.reduceAdd, Nat.reduceLeDiff, Nat.reduceLT, Int.reduceToNat, Nat.left_eq_add, Nat.add_eq_left, Nat.add_left_cancel_iff, Nat.reduceEqDiff, Nat.add_assoc, Nat.succ_ne_zero, hf0, frm_len, frm_dw, esrc]
      refine blearn_spec h hvi hok.2.1 hpi hni fun w5 ps5 h5 hF5 => ?_
      have hge := h.ge
      obtain ⟨w0, hw0, hw0n⟩ := hfl
      have hf5 := frm_keep hw0 hf hF5 fun b hb e => by have : b = bp ∨ b = p ∨ b = pb := e; omega
      have hnl : ∀ b, ws ≤ b ∨ b = fb ∨ b = rs → ¬ lfp bp p pb b := fun b hb e => by have : b = bp ∨ b = p ∨ b = pb := e; omega
      replace hf0 := hF5.heap hf0 (hnl _ (.inr (.inl rfl)))
      replace hr0 := hF5.heap hr0 (hnl _ (.inr (.inr rfl)))
      replace hw4 := hF5.heap hw4 (hnl _ (.inl (Nat.le_refl _)))
      have hF05 : Fr (lfp bp p pb) w w5 := (hF1.mono fun _ _ e => e.elim).trans hF5
      have hs5 := lt_of_heap hw4
      simp only [push_cast, Nat.reduceAdd, Nat.reduceLeDiff, Nat.reduceLT, Int.reduceToNat, Nat.left_eq_add, Nat.add_eq_left, Nat.add_left_cancel_iff, Nat.reduceEqDiff, Nat.add_assoc, Nat.succ_ne_zero, hf0, frm_len, frm_dw]
      refine sent_spec h5 hf5 hvi e1 fun x w6 hx hn hF6 => ?_
      replace hr0 := hF6.heap hr0 fun h => h
      replace hw4 := hF6.heap hw4 fun h => h
      have hn' : ∀ b, blkS x = some b → ws < b := fun b hb => by have := hn b hb; omega
      have hr := sentL_range (learnF room fs va f.src port now) va port f bs.length
      obtain ⟨xa, xc, rfl⟩ := hx.form
      simp only [push_cast, Nat.reduceAdd, Nat.reduceLeDiff, Nat.reduceLT, Int.reduceToNat, Nat.left_eq_add, Nat.add_eq_left, Nat.add_left_cancel_iff, Nat.reduceEqDiff, Nat.add_assoc, Nat.succ_ne_zero, hw4]
      have hlo : w.heap.size ≤ ws := by omega
      refine hj _ ⟨_, va, (sentL (learnF room fs va f.src port now) va port f bs.length).2.1, _, _, learnF room fs va f.src port now, ps5, ?_, ?_, hx.frame fun b hb => ?_, hn', ((hF05.trans_new hF6 fun _ _ e => e.elim).step_wr (.inr hlo) _ _), (h5.fr0 hF6).fr (Fr.step_wr (fp := fun b => b = ws) (Fr.refl _ _) (.inl rfl) _ _) fun b hb => by omega, hr.1, hr.2, ?_⟩
      · simp only [push_cast, Nat.reduceAdd, Nat.reduceLeDiff, Nat.reduceLT, Int.reduceToNat, Nat.left_eq_add, Nat.add_eq_left, Nat.add_left_cancel_iff, Nat.reduceEqDiff, Nat.add_assoc, Nat.succ_ne_zero, hw4]
      · have hne : rs ≠ ws := by omega
        simp only [push_cast, Nat.reduceAdd, Nat.reduceLeDiff, Nat.reduceLT, Int.reduceToNat, Nat.left_eq_add, Nat.add_eq_left, Nat.add_left_cancel_iff, Nat.reduceEqDiff, Nat.add_assoc, Nat.succ_ne_zero, hr0, hne, hne.symm]
      · have := hn' b hb
        have e : b ≠ ws := by omega
        simp only [push_cast, Nat.reduceAdd, Nat.reduceLeDiff, Nat.reduceLT, Int.reduceToNat, Nat.left_eq_add, Nat.add_eq_left, Nat.add_left_cancel_iff, Nat.reduceEqDiff, Nat.add_assoc, Nat.succ_ne_zero, e]
      · unfold takeA
        rw [hca, hva, if_pos h0]
        rfl
    · have h0 : ¬ ca = 0 := by simpa using h0
      refine hj _ ⟨ca, va, 0, _, [], fs, ps, hw4, hr0, (own_nil 49 18 _).rd, (fun b hb => by cases hb), hF1.mono fun _ _ e => e.elim, h, hrng.1, hrng.2, ?_⟩
      unfold takeA
      rw [hca, hva, if_neg h0]

theorem ints_one (l : List Int) : (l.map i64).all S.oneCell = true := by
  rw [List.all_map]
  exact List.all_eq_true.2 fun x _ => rfl
theorem brC_dn {sl : Value} {N Ln : List Int} (hN : N.length = 9) : ((brC vp p sl N Ln).drop 3).take 9 = N.map i64 := by
  show (N.map i64 ++ Ln.map i64).take 9 = _
  rw [List.take_left' (by rw [List.length_map, hN])]
theorem brC_dl {sl : Value} {N Ln : List Int} (hN : N.length = 9) (hL : Ln.length = 3) : ((brC vp p sl N Ln).drop 12).take 3 = Ln.map i64 := by
  show ((N.map i64 ++ Ln.map i64).drop 9).take 3 = _
  rw [List.drop_left' (by rw [List.length_map, hN]), List.take_of_length_le (by rw [List.length_map, hL]; omega)]
/-- all of a block that lies anew is written, and read -/
theorem new_put {T : TypeId} {n : Nat} [hs : Sz Tryz.prog T n true] {b : Nat} {x l : List Value} {R : Value → World → Prop} (h : w.heap[b]? = some (cellsO l T)) (hn : 0 < n) (hl : l.length = n) (hx : x.length = n) (h1 : x.all S.oneCell = true)
    (hk : R (.agg x.toArray) (wr w b 0 x)) : opS Tryz.prog (S.st T (pt b 0) (.agg x.toArray)) (fun _ => opS Tryz.prog (S.ld T (pt b 0)) R) w := by
  have e : (wr w b 0 x).heap[b]? = some (cellsO x T) := by
    rw [heap_wr, if_pos rfl, h, putAt_cells]
    have : splice l 0 x = x := by
      unfold splice
      simp [hl, hx]
    rw [this]
  rw [s_stA _ _ x hx h1, h, okAt_cells, decide_eq_true (by omega), onB_true, s_ldN hn, e, aggAt_cells, if_pos (by omega)]
  simp only [List.drop_zero, onS_some]
  rw [List.take_of_length_le (by omega)]
  exact hk
theorem counts_spec (h : BR N0 w bp vp vm vnb p pb o c sb so sc room ps fs) (hk : ∀ w', Fr none_ w w' → K (.agg (fs.N.map i64).toArray) w') : CallsR Tryz.prog 22 #[pt bp 0] K w := by
  apply c22
  unfold p22
  have hne : bp ≠ w.heap.size := by have := h.lt; omega
  have e := brC_dn (vp := vp) (p := p) (sl := .slice (some ⟨sb, so, none⟩) fs.S.length sc) (Ln := fs.Ln) h.nl
  have hl := h.len
  simp only [push_cast, Nat.reduceAdd, Nat.reduceLeDiff, Nat.reduceLT, Int.reduceToNat, Nat.left_eq_add, Nat.add_eq_left, Nat.add_left_cancel_iff, Nat.reduceEqDiff, Nat.add_assoc, Nat.succ_ne_zero, h.blk, hne, e, hl]
  refine new_put (l := List.replicate 9 (i64 0)) ?_ (by decide) (List.length_replicate ..) (by rw [List.length_map, h.nl]) (ints_one _) (hk _ (by repeat' first | with_reducible exact Fr.refl _ _ | with_reducible refine Fr.step_alloc ?_ ?_ | with_reducible refine Fr.step_drew ?_ | with_reducible refine Fr.step_wr ?_ ?_ _ _ | exact rfl | exact Or.inr (by omega) | exact Or.inl rfl | exact Or.inl (Or.inl rfl) | exact Or.inl (Or.inr rfl)))
  simp only [push_cast, Nat.reduceAdd, Nat.reduceLeDiff, Nat.reduceLT, Int.reduceToNat, Nat.left_eq_add, Nat.add_eq_left, Nat.add_left_cancel_iff, Nat.reduceEqDiff, Nat.add_assoc, Nat.succ_ne_zero]
  rfl
theorem learned_spec (h : BR N0 w bp vp vm vnb p pb o c sb so sc room ps fs) (hk : ∀ w', Fr none_ w w' → K (.agg (fs.Ln.map i64).toArray) w') : CallsR Tryz.prog 68 #[pt bp 0] K w := by
  apply c68
  unfold p68
  have hne : bp ≠ w.heap.size := by have := h.lt; omega
  have e := brC_dl (vp := vp) (p := p) (sl := .slice (some ⟨sb, so, none⟩) fs.S.length sc) h.nl h.ll
  have hl := h.len
  simp only [push_cast, Nat.reduceAdd, Nat.reduceLeDiff, Nat.reduceLT, Int.reduceToNat, Nat.left_eq_add, Nat.add_eq_left, Nat.add_left_cancel_iff, Nat.reduceEqDiff, Nat.add_assoc, Nat.succ_ne_zero, h.blk, hne, e, hl]
  refine new_put (l := List.replicate 3 (i64 0)) ?_ (by decide) (List.length_replicate ..) (by rw [List.length_map, h.ll]) (ints_one _) (hk _ (by repeat' first | with_reducible exact Fr.refl _ _ | with_reducible refine Fr.step_alloc ?_ ?_ | with_reducible refine Fr.step_drew ?_ | with_reducible refine Fr.step_wr ?_ ?_ _ _ | exact rfl | exact Or.inr (by omega) | exact Or.inl rfl | exact Or.inl (Or.inl rfl) | exact Or.inl (Or.inr rfl)))
  simp only [push_cast, Nat.reduceAdd, Nat.reduceLeDiff, Nat.reduceLT, Int.reduceToNat, Nat.left_eq_add, Nat.add_eq_left, Nat.add_left_cancel_iff, Nat.reduceEqDiff, Nat.add_assoc, Nat.succ_ne_zero]
  rfl
end
end Go.Gx.S
end
