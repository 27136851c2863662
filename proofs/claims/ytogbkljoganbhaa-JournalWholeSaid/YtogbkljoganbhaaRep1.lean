/- Entries that are compared. -/
import Derived.Test.YtogbkljoganbhaaRep1T
import Derived.Test.YtogbkljoganbhaaBaseMac
import Derived.Test.YtogbkljoganbhaaGxRep
import Derived.Test.YtogbkljoganbhaaGxBuf
set_option linter.unusedVariables false
set_option linter.unusedSimpArgs false
set_option maxRecDepth 100000
namespace Go.Gx.S
open Go Go.Gx Go.Proofs
variable {K : Value → World → Prop} {w : World}

theorem isnan_spec {a : Int} (h : K (.bool false) w) : CallsR Try.prog 36 #[i64 a] K w := by
  apply c36
  unfold p36
  simp only [push_cast, Nat.reduceAdd, Nat.reduceLeDiff, Nat.reduceLT, Int.reduceToNat, Nat.left_eq_add, Nat.add_eq_left, Nat.add_left_cancel_iff, Nat.reduceEqDiff, Nat.add_assoc, Nat.succ_ne_zero]
  have : (a != a) = false := by simp
  rw [this]; exact h

theorem ccmp_spec {a b : Int} (h : K (i64 (cmpI a b)) w) : CallsR Try.prog 28 #[i64 a, i64 b] K w := by
  apply c28
  unfold p28
  simp only [push_cast, Nat.reduceAdd, Nat.reduceLeDiff, Nat.reduceLT, Int.reduceToNat, Nat.left_eq_add, Nat.add_eq_left, Nat.add_left_cancel_iff, Nat.reduceEqDiff, Nat.add_assoc, Nat.succ_ne_zero]
  refine isnan_spec ?_
  refine isnan_spec ?_
  simp only [push_cast, Nat.reduceAdd, Nat.reduceLeDiff, Nat.reduceLT, Int.reduceToNat, Nat.left_eq_add, Nat.add_eq_left, Nat.add_left_cancel_iff, Nat.reduceEqDiff, Nat.add_assoc, Nat.succ_ne_zero]
  unfold cmpI at h
  refine br_dec (fun h1 => ?_) fun h1 => ?_
  · rw [if_pos h1] at h; exact h
  · rw [if_neg h1] at h
    refine br_dec (fun h2 => ?_) fun h2 => ?_
    · rw [if_pos h2] at h; exact h
    · rw [if_neg (by omega)] at h; exact h

/-- the first that is not zero -/
def orL : List Int → Int
  | [] => 0
  | x :: l => if x ≠ 0 then x else orL l

theorem orL_cons (x : Int) (l : List Int) : orL (x :: l) = if x ≠ 0 then x else orL l := id rfl

theorem cor_spec {v : Value} {l : List Int} (hv : RdE 1 w v (l.map cellI)) (hl : l.length < 2 ^ 62) (h : K (i64 (orL l)) w) : CallsR Try.prog 27 #[v] K w := by
  apply c27
  unfold p27
  obtain ⟨a, c, rfl⟩ := hv.form
  rw [List.length_map] at hv ⊢
  simp only [push_cast, Nat.reduceAdd, Nat.reduceLeDiff, Nat.reduceLT, Int.reduceToNat, Nat.left_eq_add, Nat.add_eq_left, Nat.add_left_cancel_iff, Nat.reduceEqDiff, Nat.add_assoc, Nat.succ_ne_zero]
  refine jn0 (fun w' => w' = w ∧ orL l = 0) (fun w' ⟨e, e2⟩ => by rw [e]; rw [e2] at h; exact h) fun j hj => ?_
  refine loop1 (fun n v' w' => ∃ i : Nat, v' = i64 i ∧ n + i = l.length ∧ w' = w ∧ orL l = orL (l.drop i)) ?_ l.length ⟨0, rfl, rfl, rfl, rfl⟩
  rintro n v' w' X ⟨i, rfl, hi, rfl, ho⟩ hX
  simp only [push_cast, Nat.reduceAdd, Nat.reduceLeDiff, Nat.reduceLT, Int.reduceToNat, Nat.left_eq_add, Nat.add_eq_left, Nat.add_left_cancel_iff, Nat.reduceEqDiff, Nat.add_assoc, Nat.succ_ne_zero]
  refine br_dec (fun hlt => ?_) fun hge => ?_
  · have hil : i < l.length := by omega
    refine s_iaE hv (by omega) (by simpa using hil) fun b o c _ he => ?_
    simp only [push_cast, Nat.reduceAdd, Nat.reduceLeDiff, Nat.reduceLT, Int.reduceToNat, Nat.left_eq_add, Nat.add_eq_left, Nat.add_left_cancel_iff, Nat.reduceEqDiff, Nat.add_assoc, Nat.succ_ne_zero]
    rw [he.cell0 (by simp [cellI])]
    simp only [push_cast, Nat.reduceAdd, Nat.reduceLeDiff, Nat.reduceLT, Int.reduceToNat, Nat.left_eq_add, Nat.add_eq_left, Nat.add_left_cancel_iff, Nat.reduceEqDiff, Nat.add_assoc, Nat.succ_ne_zero, List.getElem_map, cellI, Int.toNat_natCast]
    rw [List.drop_eq_getElem_cons hil, orL_cons] at ho
    refine br_intro (fun e => ?_) fun e => ?_
    · rw [if_pos (by simpa using e)] at ho
      rw [ho] at h; exact h
    · rw [if_neg (by simpa using e)] at ho
      rw [wrap_i64 (by omega)]
      exact hX (n - 1) _ _ (by omega) ⟨i + 1, by simp, by omega, rfl, ho⟩
  · rw [List.drop_eq_nil_of_le (by omega)] at ho
    exact hj _ ⟨rfl, ho⟩

theorem bcmp_spec {a b : Value} {x y : List Int} (ha : ByR w a x) (hb : ByR w b y) (h : K (.int .i64 (Extern.BytealgCompare.cmp (strOf x) (strOf y))) w) : CallsR Try.prog 37 #[a, b] K w := by
  apply c37
  unfold p37
  exact s_bytecmp Try.func42 (by kernel_rfl) (by kernel_rfl) (by kernel_rfl) (by kernel_rfl) ha hb h

theorem by_mac {m : Mac} {b : Nat} {T : TypeId} (hb : w.heap[b]? = some (cellsO m.cells T)) (h : m.ok) : ByR w (.slice (some ⟨b, 0, none⟩) 6 6) (macL m) :=
  ⟨⟨.inr ⟨b, 0, 6, _, T, (0, 0), rfl, hb, Nat.le_refl _, by show 0 + 6 * 1 ≤ 6; decide, rfl⟩, by simp [macL, cell1]⟩, macL_ok h⟩

theorem mcmp_spec {a b : Mac} (ha : a.ok) (hb : b.ok) (h : ∀ w', Gr w w' → K (i64 (cmpM a b)) w') : CallsR Try.prog 29 #[.agg a.cells.toArray, .agg b.cells.toArray] K w := by
  apply c29
  unfold p29
  have hG : Gr w ((w.alloc (cellsO a.cells 34)).alloc (cellsO b.cells 34)).drew := ((Gr.refl _).step_alloc _ |>.step_alloc _).step_drew
  have h0 : ((w.alloc (cellsO a.cells 34)).alloc (cellsO b.cells 34)).drew.heap[w.heap.size]? = some (cellsO a.cells 34) := by simp only [push_cast, Nat.reduceAdd, Nat.reduceLeDiff, Nat.reduceLT, Int.reduceToNat, Nat.left_eq_add, Nat.add_eq_left, Nat.add_left_cancel_iff, Nat.reduceEqDiff, Nat.add_assoc, Nat.succ_ne_zero]
  have h1 : ((w.alloc (cellsO a.cells 34)).alloc (cellsO b.cells 34)).drew.heap[w.heap.size + 1]? = some (cellsO b.cells 34) := by simp only [push_cast, Nat.reduceAdd, Nat.reduceLeDiff, Nat.reduceLT, Int.reduceToNat, Nat.left_eq_add, Nat.add_eq_left, Nat.add_left_cancel_iff, Nat.reduceEqDiff, Nat.add_assoc, Nat.succ_ne_zero]
  simp only [push_cast, Nat.reduceAdd, Nat.reduceLeDiff, Nat.reduceLT, Int.reduceToNat, Nat.left_eq_add, Nat.add_eq_left, Nat.add_left_cancel_iff, Nat.reduceEqDiff, Nat.add_assoc, Nat.succ_ne_zero]
  generalize ((w.alloc (cellsO a.cells 34)).alloc (cellsO b.cells 34)).drew = W at *
  simp only [opS_slcA, push_cast, Nat.reduceAdd, Nat.reduceLeDiff, Nat.reduceLT, Int.reduceToNat, Nat.left_eq_add, Nat.add_eq_left, Nat.add_left_cancel_iff, Nat.reduceEqDiff, Nat.add_assoc, Nat.succ_ne_zero]
  refine bcmp_spec (by_mac h0 ha) (by_mac h1 hb) ?_
  rw [cmp_mac ha hb]
  exact h W hG

theorem orL_two (a b : Int) : orL [a, b] = if a ≠ 0 then a else b := by
  rw [orL_cons, orL_cons]
  split
  · rfl
  · split
    · rfl
    · rename_i h; unfold orL; omega

theorem ecmp_spec {a b : Ent} (ha : a.ok) (hb : b.ok) (h : ∀ w', Gr w w' → K (i64 (cmpE a b)) w') : CallsR Try.prog 26 #[.agg a.cells.toArray, .agg b.cells.toArray] K w := by
  apply c26
  unfold p26
  have hG : Gr w ((w.alloc (cellsO a.cells 36)).alloc (cellsO b.cells 36)).drew := ((Gr.refl _).step_alloc _ |>.step_alloc _).step_drew
  have h0 : ((w.alloc (cellsO a.cells 36)).alloc (cellsO b.cells 36)).drew.heap[w.heap.size]? = some (cellsO a.cells 36) := by simp only [push_cast, Nat.reduceAdd, Nat.reduceLeDiff, Nat.reduceLT, Int.reduceToNat, Nat.left_eq_add, Nat.add_eq_left, Nat.add_left_cancel_iff, Nat.reduceEqDiff, Nat.add_assoc, Nat.succ_ne_zero]
  have h1 : ((w.alloc (cellsO a.cells 36)).alloc (cellsO b.cells 36)).drew.heap[w.heap.size + 1]? = some (cellsO b.cells 36) := by simp only [push_cast, Nat.reduceAdd, Nat.reduceLeDiff, Nat.reduceLT, Int.reduceToNat, Nat.left_eq_add, Nat.add_eq_left, Nat.add_left_cancel_iff, Nat.reduceEqDiff, Nat.add_assoc, Nat.succ_ne_zero]
  simp only [push_cast, Nat.reduceAdd, Nat.reduceLeDiff, Nat.reduceLT, Int.reduceToNat, Nat.left_eq_add, Nat.add_eq_left, Nat.add_left_cancel_iff, Nat.reduceEqDiff, Nat.add_assoc, Nat.succ_ne_zero]
  generalize ((w.alloc (cellsO a.cells 36)).alloc (cellsO b.cells 36)).drew = W at *
  -- behind the loads
  have fin : opS Try.prog (S.cl 29 [.agg a.mac.cells.toArray, .agg b.mac.cells.toArray]) (fun x13 => opS Try.prog (S.buildS 81 2 [(0, i64 (cmpI a.vlan b.vlan)), (1, x13)]) fun x14 => opS Try.prog (S.cl 27 [x14]) K) W := by
    simp only [push_cast, Nat.reduceAdd, Nat.reduceLeDiff, Nat.reduceLT, Int.reduceToNat, Nat.left_eq_add, Nat.add_eq_left, Nat.add_left_cancel_iff, Nat.reduceEqDiff, Nat.add_assoc, Nat.succ_ne_zero]
    refine mcmp_spec ha.2.1 hb.2.1 fun w2 hG2 => ?_
    refine s_bs2o (z := .int .i64 0) rfl rfl rfl fun v o hv _ _ => ?_
    simp only [push_cast, Nat.reduceAdd, Nat.reduceLeDiff, Nat.reduceLT, Int.reduceToNat, Nat.left_eq_add, Nat.add_eq_left, Nat.add_left_cancel_iff, Nat.reduceEqDiff, Nat.add_assoc, Nat.succ_ne_zero]
    refine cor_spec (l := [cmpI a.vlan b.vlan, cmpM a.mac b.mac]) hv.rd (by show 2 < 2 ^ 62; decide) ?_
    rw [orL_two]
    exact h _ ((hG.trans hG2).step_alloc _)
  repeat' first
    | exact fin
    | with_reducible refine allW_intro ?_ ?_
    | with_reducible refine ccmp_spec ?_
    | simp only [push_cast, Nat.reduceAdd, Nat.reduceLeDiff, Nat.reduceLT, Int.reduceToNat, Nat.left_eq_add, Nat.add_eq_left, Nat.add_left_cancel_iff, Nat.reduceEqDiff, Nat.add_assoc, Nat.succ_ne_zero, h0, h1]

/-! ### The document's -/

def numL (l : List Int) : Int := l.foldl (fun n x => n * 256 + x) 0
theorem numL_snoc (l : List Int) (x : Int) : numL (l ++ [x]) = numL l * 256 + x := by unfold numL; rw [List.foldl_append]; rfl
theorem numL_mac (m : Mac) : numL (macL m) = macN m := by
  unfold numL macL macN
  simp
theorem numL_range {m : Mac} (h : m.ok) {k : Nat} (hk : k ≤ 6) : 0 ≤ numL ((macL m).take k) ∧ numL ((macL m).take k) < 281474976710656 := by
  obtain ⟨a0, a1, a2, a3, a4, a5⟩ := h
  unfold isB at *
  match k, hk with
  | 0, _ | 1, _ | 2, _ | 3, _ | 4, _ | 5, _ | 6, _ => simp [numL, macL]; try omega
theorem macL_get (m : Mac) {k : Nat} (hk : k < 6) : m.cells[k]? = some (u8 ((macL m).getD k 0)) := by
  match k, hk with
  | 0, _ | 1, _ | 2, _ | 3, _ | 4, _ | 5, _ => rfl
theorem macL_take {m : Mac} {k : Nat} (hk : k < 6) : (macL m).take (k + 1) = (macL m).take k ++ [(macL m).getD k 0] := by
  match k, hk with
  | 0, _ | 1, _ | 2, _ | 3, _ | 4, _ | 5, _ => rfl
theorem macL_at {m : Mac} (h : m.ok) {k : Nat} (hk : k < 6) : isB ((macL m).getD k 0) := by
  obtain ⟨a0, a1, a2, a3, a4, a5⟩ := h
  match k, hk with
  | 0, _ | 1, _ | 2, _ | 3, _ | 4, _ | 5, _ => assumption
theorem wrap_u64 {x : Int} (h0 : 0 ≤ x) (h1 : x < 18446744073709551616) : IntKind.u64.wrap x = x := by
  unfold IntKind.wrap
  have e1 : (2 : Int) ^ IntKind.u64.bits = 18446744073709551616 := rfl
  have e3 : IntKind.u64.signed = false := rfl
  simp only [e1, e3, Bool.false_and, Bool.false_eq_true, if_false]
  omega

theorem rnum_spec {m : Mac} (hm : m.ok) (h : ∀ w', Fr none_ w w' → K (.int .u64 (macN m)) w') : CallsR Try.prog 43 #[.agg m.cells.toArray] K w := by
  apply c43
  unfold p43
  simp only [push_cast, Nat.reduceAdd, Nat.reduceLeDiff, Nat.reduceLT, Int.reduceToNat, Nat.left_eq_add, Nat.add_eq_left, Nat.add_left_cancel_iff, Nat.reduceEqDiff, Nat.add_assoc, Nat.succ_ne_zero]
  have h0 : (w.alloc (cellsO m.cells 34)).heap[w.heap.size]? = some (cellsO m.cells 34) := by simp only [push_cast, Nat.reduceAdd, Nat.reduceLeDiff, Nat.reduceLT, Int.reduceToNat, Nat.left_eq_add, Nat.add_eq_left, Nat.add_left_cancel_iff, Nat.reduceEqDiff, Nat.add_assoc, Nat.succ_ne_zero]
  have hF : Fr none_ w (w.alloc (cellsO m.cells 34)) := (by repeat' first | with_reducible exact Fr.refl _ _ | with_reducible refine Fr.step_alloc ?_ ?_ | with_reducible refine Fr.step_drew ?_ | with_reducible refine Fr.step_wr ?_ ?_ _ _ | exact rfl | exact Or.inr (by omega) | exact Or.inl rfl | exact Or.inl (Or.inl rfl) | exact Or.inl (Or.inr rfl))
  generalize w.alloc (cellsO m.cells 34) = W at *
  refine jn1 (fun v w' => v = .int .u64 (macN m) ∧ w' = W) (fun v w' ⟨e1, e2⟩ => by rw [e1, e2]; exact h _ hF) fun j hj => ?_
  refine loop2 (fun n x y w' => ∃ k : Nat, k ≤ 6 ∧ n = 6 - k ∧ y = i64 k ∧ x = .int .u64 (numL ((macL m).take k)) ∧ w' = W) ?_ 6 ⟨0, by omega, rfl, rfl, rfl, rfl⟩
  rintro n x y w' X ⟨k, hk, rfl, rfl, rfl, rfl⟩ hX
  simp only [push_cast, Nat.reduceAdd, Nat.reduceLeDiff, Nat.reduceLT, Int.reduceToNat, Nat.left_eq_add, Nat.add_eq_left, Nat.add_left_cancel_iff, Nat.reduceEqDiff, Nat.add_assoc, Nat.succ_ne_zero]
  refine br_dec (fun hlt => ?_) fun hge => ?_
  · have hk6 : k < 6 := by omega
    have hr := numL_range hm hk
    have hr2 := numL_range hm (show k + 1 ≤ 6 by omega)
    have hb := macL_at hm hk6
    rw [wrap_u64 (by omega) (by omega), opS_iaA w.heap.size 0 .i64 (k : Int) (by omega)]
    simp only [push_cast, Nat.reduceAdd, Nat.reduceLeDiff, Nat.reduceLT, Int.reduceToNat, Nat.left_eq_add, Nat.add_eq_left, Nat.add_left_cancel_iff, Nat.reduceEqDiff, Nat.add_assoc, Nat.succ_ne_zero, h0, Int.toNat_natCast, Nat.mul_one]
    rw [macL_get m hk6]
    simp only [push_cast, Nat.reduceAdd, Nat.reduceLeDiff, Nat.reduceLT, Int.reduceToNat, Nat.left_eq_add, Nat.add_eq_left, Nat.add_left_cancel_iff, Nat.reduceEqDiff, Nat.add_assoc, Nat.succ_ne_zero]
    rw [macL_take hk6, numL_snoc] at hr2
    unfold isB at hb
    rw [wrap_u64 (x := (macL m).getD k 0) (by omega) (by omega), wrap_u64 (by omega) (by omega), wrap_i64 (by omega)]
    refine hX (6 - (k + 1)) _ _ _ (by omega) ⟨k + 1, by omega, rfl, by simp, ?_, rfl⟩
    rw [macL_take hk6, numL_snoc]
  · have : k = 6 := by omega
    subst this
    exact hj _ _ ⟨by rw [← numL_mac]; rfl, rfl⟩

theorem rcmp_spec {a b : Mac} (ha : a.ok) (hb : b.ok) (h : ∀ w', Fr none_ w w' → K (i64 (cmpM a b)) w') : CallsR Try.prog 38 #[.agg a.cells.toArray, .agg b.cells.toArray] K w := by
  apply c38
  unfold p38
  have hF : Fr none_ w ((w.alloc (cellsO a.cells 34)).alloc (cellsO b.cells 34)) := (by repeat' first | with_reducible exact Fr.refl _ _ | with_reducible refine Fr.step_alloc ?_ ?_ | with_reducible refine Fr.step_drew ?_ | with_reducible refine Fr.step_wr ?_ ?_ _ _ | exact rfl | exact Or.inr (by omega) | exact Or.inl rfl | exact Or.inl (Or.inl rfl) | exact Or.inl (Or.inr rfl))
  have h1 : ((w.alloc (cellsO a.cells 34)).alloc (cellsO b.cells 34)).heap[w.heap.size + 1]? = some (cellsO b.cells 34) := by simp only [push_cast, Nat.reduceAdd, Nat.reduceLeDiff, Nat.reduceLT, Int.reduceToNat, Nat.left_eq_add, Nat.add_eq_left, Nat.add_left_cancel_iff, Nat.reduceEqDiff, Nat.add_assoc, Nat.succ_ne_zero]
  simp only [push_cast, Nat.reduceAdd, Nat.reduceLeDiff, Nat.reduceLT, Int.reduceToNat, Nat.left_eq_add, Nat.add_eq_left, Nat.add_left_cancel_iff, Nat.reduceEqDiff, Nat.add_assoc, Nat.succ_ne_zero]
  generalize ((w.alloc (cellsO a.cells 34)).alloc (cellsO b.cells 34)) = W at *
  refine rnum_spec ha fun w2 hF2 => ?_
  have h2 := hF2.heap h1 fun h => h
  simp only [push_cast, Nat.reduceAdd, Nat.reduceLeDiff, Nat.reduceLT, Int.reduceToNat, Nat.left_eq_add, Nat.add_eq_left, Nat.add_left_cancel_iff, Nat.reduceEqDiff, Nat.add_assoc, Nat.succ_ne_zero, h2]
  refine rnum_spec hb fun w3 hF3 => ?_
  have hF' := (hF.trans hF2).trans hF3
  have h' := h _ hF'
  unfold cmpM cmpI at h'
  simp only [push_cast, Nat.reduceAdd, Nat.reduceLeDiff, Nat.reduceLT, Int.reduceToNat, Nat.left_eq_add, Nat.add_eq_left, Nat.add_left_cancel_iff, Nat.reduceEqDiff, Nat.add_assoc, Nat.succ_ne_zero]
  refine br_dec (fun h1 => ?_) fun h1 => ?_
  · rw [if_pos h1] at h'; exact h'
  · rw [if_neg h1] at h'
    refine br_dec (fun h2 => ?_) fun h2 => ?_
    · rw [if_pos h2] at h'; exact h'
    · rw [if_neg (by omega)] at h'; exact h'

end Go.Gx.S
