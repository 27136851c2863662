/- A table of stations: its places. -/
import Derived.Test.YtclkdldkebjgpaaFdbAT
import Derived.Test.YtclkdldkebjgpaaBaseEnt
import Derived.Test.YtclkdldkebjgpaaGxFdb
import Derived.Test.YtclkdldkebjgpaaGxBuf
set_option linter.unusedVariables false
set_option linter.unusedSimpArgs false
set_option maxRecDepth 100000
namespace Go.Gx.S
open Go Go.Gx Go.Proofs
variable {K : Value → World → Prop} {w : World}

/-! ### Bits -/

def orU (a b : Int) : Int := IntKind.u64.wrap ((BitVec.ofInt 64 a ||| BitVec.ofInt 64 b).toNat : Int)
def xorU (a b : Int) : Int := IntKind.u64.wrap ((BitVec.ofInt 64 a ^^^ BitVec.ofInt 64 b).toNat : Int)
theorem s_orU (a b : Int) : opS Try.prog (S.binI .or (.int .u64 a) (.int .u64 b)) K w = K (.int .u64 (orU a b)) w := by
  unfold S.binI
  simp only []
  have : (binOp .or 0 (.int .u64 a) (.int .u64 b)).run Try.prog w = .ok (.int .u64 (orU a b)) w := id rfl
  rw [opS_bind, this]
theorem s_xorU (a b : Int) : opS Try.prog (S.binI .xor (.int .u64 a) (.int .u64 b)) K w = K (.int .u64 (xorU a b)) w := by
  unfold S.binI
  simp only []
  have : (binOp .xor 0 (.int .u64 a) (.int .u64 b)).run Try.prog w = .ok (.int .u64 (xorU a b)) w := id rfl
  rw [opS_bind, this]
theorem s_and1 {x : Int} (h : isB x) : opS Try.prog (S.binI .and (.int .u8 x) (.int .u8 1)) K w = K (.int .u8 (x % 2)) w := by
  unfold isB at h
  obtain ⟨a, rfl⟩ := Int.eq_ofNat_of_zero_le (show 0 ≤ x by omega)
  unfold S.binI
  simp only []
  have e : (BitVec.ofInt 8 (a : Int) &&& BitVec.ofInt 8 1).toNat = a % 2 := by
    rw [ofInt_nat (by omega), ofInt_nat (by omega), BitVec.toNat_and]
    simp only [Int.toNat_natCast, BitVec.toNat_ofNat]
    rw [Nat.mod_eq_of_lt (by omega)]
    exact Nat.and_one_is_mod a
  have : (binOp .and 0 (.int .u8 (a : Int)) (.int .u8 1)).run Try.prog w = .ok (.int .u8 ((a : Int) % 2)) w := by
    show (Op.intBits .and .u8 (a : Int) 1).run Try.prog w = _
    unfold Op.intBits
    show Result.ok (Value.int .u8 (IntKind.u8.wrap ((BitVec.ofInt 8 (a : Int) &&& BitVec.ofInt 8 1).toNat : Int))) w = _
    rw [e, wrap_u8]
    congr 2
    omega
  rw [opS_bind, this]

/-! ### The hash -/

def numP (l : List Int) : Int := l.foldl (fun n x => orU (IntKind.u64.wrap (n * 2 ^ 8)) (IntKind.u64.wrap x)) 0
theorem numP_snoc (l : List Int) (x : Int) : numP (l ++ [x]) = orU (IntKind.u64.wrap (numP l * 2 ^ 8)) (IntKind.u64.wrap x) := by unfold numP; rw [List.foldl_append]; rfl
theorem macL_get' (m : Mac) {k : Nat} (hk : k < 6) : m.cells[k]? = some (u8 ((macL m).getD k 0)) := by
  match k, hk with
  | 0, _ | 1, _ | 2, _ | 3, _ | 4, _ | 5, _ => rfl
theorem macL_take' {m : Mac} {k : Nat} (hk : k < 6) : (macL m).take (k + 1) = (macL m).take k ++ [(macL m).getD k 0] := by
  match k, hk with
  | 0, _ | 1, _ | 2, _ | 3, _ | 4, _ | 5, _ => rfl
theorem shl8 (x : Int) : opS Try.prog (S.binI .shl (.int .u64 x) (.int .u64 8)) K w = K (.int .u64 (IntKind.u64.wrap (x * 2 ^ 8))) w := opS_shl .u64 .u64 x 8 (by decide)
theorem shl48 (x : Int) : opS Try.prog (S.binI .shl (.int .u64 x) (.int .u64 48)) K w = K (.int .u64 (IntKind.u64.wrap (x * 2 ^ 48))) w := opS_shl .u64 .u64 x 48 (by decide)
theorem shr33 (x : Int) : opS Try.prog (S.binI .shr (.int .u64 x) (.int .u64 33)) K w = K (.int .u64 (x / 2 ^ 33)) w := opS_shr .u64 .u64 x 33 (by decide)

theorem pnum_spec {m : Mac} (h : ∀ w', Fr none_ w w' → K (.int .u64 (numP (macL m))) w') : CallsR Try.prog 113 #[.agg m.cells.toArray] K w := by
  apply c113
  unfold p113
  simp only [push_cast, Nat.reduceAdd, Nat.reduceLeDiff, Nat.reduceLT, Int.reduceToNat, Nat.left_eq_add, Nat.add_eq_left, Nat.add_left_cancel_iff, Nat.reduceEqDiff, Nat.add_assoc, Nat.succ_ne_zero]
  have h0 : (w.alloc (cellsO m.cells 34)).heap[w.heap.size]? = some (cellsO m.cells 34) := by simp only [push_cast, Nat.reduceAdd, Nat.reduceLeDiff, Nat.reduceLT, Int.reduceToNat, Nat.left_eq_add, Nat.add_eq_left, Nat.add_left_cancel_iff, Nat.reduceEqDiff, Nat.add_assoc, Nat.succ_ne_zero]
  have hF : Fr none_ w (w.alloc (cellsO m.cells 34)) := (by repeat' first | with_reducible exact Fr.refl _ _ | with_reducible refine Fr.step_alloc ?_ ?_ | with_reducible refine Fr.step_drew ?_ | with_reducible refine Fr.step_wr ?_ ?_ _ _ | exact rfl | exact Or.inr (by omega) | exact Or.inl rfl | exact Or.inl (Or.inl rfl) | exact Or.inl (Or.inr rfl))
  generalize w.alloc (cellsO m.cells 34) = W at *
  refine jn1 (fun v w' => v = .int .u64 (numP (macL m)) ∧ w' = W) (fun v w' ⟨e1, e2⟩ => by rw [e1, e2]; exact h _ hF) fun j hj => ?_
  refine loop2 (fun n x y w' => ∃ k : Nat, k ≤ 6 ∧ n = 6 - k ∧ y = i64 k ∧ x = .int .u64 (numP ((macL m).take k)) ∧ w' = W) ?_ 6 ⟨0, by omega, rfl, rfl, rfl, rfl⟩
  rintro n x y w' X ⟨k, hk, rfl, rfl, rfl, rfl⟩ hX
  simp only [push_cast, Nat.reduceAdd, Nat.reduceLeDiff, Nat.reduceLT, Int.reduceToNat, Nat.left_eq_add, Nat.add_eq_left, Nat.add_left_cancel_iff, Nat.reduceEqDiff, Nat.add_assoc, Nat.succ_ne_zero]
  refine br_dec (fun hlt => ?_) fun hge => ?_
  · have hk6 : k < 6 := by omega
    rw [shl8, opS_iaA w.heap.size 0 .i64 (k : Int) (by omega)]
    simp only [push_cast, Nat.reduceAdd, Nat.reduceLeDiff, Nat.reduceLT, Int.reduceToNat, Nat.left_eq_add, Nat.add_eq_left, Nat.add_left_cancel_iff, Nat.reduceEqDiff, Nat.add_assoc, Nat.succ_ne_zero, h0, Int.toNat_natCast, Nat.mul_one]
    rw [macL_get' m hk6]
    simp only [push_cast, Nat.reduceAdd, Nat.reduceLeDiff, Nat.reduceLT, Int.reduceToNat, Nat.left_eq_add, Nat.add_eq_left, Nat.add_left_cancel_iff, Nat.reduceEqDiff, Nat.add_assoc, Nat.succ_ne_zero]
    rw [s_orU]
    simp only [push_cast, Nat.reduceAdd, Nat.reduceLeDiff, Nat.reduceLT, Int.reduceToNat, Nat.left_eq_add, Nat.add_eq_left, Nat.add_left_cancel_iff, Nat.reduceEqDiff, Nat.add_assoc, Nat.succ_ne_zero]
    rw [wrap_i64 (by omega)]
    refine hX (6 - (k + 1)) _ _ _ (by omega) ⟨k + 1, by omega, rfl, by simp, ?_, rfl⟩
    rw [macL_take' hk6, numP_snoc]
  · have : k = 6 := by omega
    subst this
    exact hj _ _ ⟨rfl, rfl⟩

def hashI (k : Key) : Int := IntKind.u64.wrap (xorU (numP (macL k.2)) (IntKind.u64.wrap (IntKind.u64.wrap k.1 * 2 ^ 48)) * 11400714819323198485) / 2 ^ 33
theorem wrapU_range (x : Int) : 0 ≤ IntKind.u64.wrap x ∧ IntKind.u64.wrap x < 18446744073709551616 := by
  unfold IntKind.wrap
  have e1 : (2 : Int) ^ IntKind.u64.bits = 18446744073709551616 := rfl
  have e3 : IntKind.u64.signed = false := rfl
  simp only [e1, e3, Bool.false_and, Bool.false_eq_true, if_false]
  omega
theorem hashI_range (k : Key) : 0 ≤ hashI k ∧ hashI k < 2147483648 := by
  have h := wrapU_range (xorU (numP (macL k.2)) (IntKind.u64.wrap (IntKind.u64.wrap k.1 * 2 ^ 48)) * 11400714819323198485)
  unfold hashI
  generalize IntKind.u64.wrap _ = y at *
  omega
def hmF (n : Nat) (k : Key) : Nat := (hashI k).toNat % n

/-! ### The table -/

/-- a table's blocks: so many entries are said to be in these places -/
structure FB (w : World) (p pb o c : Nat) (ps : List Ent) (m : Nat) : Prop where
  blk : w.heap[p]? = some (cellsO [.slice (some ⟨pb, o, none⟩) ps.length c, i64 m] 69)
  own : OwnE 40 10 w (.slice (some ⟨pb, o, none⟩) ps.length c) (ps.map Ent.cells)
  ne : p ≠ pb
  ok : ∀ e ∈ ps, e.ok

theorem FB.fr {fp : Nat → Prop} {w w' : World} {p pb o c : Nat} {ps : List Ent} {m : Nat} (h : FB w p pb o c ps m) (hf : Fr fp w w') (h1 : ¬ fp p) (h2 : ¬ fp pb) : FB w' p pb o c ps m :=
  ⟨hf.heap h.blk h1, h.own.fr hf (fun b hb => by cases hb; exact h2), h.ne, h.ok⟩
theorem FB.fr0 {w w' : World} {p pb o c : Nat} {ps : List Ent} {m : Nat} (h : FB w p pb o c ps m) (hf : Fr none_ w w') : FB w' p pb o c ps m := h.fr hf (fun h => h) fun h => h
theorem FB.lt {w : World} {p pb o c : Nat} {ps : List Ent} {m : Nat} (h : FB w p pb o c ps m) : p < w.heap.size ∧ pb < w.heap.size := ⟨lt_of_heap h.blk, h.own.lt (b := pb) rfl⟩
theorem FB.rd {w : World} {p pb o c : Nat} {ps : List Ent} {m : Nat} (h : FB w p pb o c ps m) : RdE 10 w (.slice (some ⟨pb, o, none⟩) ps.length c) (ps.map Ent.cells) := h.own.rd

theorem home_spec {p pb o c : Nat} {ps : List Ent} {m : Nat} {k : Key} (hb : FB w p pb o c ps m) (hn : 0 < ps.length) (h : ∀ w', Fr none_ w w' → K (i64 (hmF ps.length k)) w') :
    CallsR Try.prog 74 #[pt p 0, i64 k.1, .agg k.2.cells.toArray] K w := by
  apply c74
  unfold p74
  simp only [push_cast, Nat.reduceAdd, Nat.reduceLeDiff, Nat.reduceLT, Int.reduceToNat, Nat.left_eq_add, Nat.add_eq_left, Nat.add_left_cancel_iff, Nat.reduceEqDiff, Nat.add_assoc, Nat.succ_ne_zero]
  have hF : Fr none_ w (w.alloc (cellsO k.2.cells 34)) := (by repeat' first | with_reducible exact Fr.refl _ _ | with_reducible refine Fr.step_alloc ?_ ?_ | with_reducible refine Fr.step_drew ?_ | with_reducible refine Fr.step_wr ?_ ?_ _ _ | exact rfl | exact Or.inr (by omega) | exact Or.inl rfl | exact Or.inl (Or.inl rfl) | exact Or.inl (Or.inr rfl))
  replace hb := hb.fr0 hF
  generalize w.alloc (cellsO k.2.cells 34) = W at *
  refine pnum_spec fun w2 hF2 => ?_
  replace hb := hb.fr0 hF2
  simp only [push_cast, Nat.reduceAdd, Nat.reduceLeDiff, Nat.reduceLT, Int.reduceToNat, Nat.left_eq_add, Nat.add_eq_left, Nat.add_left_cancel_iff, Nat.reduceEqDiff, Nat.add_assoc, Nat.succ_ne_zero]
  rw [shl48, s_xorU]
  simp only [push_cast, Nat.reduceAdd, Nat.reduceLeDiff, Nat.reduceLT, Int.reduceToNat, Nat.left_eq_add, Nat.add_eq_left, Nat.add_left_cancel_iff, Nat.reduceEqDiff, Nat.add_assoc, Nat.succ_ne_zero]
  rw [shr33]
  simp only [push_cast, Nat.reduceAdd, Nat.reduceLeDiff, Nat.reduceLT, Int.reduceToNat, Nat.left_eq_add, Nat.add_eq_left, Nat.add_left_cancel_iff, Nat.reduceEqDiff, Nat.add_assoc, Nat.succ_ne_zero, hb.blk]
  have hr := hashI_range k
  have he : hashI k = IntKind.u64.wrap (xorU (numP (macL k.2)) (IntKind.u64.wrap (IntKind.u64.wrap k.1 * 2 ^ 48)) * 11400714819323198485) / 2 ^ 33 := rfl
  rw [← he, wrap_i64 (by omega), opS_rem _ _ _ (by omega)]
  have hh : (hashI k).tmod (ps.length : Int) = (hmF ps.length k : Nat) := by
    obtain ⟨a, ha⟩ := Int.eq_ofNat_of_zero_le hr.1
    unfold hmF
    rw [ha]
    simp only [Int.toNat_natCast]
    rfl
  rw [hh]
  exact h _ (hF.trans hF2)

theorem next_spec {p pb o c : Nat} {ps : List Ent} {m i : Nat} (hb : FB w p pb o c ps m) (hn : 0 < ps.length) (hi : i < 2 ^ 30) (h : K (i64 ((i + 1) % ps.length : Nat)) w) :
    CallsR Try.prog 75 #[pt p 0, i64 i] K w := by
  apply c75
  unfold p75
  simp only [push_cast, Nat.reduceAdd, Nat.reduceLeDiff, Nat.reduceLT, Int.reduceToNat, Nat.left_eq_add, Nat.add_eq_left, Nat.add_left_cancel_iff, Nat.reduceEqDiff, Nat.add_assoc, Nat.succ_ne_zero, hb.blk]
  rw [wrap_i64 (by omega), opS_rem _ _ _ (by omega)]
  exact h

theorem full_spec {p pb o c : Nat} {ps : List Ent} {m : Nat} (hb : FB w p pb o c ps m) (hm : m < 2 ^ 30) (h : ∀ w', Fr none_ w w' → K (.bool (decide ((2 * m : Nat) ≥ ps.length))) w') :
    CallsR Try.prog 35 #[pt p 0] K w := by
  apply c35
  unfold p35
  simp only [push_cast, Nat.reduceAdd, Nat.reduceLeDiff, Nat.reduceLT, Int.reduceToNat, Nat.left_eq_add, Nat.add_eq_left, Nat.add_left_cancel_iff, Nat.reduceEqDiff, Nat.add_assoc, Nat.succ_ne_zero, hb.blk]
  rw [wrap_i64 (by omega)]
  have : decide ((2 : Int) * m ≥ ps.length) = decide ((2 * m : Nat) ≥ ps.length) := decide_eq_decide.2 (by omega)
  rw [this]
  exact h _ (Fr.drew _)

/-! ### What may be -/

def grp (m : Mac) : Bool := (macL m).getD 0 0 % 2 == 1
theorem pgroup_spec {m : Mac} (hm : m.ok) (h : ∀ w', Fr none_ w w' → K (.bool (grp m)) w') : CallsR Try.prog 73 #[.agg m.cells.toArray] K w := by
  apply c73
  unfold p73
  simp only [push_cast, Nat.reduceAdd, Nat.reduceLeDiff, Nat.reduceLT, Int.reduceToNat, Nat.left_eq_add, Nat.add_eq_left, Nat.add_left_cancel_iff, Nat.reduceEqDiff, Nat.add_assoc, Nat.succ_ne_zero]
  have h0 : (w.alloc (cellsO m.cells 34)).heap[w.heap.size]? = some (cellsO m.cells 34) := by simp only [push_cast, Nat.reduceAdd, Nat.reduceLeDiff, Nat.reduceLT, Int.reduceToNat, Nat.left_eq_add, Nat.add_eq_left, Nat.add_left_cancel_iff, Nat.reduceEqDiff, Nat.add_assoc, Nat.succ_ne_zero]
  rw [opS_iaA w.heap.size 0 .i64 0 (by decide)]
  simp only [push_cast, Nat.reduceAdd, Nat.reduceLeDiff, Nat.reduceLT, Int.reduceToNat, Nat.left_eq_add, Nat.add_eq_left, Nat.add_left_cancel_iff, Nat.reduceEqDiff, Nat.add_assoc, Nat.succ_ne_zero, h0, Int.toNat_zero, Nat.zero_mul]
  rw [macL_get' m (by decide)]
  simp only [push_cast, Nat.reduceAdd, Nat.reduceLeDiff, Nat.reduceLT, Int.reduceToNat, Nat.left_eq_add, Nat.add_eq_left, Nat.add_left_cancel_iff, Nat.reduceEqDiff, Nat.add_assoc, Nat.succ_ne_zero]
  rw [s_and1 (macL_ok hm _ (by simp [macL]))]
  simp only [push_cast, Nat.reduceAdd, Nat.reduceLeDiff, Nat.reduceLT, Int.reduceToNat, Nat.left_eq_add, Nat.add_eq_left, Nat.add_left_cancel_iff, Nat.reduceEqDiff, Nat.add_assoc, Nat.succ_ne_zero]
  exact h _ (by repeat' first | with_reducible exact Fr.refl _ _ | with_reducible refine Fr.step_alloc ?_ ?_ | with_reducible refine Fr.step_drew ?_ | with_reducible refine Fr.step_wr ?_ ?_ _ _ | exact rfl | exact Or.inr (by omega) | exact Or.inl rfl | exact Or.inl (Or.inl rfl) | exact Or.inl (Or.inr rfl))
def rightB (v : Int) (m : Mac) (p : Int) : Bool := decide (1 ≤ v) && (decide (v ≤ 4094) && (decide (0 ≤ p) && (decide (p ≤ 1000) && !(grp m))))
theorem right_spec {v p : Int} {m : Mac} (hm : m.ok) (h : ∀ w', Fr none_ w w' → K (.bool (rightB v m p)) w') : CallsR Try.prog 32 #[i64 v, .agg m.cells.toArray, i64 p] K w := by
  apply c32
  unfold p32
  have hF : Fr none_ w (w.alloc (cellsO m.cells 34)) := (by repeat' first | with_reducible exact Fr.refl _ _ | with_reducible refine Fr.step_alloc ?_ ?_ | with_reducible refine Fr.step_drew ?_ | with_reducible refine Fr.step_wr ?_ ?_ _ _ | exact rfl | exact Or.inr (by omega) | exact Or.inl rfl | exact Or.inl (Or.inl rfl) | exact Or.inl (Or.inr rfl))
  have h' := h _ hF
  simp only [push_cast, Nat.reduceAdd, Nat.reduceLeDiff, Nat.reduceLT, Int.reduceToNat, Nat.left_eq_add, Nat.add_eq_left, Nat.add_left_cancel_iff, Nat.reduceEqDiff, Nat.add_assoc, Nat.succ_ne_zero]
  unfold rightB at h'
  refine br_dec (fun h1 => ?_) fun h1 => ?_
  case refine_2 => rw [decide_eq_false (show ¬ 1 ≤ v from h1)] at h'; exact h'
  refine br_dec (fun h2 => ?_) fun h2 => ?_
  case refine_2 => rw [decide_eq_false (show ¬ v ≤ 4094 from h2), Bool.false_and, Bool.and_false] at h'; exact h'
  refine br_dec (fun h3 => ?_) fun h3 => ?_
  case refine_2 => rw [decide_eq_false (show ¬ 0 ≤ p from h3), Bool.false_and, Bool.and_false, Bool.and_false] at h'; exact h'
  refine br_dec (fun h4 => ?_) fun h4 => ?_
  case refine_2 => rw [decide_eq_false (show ¬ p ≤ 1000 from h4), Bool.false_and, Bool.and_false, Bool.and_false, Bool.and_false] at h'; exact h'
  refine pgroup_spec hm fun w2 hF2 => ?_
  simp only [push_cast, Nat.reduceAdd, Nat.reduceLeDiff, Nat.reduceLT, Int.reduceToNat, Nat.left_eq_add, Nat.add_eq_left, Nat.add_left_cancel_iff, Nat.reduceEqDiff, Nat.add_assoc, Nat.succ_ne_zero]
  have h2' := h _ (hF.trans hF2)
  unfold rightB at h2'
  rw [decide_eq_true (show 1 ≤ v from h1), decide_eq_true (show v ≤ 4094 from h2), decide_eq_true (show 0 ≤ p from h3), decide_eq_true (show p ≤ 1000 from h4), Bool.true_and, Bool.true_and, Bool.true_and, Bool.true_and] at h2'
  exact h2'
def timedB (t : Int) : Bool := decide (0 ≤ t) && decide (t ≤ 1099511627776)
theorem timed_spec {t : Int} (h : K (.bool (timedB t)) w) : CallsR Try.prog 33 #[i64 t] K w := by
  apply c33
  unfold p33
  unfold timedB at h
  simp only [push_cast, Nat.reduceAdd, Nat.reduceLeDiff, Nat.reduceLT, Int.reduceToNat, Nat.left_eq_add, Nat.add_eq_left, Nat.add_left_cancel_iff, Nat.reduceEqDiff, Nat.add_assoc, Nat.succ_ne_zero]
  refine br_dec (fun h1 => ?_) fun h1 => ?_
  · rw [decide_eq_true (show 0 ≤ t from h1), Bool.true_and] at h; exact h
  · rw [decide_eq_false (show ¬ 0 ≤ t from h1), Bool.false_and] at h; exact h

/-- what an entry of a table is like -/
def RngE (e : Ent) : Prop := rightB e.vlan e.mac e.port = true ∧ timedB e.at_ = true ∧ (e.static = true → e.at_ = 0)

end Go.Gx.S

namespace Go.Gx.S
open Go Go.Gx Go.Proofs
variable {K : Value → World → Prop} {w : World}

theorem zE_ok : zE.ok := ⟨isI_iff.2 (by decide), by simp [zE, zMac, Mac.ok, isB], isI_iff.2 (by decide), isI_iff.2 (by decide)⟩
theorem build_zE : opS Try.prog (S.build 40 []) K w = K (.agg zE.cells.toArray) w := by
  rw [opS_build _ rfl]; rfl
theorem build_lrn (v p t : Int) (m : Mac) : opS Try.prog (S.build 40 [(0, i64 v), (1, .agg m.cells.toArray), (2, i64 p), (3, i64 t)]) K w = K (.agg (Ent.cells ⟨v, m, p, t, false⟩).toArray) w := by
  rw [opS_build _ rfl]; rfl
theorem build_put (v p : Int) (m : Mac) : opS Try.prog (S.build 40 [(0, i64 v), (1, .agg m.cells.toArray), (2, i64 p), (4, .bool true)]) K w = K (.agg (Ent.cells ⟨v, m, p, 0, true⟩).toArray) w := by
  rw [opS_build _ rfl]; rfl
theorem zalloc_ent : opS Try.prog (S.alloc 40) K w = K (pt w.heap.size 0) (w.alloc (cellsO zE.cells 40)) := by
  rw [opS_alloc]; rfl
theorem ent_slot {g : Ent} {R : Value → Value → World → Prop} (h : ∀ u w', w'.heap[w.heap.size]? = some (cellsO g.cells 40) → Fr none_ w w' → R (pt w.heap.size 0) u w') :
    opS Try.prog (S.alloc 40) (fun x => opS Try.prog (S.st 40 x (.agg g.cells.toArray)) (R x)) w := by
  rw [zalloc_ent, s_stA _ _ _ (Ent.cells_length g) (Ent.cells_one g)]
  simp only [push_cast, Nat.reduceAdd, Nat.reduceLeDiff, Nat.reduceLT, Int.reduceToNat, Nat.left_eq_add, Nat.add_eq_left, Nat.add_left_cancel_iff, Nat.reduceEqDiff, Nat.add_assoc, Nat.succ_ne_zero]
  refine h _ _ ?_ (Fr.step_wr (Fr.step_alloc (Fr.refl _ _) rfl) (.inr (Nat.le_refl _)) _ _)
  simp only [push_cast, Nat.reduceAdd, Nat.reduceLeDiff, Nat.reduceLT, Int.reduceToNat, Nat.left_eq_add, Nat.add_eq_left, Nat.add_left_cancel_iff, Nat.reduceEqDiff, Nat.add_assoc, Nat.succ_ne_zero]

theorem FB.at {p pb o c : Nat} {ps : List Ent} {m i : Nat} (hb : FB w p pb o c ps m) (hi : i < ps.length) {R : Value → World → Prop} (h : ∀ b' o', El w b' o' (pAt ps i).cells → R (pt b' o') w) :
    opS Try.prog (S.ia 30 (.slice (some ⟨pb, o, none⟩) ps.length c) (i64 i)) R w := by
  have hl : (ps.map Ent.cells).length = ps.length := List.length_map _
  have hr := hb.rd
  refine s_iaE hr (by omega) (by rw [hl]; simpa using hi) fun b' o' c' _ he => ?_
  simp only [Int.toNat_natCast, List.getElem_map] at he ⊢
  rw [← pAt_eq hi] at he
  exact h _ _ he
theorem FB.okA {p pb o c : Nat} {ps : List Ent} {m : Nat} (hb : FB w p pb o c ps m) (i : Nat) : (pAt ps i).ok := by
  by_cases h : i < ps.length
  · rw [pAt_eq h]; exact hb.ok _ (List.getElem_mem h)
  · rw [pAt_ge (by omega)]; exact zE_ok

theorem s_put {p pb o c : Nat} {ps : List Ent} {m i : Nat} {x : Ent} {R : Value → World → Prop} (hb : FB w p pb o c ps m) (hi : i < ps.length) (hx : x.ok) (h : ∀ w', FB w' p pb o c (ps.set i x) m → Fr (fun b => b = pb) w w' → R undef w') :
    opS Try.prog (S.ia 30 (.slice (some ⟨pb, o, none⟩) ps.length c) (i64 i)) (fun y => opS Try.prog (S.st 40 y (.agg x.cells.toArray)) R) w := by
  have hl : (ps.map Ent.cells).length = ps.length := List.length_map _
  have ho := hb.own
  rw [← hl] at ho ⊢
  refine s_iaE ho.rd (by omega) (by rw [hl]; simpa using hi) fun b' o' c' hv _ => ?_
  simp only [Value.slice.injEq, Option.some.injEq, Addr.mk.injEq] at hv
  obtain ⟨⟨rfl, rfl, _⟩, _, rfl⟩ := hv
  rw [Int.toNat_natCast]
  obtain ⟨hok, hput⟩ := ho.put (Ent.cells_length x) (by rw [hl]; exact hi)
  rw [s_stA _ _ _ (Ent.cells_length x) (Ent.cells_one x), hok, onB_true]
  refine h _ ⟨?_, ?_, hb.ne, fun e he => ?_⟩ (Fr.step_wr (fp := fun b => b = pb) (Fr.refl _ _) (.inl rfl) _ _)
  · have hne := hb.ne
    rw [List.length_set]
    simp only [push_cast, Nat.reduceAdd, Nat.reduceLeDiff, Nat.reduceLT, Int.reduceToNat, Nat.left_eq_add, Nat.add_eq_left, Nat.add_left_cancel_iff, Nat.reduceEqDiff, Nat.add_assoc, Nat.succ_ne_zero, hne, hb.blk]
  · rw [List.length_set, List.map_set, ← hl]
    exact hput
  · rcases List.mem_or_eq_of_mem_set he with h1 | h1
    · exact hb.ok e h1
    · rw [h1]; exact hx

theorem FB.many {p pb o c : Nat} {ps : List Ent} {m m' : Nat} (hb : FB w p pb o c ps m) : FB (wr w p 1 [i64 m']) p pb o c ps m' := by
  have hne : ¬ pb = p := fun e => hb.ne e.symm
  refine ⟨?_, hb.own.frame fun b hb' => ?_, hb.ne, hb.ok⟩
  · simp only [push_cast, Nat.reduceAdd, Nat.reduceLeDiff, Nat.reduceLT, Int.reduceToNat, Nat.left_eq_add, Nat.add_eq_left, Nat.add_left_cancel_iff, Nat.reduceEqDiff, Nat.add_assoc, Nat.succ_ne_zero, hb.blk]
  · cases hb'
    simp only [push_cast, Nat.reduceAdd, Nat.reduceLeDiff, Nat.reduceLT, Int.reduceToNat, Nat.left_eq_add, Nat.add_eq_left, Nat.add_left_cancel_iff, Nat.reduceEqDiff, Nat.add_assoc, Nat.succ_ne_zero, hne]

theorem wk_zero {n h : Nat} (hh : h < n) : wk n h 0 = h := by
  unfold wk
  rw [Nat.add_zero]
  exact Nat.mod_eq_of_lt hh
theorem wk_succ (n h d : Nat) : wk n h (d + 1) = (wk n h d + 1) % n := by
  rw [← wk_wk]
  unfold wk
  rfl
theorem hmF_lt {n : Nat} (hn : 0 < n) (k : Key) : hmF n k < n := by
  unfold hmF
  exact Nat.mod_lt _ hn

theorem pfind_spec {p pb o c : Nat} {ps : List Ent} {m : Nat} {k : Key} (hb : FB w p pb o c ps m) (hn : 0 < ps.length) (hl : ps.length ≤ 4096) (hk : isI k.1 ∧ k.2.ok) (hfree : ∃ e, e < ps.length ∧ pAt ps e = zE)
    (h1 : ∀ d w', pAt ps (wk ps.length (hmF ps.length k) d) ≠ zE → eKey (pAt ps (wk ps.length (hmF ps.length k) d)) = k → Fr none_ w w' → K (.tuple #[i64 (wk ps.length (hmF ps.length k) d : Nat), .bool true]) w')
    (h0 : ∀ d w', Seen ps.length ps (hmF ps.length k) k d → pAt ps (wk ps.length (hmF ps.length k) d) = zE → Fr none_ w w' → K (.tuple #[i64 (wk ps.length (hmF ps.length k) d : Nat), .bool false]) w') :
    CallsR Try.prog 34 #[pt p 0, i64 k.1, .agg k.2.cells.toArray] K w := by
  apply c34
  unfold p34
  simp only [push_cast, Nat.reduceAdd, Nat.reduceLeDiff, Nat.reduceLT, Int.reduceToNat, Nat.left_eq_add, Nat.add_eq_left, Nat.add_left_cancel_iff, Nat.reduceEqDiff, Nat.add_assoc, Nat.succ_ne_zero]
  have hF : Fr none_ w (w.alloc (cellsO k.2.cells 34)) := (by repeat' first | with_reducible exact Fr.refl _ _ | with_reducible refine Fr.step_alloc ?_ ?_ | with_reducible refine Fr.step_drew ?_ | with_reducible refine Fr.step_wr ?_ ?_ _ _ | exact rfl | exact Or.inr (by omega) | exact Or.inl rfl | exact Or.inl (Or.inl rfl) | exact Or.inl (Or.inr rfl))
  have hx0 : (w.alloc (cellsO k.2.cells 34)).heap[w.heap.size]? = some (cellsO k.2.cells 34) := by simp only [push_cast, Nat.reduceAdd, Nat.reduceLeDiff, Nat.reduceLT, Int.reduceToNat, Nat.left_eq_add, Nat.add_eq_left, Nat.add_left_cancel_iff, Nat.reduceEqDiff, Nat.add_assoc, Nat.succ_ne_zero]
  replace hb := hb.fr0 hF
  generalize w.alloc (cellsO k.2.cells 34) = W at *
  refine home_spec (k := k) hb hn fun w2 hF2 => ?_
  replace hb := hb.fr0 hF2
  replace hx0 := hF2.heap hx0 fun h => h
  replace hF := hF.trans hF2
  have hhl : hmF ps.length k < ps.length := hmF_lt hn k
  generalize hmF ps.length k = hh at *
  refine jn2 (fun x y w' => ∃ d, x = i64 (wk ps.length hh d : Nat) ∧ Fr none_ w w' ∧ ((y = .bool true ∧ pAt ps (wk ps.length hh d) ≠ zE ∧ eKey (pAt ps (wk ps.length hh d)) = k) ∨ (y = .bool false ∧ Seen ps.length ps hh k d ∧ pAt ps (wk ps.length hh d) = zE))) ?_ fun j hj => ?_
  · rintro x y w' ⟨d, rfl, hF', ⟨rfl, g1, g2⟩ | ⟨rfl, g1, g2⟩⟩
    · exact h1 d w' g1 g2 hF'
    · exact h0 d w' g1 g2 hF'
  refine loop2 (fun n x y w' => ∃ d, x = i64 (wk ps.length hh d : Nat) ∧ y = .bool false ∧ n = ps.length - d ∧ Seen ps.length ps hh k d ∧ Fr none_ w2 w') ?_ ps.length ⟨0, ?_, rfl, rfl, fun s hs => by omega, Fr.refl _ _⟩
  case refine_2 =>
    rw [wk_zero hhl]
  rintro n x y w3 X ⟨d, rfl, rfl, rfl, hs, hF3⟩ hX
  have hb3 := hb.fr0 hF3
  have hx3 := hF3.heap hx0 fun h => h
  have hi : wk ps.length hh d < ps.length := wk_lt hn _ _
  have hdn := hs.lt hhl hfree
  have hnx := wk_succ ps.length hh d
  simp only [push_cast, Nat.reduceAdd, Nat.reduceLeDiff, Nat.reduceLT, Int.reduceToNat, Nat.left_eq_add, Nat.add_eq_left, Nat.add_left_cancel_iff, Nat.reduceEqDiff, Nat.add_assoc, Nat.succ_ne_zero, hb3.blk]
  refine hb3.at hi fun b1 o1 he => ?_
  rw [s_ldN (by decide), he.agg0 (Ent.cells_length _), onS_some, build_zE]
  have hok := hb3.okA (wk ps.length hh d)
  refine s_neqG (EntT.enc (d := 5) hok) (EntT.enc (d := 5) zE_ok) fun q hq => ?_
  rw [Ent.lits_inj] at hq
  simp only [push_cast, Nat.reduceAdd, Nat.reduceLeDiff, Nat.reduceLT, Int.reduceToNat, Nat.left_eq_add, Nat.add_eq_left, Nat.add_left_cancel_iff, Nat.reduceEqDiff, Nat.add_assoc, Nat.succ_ne_zero]
  refine br_intro (fun hd => ?_) fun hd => hj _ _ _ ⟨d, rfl, hF.trans hF3, .inr ⟨rfl, hs, hq.1 (by simpa using hd)⟩⟩
  have hocc : pAt ps (wk ps.length hh d) ≠ zE := fun e => by rw [hq.2 e] at hd; cases hd
  have hb4 := hb3.fr0 (Fr.drew w3)
  have hx4 := (Fr.drew (fp := none_) w3).heap hx3 fun h => h
  have hF4 : Fr none_ w2 w3.drew := hF3.step_drew
  simp only [push_cast, Nat.reduceAdd, Nat.reduceLeDiff, Nat.reduceLT, Int.reduceToNat, Nat.left_eq_add, Nat.add_eq_left, Nat.add_left_cancel_iff, Nat.reduceEqDiff, Nat.add_assoc, Nat.succ_ne_zero, hb3.blk]
  generalize w3.drew = w4 at *
  refine hb4.at hi fun b1 o1 he => ?_
  have hv := he.cell 0 (by simp [Ent.cells])
  rw [Nat.add_zero] at hv
  simp only [push_cast, Nat.reduceAdd, Nat.reduceLeDiff, Nat.reduceLT, Int.reduceToNat, Nat.left_eq_add, Nat.add_eq_left, Nat.add_left_cancel_iff, Nat.reduceEqDiff, Nat.add_assoc, Nat.succ_ne_zero, hv]
  refine br_intro (fun h2 => ?_) fun h2 => ?_
  case refine_2 =>
    have hne : eKey (pAt ps (wk ps.length hh d)) ≠ k := fun e => by
      rw [← e] at h2
      simp [eKey] at h2
    refine next_spec hb4 hn (by omega) ?_
    rw [← hnx]
    exact hX (ps.length - (d + 1)) _ _ _ (by omega) ⟨d + 1, rfl, rfl, rfl, hs.step hocc hne, hF4⟩
  have h2 : (pAt ps (wk ps.length hh d)).vlan = k.1 := by simpa using h2
  simp only [push_cast, Nat.reduceAdd, Nat.reduceLeDiff, Nat.reduceLT, Int.reduceToNat, Nat.left_eq_add, Nat.add_eq_left, Nat.add_left_cancel_iff, Nat.reduceEqDiff, Nat.add_assoc, Nat.succ_ne_zero, hb4.blk]
  refine hb4.at hi fun b1 o1 he => ?_
  have hm := he.agg 1 6 (by simp [Ent.cells])
  simp only [push_cast, Nat.reduceAdd, Nat.reduceLeDiff, Nat.reduceLT, Int.reduceToNat, Nat.left_eq_add, Nat.add_eq_left, Nat.add_left_cancel_iff, Nat.reduceEqDiff, Nat.add_assoc, Nat.succ_ne_zero, hm, hx4]
  refine s_eqG (MacT.enc (P := Try.prog) (T := 34) (d := 6) hok.2.1) (MacT.enc (P := Try.prog) (T := 34) (d := 6) hk.2) fun r hr => ?_
  rw [Mac.lits_inj] at hr
  simp only [push_cast, Nat.reduceAdd, Nat.reduceLeDiff, Nat.reduceLT, Int.reduceToNat, Nat.left_eq_add, Nat.add_eq_left, Nat.add_left_cancel_iff, Nat.reduceEqDiff, Nat.add_assoc, Nat.succ_ne_zero]
  refine br_intro (fun h3 => ?_) fun h3 => ?_
  · have h3' : (pAt ps (wk ps.length hh d)).mac = k.2 := hr.1 h3
    subst h3
    exact hj _ _ _ ⟨d, rfl, hF.trans hF4, .inl ⟨rfl, hocc, Prod.ext h2 h3'⟩⟩
  · have hne : eKey (pAt ps (wk ps.length hh d)) ≠ k := fun e => by
      have := hr.2 (congrArg Prod.snd e)
      rw [this] at h3
      cases h3
    subst h3
    refine next_spec hb4 hn (by omega) ?_
    rw [← hnx]
    exact hX (ps.length - (d + 1)) _ _ _ (by omega) ⟨d + 1, rfl, rfl, rfl, hs.step hocc hne, hF4⟩

end Go.Gx.S

namespace Go.Gx.S
open Go Go.Gx Go.Proofs
variable {K : Value → World → Prop} {w : World}

/-- a table: room, what it holds -/
structure FT (w : World) (p pb o c room : Nat) (ps r : List Ent) : Prop where
  fb : FB w p pb o c ps r.length
  len : ps.length = 2 * room
  pt : PT (2 * room) (hmF (2 * room)) ps
  ct : CT ps r
  cap : r.length ≤ room
  lo : 1 ≤ room
  hi : room ≤ 1024
  rng : ∀ e ∈ r, RngE e

theorem FT.fr {fp : Nat → Prop} {w w' : World} {p pb o c room : Nat} {ps r : List Ent} (h : FT w p pb o c room ps r) (hf : Fr fp w w') (h1 : ¬ fp p) (h2 : ¬ fp pb) : FT w' p pb o c room ps r :=
  ⟨h.fb.fr hf h1 h2, h.len, h.pt, h.ct, h.cap, h.lo, h.hi, h.rng⟩
theorem FT.fr0 {w w' : World} {p pb o c room : Nat} {ps r : List Ent} (h : FT w p pb o c room ps r) (hf : Fr none_ w w') : FT w' p pb o c room ps r := h.fr hf (fun h => h) fun h => h
theorem FT.free {p pb o c room : Nat} {ps r : List Ent} (h : FT w p pb o c room ps r) : ∃ e, e < 2 * room ∧ pAt ps e = zE := by
  have := h.ct.free (by have := h.cap; have := h.lo; have := h.len; omega)
  rw [h.len] at this
  exact this

theorem pfind' {n p pb o c : Nat} {ps : List Ent} {m : Nat} {k : Key} (hb : FB w p pb o c ps m) (hln : ps.length = n) (hn : 0 < n) (hl : n ≤ 4096) (hk : isI k.1 ∧ k.2.ok) (hfree : ∃ e, e < n ∧ pAt ps e = zE)
    (h1 : ∀ d w', pAt ps (wk n (hmF n k) d) ≠ zE → eKey (pAt ps (wk n (hmF n k) d)) = k → Fr none_ w w' → K (.tuple #[i64 (wk n (hmF n k) d : Nat), .bool true]) w')
    (h0 : ∀ d w', Seen n ps (hmF n k) k d → pAt ps (wk n (hmF n k) d) = zE → Fr none_ w w' → K (.tuple #[i64 (wk n (hmF n k) d : Nat), .bool false]) w') :
    CallsR Try.prog 34 #[pt p 0, i64 k.1, .agg k.2.cells.toArray] K w := by
  subst hln
  exact pfind_spec hb hn hl hk hfree h1 h0
theorem next' {n p pb o c : Nat} {ps : List Ent} {m i : Nat} (hb : FB w p pb o c ps m) (hln : ps.length = n) (hn : 0 < n) (hi : i < 2 ^ 30) (h : K (i64 ((i + 1) % n : Nat)) w) :
    CallsR Try.prog 75 #[pt p 0, i64 i] K w := by
  subst hln
  exact next_spec hb hn hi h

/-- an entry is found, or the place where it would be -/
theorem ft_find {p pb o c room : Nat} {ps r : List Ent} {k : Key} (ht : FT w p pb o c room ps r) (hk : isI k.1 ∧ k.2.ok)
    (h1 : ∀ i w', i < ps.length → pAt ps i ≠ zE → pAt ps i ∈ r → eKey (pAt ps i) = k → Fr none_ w w' → K (.tuple #[i64 (i : Nat), .bool true]) w')
    (h0 : ∀ i d w', i < ps.length → i = wk (2 * room) (hmF (2 * room) k) d → Seen (2 * room) ps (hmF (2 * room) k) k d → pAt ps i = zE → (∀ e ∈ r, eKey e ≠ k) → Fr none_ w w' → K (.tuple #[i64 (i : Nat), .bool false]) w') :
    CallsR Try.prog 34 #[pt p 0, i64 k.1, .agg k.2.cells.toArray] K w := by
  have hlo := ht.lo
  have hlt : ∀ d, wk (2 * room) (hmF (2 * room) k) d < ps.length := fun d => by rw [ht.len]; exact wk_lt (by omega) _ _
  refine pfind' ht.fb ht.len (by omega) (by have := ht.hi; omega) hk ht.free (fun d w' g1 g2 hF => h1 _ w' (hlt d) g1 ((ht.ct.mem _).2 ⟨g1, _, hlt d, rfl⟩) g2 hF) fun d w' g1 g2 hF => h0 _ d w' (hlt d) rfl g1 g2 (fun e he hk => ?_) hF
  obtain ⟨g3, q, g4, rfl⟩ := (ht.ct.mem e).1 he
  rw [ht.len] at g4
  exact ht.pt.absent g1 g2 q g4 g3 hk

theorem take_spec {p pb o c room : Nat} {ps r : List Ent} {i : Nat} (ht : FT w p pb o c room ps r) (hi : i < ps.length) (hz : pAt ps i ≠ zE)
    (h : ∀ w' ps', FT w' p pb o c room ps' (withoutL r (pAt ps i)) → Fr (fun b => b = p ∨ b = pb) w w' → K (.tuple #[]) w') : CallsR Try.prog 36 #[pt p 0, i64 i] K w := by
  apply c36
  unfold p36
  have hlo := ht.lo
  have hhi := ht.hi
  obtain ⟨e, he1, he2⟩ := ht.free
  obtain ⟨n, hn⟩ : ∃ n, n = 2 * room := ⟨_, rfl⟩
  have hln := ht.len
  have hpt := ht.pt
  rw [← hn] at hln hpt he1
  have hin : i < n := by omega
  obtain ⟨M, hM0, hMn, hMz, hMs⟩ := first_free hin he1 he2 hz
  have hw0 : wk n i 0 = i := wk_zero hin
  have htk := (hpt.tk hMn hMs hMz).remove hM0
  have hct := ht.ct.take hi hz
  have hxr : pAt ps i ∈ r := (ht.ct.mem _).2 ⟨hz, i, hi, rfl⟩
  have hrl := without_len_old ht.ct.srt hxr
  rw [hw0] at htk
  have hrng : ∀ e ∈ withoutL r (pAt ps i), RngE e := fun e he => ht.rng e (mem_without.1 he).1
  generalize withoutL r (pAt ps i) = r' at *
  simp only [push_cast, Nat.reduceAdd, Nat.reduceLeDiff, Nat.reduceLT, Int.reduceToNat, Nat.left_eq_add, Nat.add_eq_left, Nat.add_left_cancel_iff, Nat.reduceEqDiff, Nat.add_assoc, Nat.succ_ne_zero, ht.fb.blk]
  rw [build_zE]
  refine s_put ht.fb hi zE_ok fun w1 hb1 hF1 => ?_
  have hl1 : (ps.set i zE).length = n := by rw [List.length_set]; exact hln
  generalize ps.set i zE = ps1 at *
  simp only [push_cast, Nat.reduceAdd, Nat.reduceLeDiff, Nat.reduceLT, Int.reduceToNat, Nat.left_eq_add, Nat.add_eq_left, Nat.add_left_cancel_iff, Nat.reduceEqDiff, Nat.add_assoc, Nat.succ_ne_zero]
  refine next' hb1 hl1 (by omega) (by omega) ?_
  have hlt := ht.fb.lt
  have hF1' : Fr (fun b => b = p ∨ b = pb) w w1 := hF1.mono fun b _ e => .inr e
  refine jn0 (fun w' => ∃ ps', ps'.length = n ∧ FB w' p pb o c ps' r.length ∧ Tk n (hmF n) i M M ps' ∧ CT ps' r' ∧ Fr (fun b => b = p ∨ b = pb) w w') ?_ fun j hj => ?_
  · rintro w2 ⟨ps', hl', hb', htk', hct', hF'⟩
    simp only [push_cast, Nat.reduceAdd, Nat.reduceLeDiff, Nat.reduceLT, Int.reduceToNat, Nat.left_eq_add, Nat.add_eq_left, Nat.add_left_cancel_iff, Nat.reduceEqDiff, Nat.add_assoc, Nat.succ_ne_zero, hb'.blk]
    have hrw : IntKind.i64.wrap ((r.length : Int) - 1) = ((r'.length : Nat) : Int) := by
      rw [wrap_i64 (by have := ht.cap; omega)]
      omega
    rw [hrw]
    have hpt' := htk'.pt
    rw [hn] at hl' hpt'
    exact h _ ps' ⟨hb'.many, hl', hpt', hct', by have := ht.cap; omega, hlo, hhi, hrng⟩ (hF'.step_wr (.inl (.inl rfl)) _ _)
  refine loop1 (fun q v w' => ∃ m ps', v = i64 (wk n i m : Nat) ∧ m ≤ M ∧ q = M - m ∧ ps'.length = n ∧ FB w' p pb o c ps' r.length ∧ Tk n (hmF n) i M m ps' ∧ CT ps' r' ∧ Fr (fun b => b = p ∨ b = pb) w w') ?_ (M - 1) ⟨1, ps1, ?_, hM0, rfl, hl1, hb1, htk, hct, hF1'⟩
  case refine_2 =>
    rw [wk_succ, hw0]
  rintro q v w2 X ⟨m, ps2, rfl, hmM, rfl, hl2, hb2, htk2, hct2, hF2⟩ hX
  have hj2 : wk n i m < ps2.length := by rw [hl2]; exact wk_lt (by omega) _ _
  have hok := hb2.okA (wk n i m)
  simp only [push_cast, Nat.reduceAdd, Nat.reduceLeDiff, Nat.reduceLT, Int.reduceToNat, Nat.left_eq_add, Nat.add_eq_left, Nat.add_left_cancel_iff, Nat.reduceEqDiff, Nat.add_assoc, Nat.succ_ne_zero, hb2.blk]
  refine hb2.at hj2 fun b1 o1 he => ?_
  rw [s_ldN (by decide), he.agg0 (Ent.cells_length _), onS_some, build_zE]
  refine s_neqG (EntT.enc (d := 5) hok) (EntT.enc (d := 5) zE_ok) fun q hq => ?_
  rw [Ent.lits_inj] at hq
  simp only [push_cast, Nat.reduceAdd, Nat.reduceLeDiff, Nat.reduceLT, Int.reduceToNat, Nat.left_eq_add, Nat.add_eq_left, Nat.add_left_cancel_iff, Nat.reduceEqDiff, Nat.add_assoc, Nat.succ_ne_zero]
  refine br_intro (fun hd => ?_) fun hd => ?_
  case refine_2 =>
    have hzz := hq.1 (by simpa using hd)
    have : m = M := by
      rcases Nat.lt_or_ge m M with h1 | h1
      · exact absurd hzz (htk2.seg m (Nat.le_refl _) h1)
      · omega
    subst this
    exact hj _ ⟨ps2, hl2, hb2, htk2, hct2, hF2⟩
  have hocc : pAt ps2 (wk n i m) ≠ zE := fun e => by rw [hq.2 e] at hd; cases hd
  have hmlt : m < M := by
    rcases Nat.lt_or_ge m M with h1 | h1
    · exact h1
    · have : m = M := by omega
      subst this
      exact absurd htk2.free hocc
  have hagain := fun d => htk2.again hmlt (d := d)
  have hctt := hct2.take hj2 hocc
  have hxr2 : pAt ps2 (wk n i m) ∈ r' := (hct2.mem _).2 ⟨hocc, _, hj2, rfl⟩
  have hwj := wk_succ n i m
  have hinj : ∀ q, q < n → pAt (ps2.set (wk n i m) zE) q ≠ zE → eKey (pAt (ps2.set (wk n i m) zE) q) ≠ eKey (pAt ps2 (wk n i m)) := fun q hqn hqz hk => by
    rw [pAt_set hj2] at hqz hk
    split at hqz
    · exact hqz rfl
    · rename_i e
      rw [if_neg e] at hk
      exact e (htk2.inj q _ hqn (by omega) hqz hocc hk)
  have hjz : pAt (ps2.set (wk n i m) zE) (wk n i m) = zE := by rw [pAt_set hj2, if_pos rfl]
  generalize wk n i m = jj at *
  simp only [push_cast, Nat.reduceAdd, Nat.reduceLeDiff, Nat.reduceLT, Int.reduceToNat, Nat.left_eq_add, Nat.add_eq_left, Nat.add_left_cancel_iff, Nat.reduceEqDiff, Nat.add_assoc, Nat.succ_ne_zero, hb2.blk]
  refine hb2.at hj2 fun b1 o1 he => ?_
  rw [s_ldN (by decide), he.agg0 (Ent.cells_length _), onS_some]
  have hlt2 := hb2.lt
  generalize pAt ps2 jj = x at *
  refine ent_slot fun _ w3 hw3 hF3 => ?_
  have hb3 := hb2.fr0 hF3
  have hsl : w2.heap.size ≠ pb := by omega
  generalize w2.heap.size = sl at *
  simp only [push_cast, Nat.reduceAdd, Nat.reduceLeDiff, Nat.reduceLT, Int.reduceToNat, Nat.left_eq_add, Nat.add_eq_left, Nat.add_left_cancel_iff, Nat.reduceEqDiff, Nat.add_assoc, Nat.succ_ne_zero, hb3.blk]
  rw [build_zE]
  refine s_put hb3 hj2 zE_ok fun w4 hb4 hF4 => ?_
  have hl4 : (ps2.set jj zE).length = n := by rw [List.length_set]; exact hl2
  generalize ps2.set jj zE = ps4 at *
  have hw4 := hF4.heap hw3 hsl
  simp only [push_cast, Nat.reduceAdd, Nat.reduceLeDiff, Nat.reduceLT, Int.reduceToNat, Nat.left_eq_add, Nat.add_eq_left, Nat.add_left_cancel_iff, Nat.reduceEqDiff, Nat.add_assoc, Nat.succ_ne_zero, hw4]
  refine pfind' (k := eKey x) hb4 hl4 (by omega) (by omega) ⟨hok.1, hok.2.1⟩ ⟨jj, by omega, hjz⟩ (fun d w' g1 g2 _ => absurd g2 (hinj _ (wk_lt (by omega) _ _) g1)) fun d w5 g1 g2 hF5 => ?_
  have hag := hagain d g1 g2
  have hfl : wk n (hmF n (eKey x)) d < ps4.length := by rw [hl4]; exact wk_lt (by omega) _ _
  have hctp := hctt.put (x := x) hocc hok hfl (fun q hq hqf hqz => hinj q (by omega) hqz) (fun hne => absurd g2 hne)
  rw [with_without hct2.srt hxr2] at hctp
  generalize wk n (hmF n (eKey x)) d = f at *
  have hw5 := hF5.heap hw4 fun h => h
  have hb5 := hb4.fr0 hF5
  simp only [push_cast, Nat.reduceAdd, Nat.reduceLeDiff, Nat.reduceLT, Int.reduceToNat, Nat.left_eq_add, Nat.add_eq_left, Nat.add_left_cancel_iff, Nat.reduceEqDiff, Nat.add_assoc, Nat.succ_ne_zero, hb5.blk, hw5]
  refine s_put (hb5.fr0 (Fr.drew w5)) hfl hok fun w6 hb6 hF6 => ?_
  simp only [push_cast, Nat.reduceAdd, Nat.reduceLeDiff, Nat.reduceLT, Int.reduceToNat, Nat.left_eq_add, Nat.add_eq_left, Nat.add_left_cancel_iff, Nat.reduceEqDiff, Nat.add_assoc, Nat.succ_ne_zero]
  have hl6 : (ps4.set f x).length = n := by rw [List.length_set]; exact hl4
  refine next' hb6 hl6 (by omega) (by omega) ?_
  rw [← hwj]
  refine hX (M - (m + 1)) _ _ (by omega) ⟨m + 1, _, rfl, by omega, rfl, hl6, hb6, hag, hctp, ?_⟩
  have e3 := hF2.trans_new hF3 fun b hb e => e.elim
  have e4 := e3.trans_new hF4 fun b hb e => .inr e
  have e5 := (e4.trans_new hF5 fun b hb e => e.elim).step_drew
  exact e5.trans_new hF6 fun b hb e => .inr e

end Go.Gx.S

namespace Go.Gx.S
open Go Go.Gx Go.Proofs
variable {K : Value → World → Prop} {w : World}

theorem mac_dw (m : Mac) : (m.cells.drop 0).take 6 = m.cells := id rfl
attribute [push_cast] mac_dw

/-! ### The steps, plain -/

def atK (r : List Ent) (k : Key) : Option Ent := r.find? fun e => decide (eKey e = k)
theorem atK_some {r : List Ent} {k : Key} {e : Ent} (h : Srt r) (he : e ∈ r) (hk : eKey e = k) : atK r k = some e := by
  unfold atK
  cases hf : r.find? (fun e => decide (eKey e = k)) with
  | none =>
    have := List.find?_eq_none.1 hf e he
    simp [hk] at this
  | some f =>
    have h1 := List.mem_of_find?_eq_some hf
    have h2 := List.find?_some hf
    simp only [decide_eq_true_eq] at h2
    rw [h.key h1 he (h2.trans hk.symm)]
theorem atK_none {r : List Ent} {k : Key} (h : ∀ e ∈ r, eKey e ≠ k) : atK r k = none := by
  unfold atK
  exact List.find?_eq_none.2 fun e he => by simpa using h e he
theorem atK_mem {r : List Ent} {k : Key} {e : Ent} (h : atK r k = some e) : e ∈ r ∧ eKey e = k :=
  ⟨List.mem_of_find?_eq_some h, by have := List.find?_some h; simpa using this⟩
theorem atK_no {r : List Ent} {k : Key} (h : atK r k = none) : ∀ e ∈ r, eKey e ≠ k := fun e he => by
  have := List.find?_eq_none.1 h e he
  simpa using this

def learnL (room : Nat) (r : List Ent) (v : Int) (m : Mac) (p t : Int) : List Ent × Int × Int :=
  if rightB v m p && timedB t then
    match atK r (v, m) with
    | some e => if e.static then (r, 0, 0) else (withL r ⟨v, m, p, t, false⟩, if e.port = p then 0 else 2, 0)
    | none => if room ≤ r.length then (r, 0, 3) else (withL r ⟨v, m, p, t, false⟩, 1, 0)
  else (r, 0, 1)
def putL (room : Nat) (r : List Ent) (v : Int) (m : Mac) (p : Int) : List Ent × Int :=
  if rightB v m p then
    match atK r (v, m) with
    | some _ => (withL r ⟨v, m, p, 0, true⟩, 0)
    | none => if room ≤ r.length then (r, 3) else (withL r ⟨v, m, p, 0, true⟩, 0)
  else (r, 1)
def lookL (r : List Ent) (k : Key) : Ent × Bool := match atK r k with | some e => (e, true) | none => (zE, false)
def removeL (r : List Ent) (k : Key) : List Ent × Bool := match atK r k with | some e => (withoutL r e, true) | none => (r, false)

theorem right_nz {v p t : Int} {m : Mac} {g : Bool} (h : rightB v m p = true) : (⟨v, m, p, t, g⟩ : Ent) ≠ zE := fun e => by
  have h1 : v = 0 := congrArg Ent.vlan e
  unfold rightB at h
  rw [h1] at h
  simp at h

theorem rng_with {r : List Ent} {x : Ent} (h : ∀ e ∈ r, RngE e) (hx : RngE x) : ∀ e ∈ withL r x, RngE e := fun e he => by
  rcases mem_with.1 he with rfl | he
  · exact hx
  · exact h e he.1

theorem FT.upd {w' : World} {p pb o c room i : Nat} {ps r : List Ent} {x : Ent} (ht : FT w p pb o c room ps r) (hi : i < ps.length) (hz : pAt ps i ≠ zE) (hk : eKey (pAt ps i) = eKey x) (hx : x ≠ zE) (hok : x.ok) (hrg : RngE x) (hb : FB w' p pb o c (ps.set i x) r.length) :
    FT w' p pb o c room (ps.set i x) (withL r x) := by
  have hmem : pAt ps i ∈ r := (ht.ct.mem _).2 ⟨hz, i, hi, rfl⟩
  have hl := with_len_old ht.ct.srt hmem hk
  refine ⟨by rw [hl]; exact hb, by rw [List.length_set]; exact ht.len, ht.pt.update (by rw [← ht.len]; exact hi) hx hz hk, ht.ct.put hx hok hi (fun q hq hqi hqz hkk => hqi (ht.ct.inj q i hq hi hqz hz (hkk.trans hk.symm))) (fun _ => hk), by rw [hl]; exact ht.cap, ht.lo, ht.hi, rng_with ht.rng hrg⟩
theorem FT.ins {w' : World} {p pb o c room i d : Nat} {ps r : List Ent} {x : Ent} (ht : FT w p pb o c room ps r) (hi : i < ps.length) (hid : i = wk (2 * room) (hmF (2 * room) (eKey x)) d) (hs : Seen (2 * room) ps (hmF (2 * room) (eKey x)) (eKey x) d)
    (hz : pAt ps i = zE) (hno : ∀ e ∈ r, eKey e ≠ eKey x) (hx : x ≠ zE) (hok : x.ok) (hrg : RngE x) (hcap : r.length < room) (hb : FB w' p pb o c (ps.set i x) (r.length + 1)) : FT w' p pb o c room (ps.set i x) (withL r x) := by
  have hl := with_len_new hno
  have hpt : PT (2 * room) (hmF (2 * room)) (ps.set i x) := by
    subst hid
    exact ht.pt.insert hx hs hz
  exact ⟨by rw [hl]; exact hb, by rw [List.length_set]; exact ht.len, hpt, ht.ct.put hx hok hi (fun q hq _ hqz => hno _ ((ht.ct.mem _).2 ⟨hqz, q, hq, rfl⟩)) (fun hne => absurd hz hne), by rw [hl]; omega, ht.lo, ht.hi, rng_with ht.rng hrg⟩

def pp (p pb : Nat) : Nat → Prop := fun b => b = p ∨ b = pb

theorem learn_spec {p pb o c room : Nat} {ps r : List Ent} {v q t : Int} {m : Mac} (ht : FT w p pb o c room ps r) (hv : isI v) (hm : m.ok) (hq : isI q) (htt : isI t)
    (h : ∀ w' ps', FT w' p pb o c room ps' (learnL room r v m q t).1 → Fr (pp p pb) w w' → K (.tuple #[i64 (learnL room r v m q t).2.1, i64 (learnL room r v m q t).2.2]) w') :
    CallsR Try.prog 9 #[pt p 0, i64 v, .agg m.cells.toArray, i64 q, i64 t] K w := by
  apply c9
  unfold p9
  simp only [push_cast, Nat.reduceAdd, Nat.reduceLeDiff, Nat.reduceLT, Int.reduceToNat, Nat.left_eq_add, Nat.add_eq_left, Nat.add_left_cancel_iff, Nat.reduceEqDiff, Nat.add_assoc, Nat.succ_ne_zero]
  have hF : Fr none_ w (w.alloc (cellsO m.cells 34)) := (by repeat' first | with_reducible exact Fr.refl _ _ | with_reducible refine Fr.step_alloc ?_ ?_ | with_reducible refine Fr.step_drew ?_ | with_reducible refine Fr.step_wr ?_ ?_ _ _ | exact rfl | exact Or.inr (by omega) | exact Or.inl rfl | exact Or.inl (Or.inl rfl) | exact Or.inl (Or.inr rfl))
  have hm0 : (w.alloc (cellsO m.cells 34)).heap[w.heap.size]? = some (cellsO m.cells 34) := by simp only [push_cast, Nat.reduceAdd, Nat.reduceLeDiff, Nat.reduceLT, Int.reduceToNat, Nat.left_eq_add, Nat.add_eq_left, Nat.add_left_cancel_iff, Nat.reduceEqDiff, Nat.add_assoc, Nat.succ_ne_zero]
  have hlt := ht.fb.lt
  have hmp : w.heap.size ≠ p ∧ w.heap.size ≠ pb := by omega
  replace ht := ht.fr0 hF
  generalize w.alloc (cellsO m.cells 34) = W at *
  generalize w.heap.size = ms at *
  refine right_spec hm fun w2 hF2 => ?_
  replace ht := ht.fr0 hF2
  replace hm0 := hF2.heap hm0 fun h => h
  replace hF := hF.trans hF2
  unfold learnL at h
  simp only [push_cast, Nat.reduceAdd, Nat.reduceLeDiff, Nat.reduceLT, Int.reduceToNat, Nat.left_eq_add, Nat.add_eq_left, Nat.add_left_cancel_iff, Nat.reduceEqDiff, Nat.add_assoc, Nat.succ_ne_zero]
  cases hr : rightB v m q with
  | false =>
    rw [hr, Bool.false_and] at h
    simp only [push_cast, Nat.reduceAdd, Nat.reduceLeDiff, Nat.reduceLT, Int.reduceToNat, Nat.left_eq_add, Nat.add_eq_left, Nat.add_left_cancel_iff, Nat.reduceEqDiff, Nat.add_assoc, Nat.succ_ne_zero, Bool.not_false]
    exact h _ ps ht (hF.mono fun _ _ e => e.elim)
  | true =>
  rw [hr, Bool.true_and] at h
  simp only [push_cast, Nat.reduceAdd, Nat.reduceLeDiff, Nat.reduceLT, Int.reduceToNat, Nat.left_eq_add, Nat.add_eq_left, Nat.add_left_cancel_iff, Nat.reduceEqDiff, Nat.add_assoc, Nat.succ_ne_zero, Bool.not_true]
  refine timed_spec ?_
  simp only [push_cast, Nat.reduceAdd, Nat.reduceLeDiff, Nat.reduceLT, Int.reduceToNat, Nat.left_eq_add, Nat.add_eq_left, Nat.add_left_cancel_iff, Nat.reduceEqDiff, Nat.add_assoc, Nat.succ_ne_zero]
  cases htm : timedB t with
  | false =>
    rw [htm] at h
    simp only [push_cast, Nat.reduceAdd, Nat.reduceLeDiff, Nat.reduceLT, Int.reduceToNat, Nat.left_eq_add, Nat.add_eq_left, Nat.add_left_cancel_iff, Nat.reduceEqDiff, Nat.add_assoc, Nat.succ_ne_zero, Bool.not_false]
    exact h _ ps ht (hF.mono fun _ _ e => e.elim)
  | true =>
  rw [htm, if_pos rfl] at h
  simp only [push_cast, Nat.reduceAdd, Nat.reduceLeDiff, Nat.reduceLT, Int.reduceToNat, Nat.left_eq_add, Nat.add_eq_left, Nat.add_left_cancel_iff, Nat.reduceEqDiff, Nat.add_assoc, Nat.succ_ne_zero, Bool.not_true, hm0]
  have hx : (⟨v, m, q, t, false⟩ : Ent) ≠ zE := right_nz hr
  have hok : (⟨v, m, q, t, false⟩ : Ent).ok := ⟨hv, hm, hq, htt⟩
  have hrg : RngE ⟨v, m, q, t, false⟩ := ⟨hr, htm, fun e => by cases e⟩
  refine ft_find (k := (v, m)) ht ⟨hv, hm⟩ (fun i w3 hi hz hmem hk hF3 => ?_) fun i d w3 hi hid hs hz hno hF3 => ?_
  · rw [atK_some ht.ct.srt hmem hk] at h
    replace ht := ht.fr0 hF3
    replace hm0 := hF3.heap hm0 fun h => h
    replace hF := hF.trans hF3
    simp only [push_cast, Nat.reduceAdd, Nat.reduceLeDiff, Nat.reduceLT, Int.reduceToNat, Nat.left_eq_add, Nat.add_eq_left, Nat.add_left_cancel_iff, Nat.reduceEqDiff, Nat.add_assoc, Nat.succ_ne_zero, ht.fb.blk]
    refine ht.fb.at hi fun b1 o1 he => ?_
    rw [s_ldN (by decide), he.agg0 (Ent.cells_length _), onS_some]
    have hlt3 := ht.fb.lt
    refine ent_slot fun _ w4 hw4 hF4 => ?_
    have hsl : w3.heap.size ≠ pb := by omega
    generalize w3.heap.size = sl at *
    replace ht := ht.fr0 hF4
    replace hm0 := hF4.heap hm0 fun h => h
    replace hF := hF.trans hF4
    simp only [jn_0, push_cast, Nat.reduceAdd, Nat.reduceLeDiff, Nat.reduceLT, Int.reduceToNat, Nat.left_eq_add, Nat.add_eq_left, Nat.add_left_cancel_iff, Nat.reduceEqDiff, Nat.add_assoc, Nat.succ_ne_zero, hw4, ht.fb.blk, hm0]
    refine br_intro (fun hst => ?_) fun hst => ?_
    · simp only [hst, if_true] at h
      exact h _ ps ht (hF.mono fun _ _ e => e.elim)
    simp only [hst, Bool.false_eq_true, if_false] at h
    rw [build_lrn]
    refine s_put (ht.fb.fr0 (Fr.drew w4)) hi hok fun w5 hb5 hF5 => ?_
    have hw5 := hF5.heap ((Fr.drew (fp := none_) w4).heap hw4 fun h => h) hsl
    simp only [push_cast, Nat.reduceAdd, Nat.reduceLeDiff, Nat.reduceLT, Int.reduceToNat, Nat.left_eq_add, Nat.add_eq_left, Nat.add_left_cancel_iff, Nat.reduceEqDiff, Nat.add_assoc, Nat.succ_ne_zero, hw5]
    have ht5 := (ht.fr0 (Fr.drew w4)).upd hi hz (x := ⟨v, m, q, t, false⟩) hk hx hok hrg hb5
    have hF5' : Fr (pp p pb) w w5 := (hF.trans (Fr.drew w4)).mono (fun _ _ e => e.elim) |>.trans_new hF5 fun b _ e => .inr e
    have h' := h w5 _ ht5 hF5'
    refine br_intro (fun hne => ?_) fun hne => ?_
    · rw [if_neg (by simpa using hne)] at h'
      exact h'
    · rw [if_pos (by simpa using hne)] at h'
      exact h'
  · rw [atK_none hno] at h
    replace ht := ht.fr0 hF3
    replace hm0 := hF3.heap hm0 fun h => h
    replace hF := hF.trans hF3
    simp only [push_cast, Nat.reduceAdd, Nat.reduceLeDiff, Nat.reduceLT, Int.reduceToNat, Nat.left_eq_add, Nat.add_eq_left, Nat.add_left_cancel_iff, Nat.reduceEqDiff, Nat.add_assoc, Nat.succ_ne_zero, ht.fb.blk]
    refine ht.fb.at hi fun b1 o1 he => ?_
    rw [s_ldN (by decide), he.agg0 (Ent.cells_length _), onS_some]
    refine ent_slot fun _ w4 hw4 hF4 => ?_
    replace ht := ht.fr0 hF4
    replace hm0 := hF4.heap hm0 fun h => h
    replace hF := hF.trans hF4
    simp only [jn_0, push_cast, Nat.reduceAdd, Nat.reduceLeDiff, Nat.reduceLT, Int.reduceToNat, Nat.left_eq_add, Nat.add_eq_left, Nat.add_left_cancel_iff, Nat.reduceEqDiff, Nat.add_assoc, Nat.succ_ne_zero]
    refine full_spec ht.fb (by have := ht.cap; have := ht.hi; omega) fun w5 hF5 => ?_
    replace ht := ht.fr0 hF5
    replace hm0 := hF5.heap hm0 fun h => h
    replace hF := hF.trans hF5
    simp only [push_cast, Nat.reduceAdd, Nat.reduceLeDiff, Nat.reduceLT, Int.reduceToNat, Nat.left_eq_add, Nat.add_eq_left, Nat.add_left_cancel_iff, Nat.reduceEqDiff, Nat.add_assoc, Nat.succ_ne_zero]
    have hln := ht.len
    refine br_dec (fun hfull => ?_) fun hfull => ?_
    · simp only [if_pos (show room ≤ r.length by omega)] at h
      exact h _ ps ht (hF.mono fun _ _ e => e.elim)
    simp only [if_neg (show ¬ room ≤ r.length by omega)] at h
    simp only [push_cast, Nat.reduceAdd, Nat.reduceLeDiff, Nat.reduceLT, Int.reduceToNat, Nat.left_eq_add, Nat.add_eq_left, Nat.add_left_cancel_iff, Nat.reduceEqDiff, Nat.add_assoc, Nat.succ_ne_zero, ht.fb.blk, hm0]
    rw [build_lrn]
    refine s_put (ht.fb.fr0 (Fr.drew w5)) hi hok fun w6 hb6 hF6 => ?_
    simp only [push_cast, Nat.reduceAdd, Nat.reduceLeDiff, Nat.reduceLT, Int.reduceToNat, Nat.left_eq_add, Nat.add_eq_left, Nat.add_left_cancel_iff, Nat.reduceEqDiff, Nat.add_assoc, Nat.succ_ne_zero, hb6.blk]
    have hcap := ht.cap
    have hhi := ht.hi
    have hrw : IntKind.i64.wrap ((r.length : Int) + 1) = ((r.length + 1 : Nat) : Int) := by
      rw [wrap_i64 (by omega)]; simp
    rw [hrw]
    have ht7 := (ht.fr0 (Fr.drew w5)).ins hi (x := ⟨v, m, q, t, false⟩) hid hs hz hno hx hok hrg (by omega) (hb6.many (m' := r.length + 1))
    exact h _ _ ht7 (((hF.trans (Fr.drew w5)).mono (fun _ _ e => e.elim) |>.trans_new hF6 fun b _ e => .inr e).step_wr (.inl (.inl rfl)) _ _)

theorem look_spec {p pb o c room : Nat} {ps r : List Ent} {v : Int} {m : Mac} (ht : FT w p pb o c room ps r) (hv : isI v) (hm : m.ok)
    (h : ∀ w', Fr none_ w w' → K (.tuple #[.agg (lookL r (v, m)).1.cells.toArray, .bool (lookL r (v, m)).2]) w') :
    CallsR Try.prog 10 #[pt p 0, i64 v, .agg m.cells.toArray] K w := by
  apply c10
  unfold p10
  rw [opS_box]
  show opS Try.prog (S.alloc 40) _ (w.alloc (cellsO m.cells 34))
  have hF1 : Fr none_ w (w.alloc (cellsO m.cells 34)) := (by repeat' first | with_reducible exact Fr.refl _ _ | with_reducible refine Fr.step_alloc ?_ ?_ | with_reducible refine Fr.step_drew ?_ | with_reducible refine Fr.step_wr ?_ ?_ _ _ | exact rfl | exact Or.inr (by omega) | exact Or.inl rfl | exact Or.inl (Or.inl rfl) | exact Or.inl (Or.inr rfl))
  have hm0 : (w.alloc (cellsO m.cells 34)).heap[w.heap.size]? = some (cellsO m.cells 34) := by simp only [push_cast, Nat.reduceAdd, Nat.reduceLeDiff, Nat.reduceLT, Int.reduceToNat, Nat.left_eq_add, Nat.add_eq_left, Nat.add_left_cancel_iff, Nat.reduceEqDiff, Nat.add_assoc, Nat.succ_ne_zero]
  have hsz : w.heap.size < (w.alloc (cellsO m.cells 34)).heap.size := lt_of_heap hm0
  replace ht := ht.fr0 hF1
  generalize w.alloc (cellsO m.cells 34) = W at *
  rw [zalloc_ent]
  have hF2 : Fr none_ W (W.alloc (cellsO zE.cells 40)) := (by repeat' first | with_reducible exact Fr.refl _ _ | with_reducible refine Fr.step_alloc ?_ ?_ | with_reducible refine Fr.step_drew ?_ | with_reducible refine Fr.step_wr ?_ ?_ _ _ | exact rfl | exact Or.inr (by omega) | exact Or.inl rfl | exact Or.inl (Or.inl rfl) | exact Or.inl (Or.inr rfl))
  have hz0 : (W.alloc (cellsO zE.cells 40)).heap[W.heap.size]? = some (cellsO zE.cells 40) := by simp only [push_cast, Nat.reduceAdd, Nat.reduceLeDiff, Nat.reduceLT, Int.reduceToNat, Nat.left_eq_add, Nat.add_eq_left, Nat.add_left_cancel_iff, Nat.reduceEqDiff, Nat.add_assoc, Nat.succ_ne_zero]
  replace hm0 := hF2.heap hm0 fun h => h
  replace ht := ht.fr0 hF2
  have hF := hF1.trans hF2
  generalize W.alloc (cellsO zE.cells 40) = w1 at *
  have hwW := hF1.size
  generalize W.heap.size = sl at *
  simp only [push_cast, Nat.reduceAdd, Nat.reduceLeDiff, Nat.reduceLT, Int.reduceToNat, Nat.left_eq_add, Nat.add_eq_left, Nat.add_left_cancel_iff, Nat.reduceEqDiff, Nat.add_assoc, Nat.succ_ne_zero, hm0]
  unfold lookL at h
  have fin : ∀ {i : Nat} {w3 : World} {b : Bool}, i < ps.length → Fr none_ w1 w3 → (∀ w', Fr none_ w w' → K (.tuple #[.agg (pAt ps i).cells.toArray, .bool b]) w') → opS Try.prog (S.nc (pt p 0)) (fun x9 => opS Try.prog (S.fa 69 x9 0) fun x10 => opS Try.prog (S.ld 30 x10) fun x11 => opS Try.prog (S.ia 30 x11 (i64 (i : Nat))) fun x12 => opS Try.prog (S.ld 40 x12) fun x13 => opS Try.prog (S.st 40 (pt sl 0) x13) fun _ => opS Try.prog (S.ld 40 (pt sl 0)) fun x15 => K (.tuple #[x15, .bool b])) w3 := by
    intro i w3 b hi hF3 hk
    have ht3 := ht.fr0 hF3
    have hz3 := hF3.heap hz0 fun h => h
    simp only [push_cast, Nat.reduceAdd, Nat.reduceLeDiff, Nat.reduceLT, Int.reduceToNat, Nat.left_eq_add, Nat.add_eq_left, Nat.add_left_cancel_iff, Nat.reduceEqDiff, Nat.add_assoc, Nat.succ_ne_zero, ht3.fb.blk]
    refine ht3.fb.at hi fun b1 o1 he => ?_
    rw [s_ldN (by decide), he.agg0 (Ent.cells_length _), onS_some, s_stA _ _ _ (Ent.cells_length _) (Ent.cells_one _)]
    simp only [push_cast, Nat.reduceAdd, Nat.reduceLeDiff, Nat.reduceLT, Int.reduceToNat, Nat.left_eq_add, Nat.add_eq_left, Nat.add_left_cancel_iff, Nat.reduceEqDiff, Nat.add_assoc, Nat.succ_ne_zero, hz3]
    exact hk _ ((hF.trans hF3).step_wr (.inr (by omega)) _ _)
  refine ft_find (k := (v, m)) ht ⟨hv, hm⟩ (fun i w3 hi hz hmem hk hF3 => ?_) fun i d w3 hi hid hs hz hno hF3 => ?_
  · rw [atK_some ht.ct.srt hmem hk] at h
    simp only [s_ext, List.getElem?_toArray, List.getElem?_cons_zero, List.getElem?_cons_succ, onS_some]
    exact fin hi hF3 h
  · rw [atK_none hno] at h
    simp only [s_ext, List.getElem?_toArray, List.getElem?_cons_zero, List.getElem?_cons_succ, onS_some]
    rw [← hz] at h
    exact fin hi hF3 h

theorem remove_spec {p pb o c room : Nat} {ps r : List Ent} {v : Int} {m : Mac} (ht : FT w p pb o c room ps r) (hv : isI v) (hm : m.ok)
    (h : ∀ w' ps', FT w' p pb o c room ps' (removeL r (v, m)).1 → Fr (pp p pb) w w' → K (.bool (removeL r (v, m)).2) w') :
    CallsR Try.prog 12 #[pt p 0, i64 v, .agg m.cells.toArray] K w := by
  apply c12
  unfold p12
  simp only [push_cast, Nat.reduceAdd, Nat.reduceLeDiff, Nat.reduceLT, Int.reduceToNat, Nat.left_eq_add, Nat.add_eq_left, Nat.add_left_cancel_iff, Nat.reduceEqDiff, Nat.add_assoc, Nat.succ_ne_zero]
  have hF : Fr none_ w (w.alloc (cellsO m.cells 34)) := (by repeat' first | with_reducible exact Fr.refl _ _ | with_reducible refine Fr.step_alloc ?_ ?_ | with_reducible refine Fr.step_drew ?_ | with_reducible refine Fr.step_wr ?_ ?_ _ _ | exact rfl | exact Or.inr (by omega) | exact Or.inl rfl | exact Or.inl (Or.inl rfl) | exact Or.inl (Or.inr rfl))
  replace ht := ht.fr0 hF
  generalize w.alloc (cellsO m.cells 34) = W at *
  unfold removeL at h
  refine ft_find (k := (v, m)) ht ⟨hv, hm⟩ (fun i w3 hi hz hmem hk hF3 => ?_) fun i d w3 hi hid hs hz hno hF3 => ?_
  · rw [atK_some ht.ct.srt hmem hk] at h
    replace ht := ht.fr0 hF3
    simp only [push_cast, Nat.reduceAdd, Nat.reduceLeDiff, Nat.reduceLT, Int.reduceToNat, Nat.left_eq_add, Nat.add_eq_left, Nat.add_left_cancel_iff, Nat.reduceEqDiff, Nat.add_assoc, Nat.succ_ne_zero]
    refine take_spec ht hi hz fun w4 ps4 ht4 hF4 => ?_
    exact h _ ps4 ht4 ((hF.trans hF3).mono (fun _ _ e => e.elim) |>.trans_new hF4 fun b _ e => e)
  · rw [atK_none hno] at h
    simp only [push_cast, Nat.reduceAdd, Nat.reduceLeDiff, Nat.reduceLT, Int.reduceToNat, Nat.left_eq_add, Nat.add_eq_left, Nat.add_left_cancel_iff, Nat.reduceEqDiff, Nat.add_assoc, Nat.succ_ne_zero]
    exact h _ ps (ht.fr0 hF3) ((hF.trans hF3).mono fun _ _ e => e.elim)

theorem atK_with {r : List Ent} (h : Srt r) {x : Ent} (hx : x.ok) (k : Key) : atK (withL r x) k = if eKey x = k then some x else atK r k := by
  have hw := h.with hx
  by_cases e : eKey x = k
  · rw [if_pos e]
    exact atK_some hw (mem_with.2 (.inl rfl)) e
  · rw [if_neg e]
    cases ha : atK r k with
    | some y =>
      obtain ⟨h1, h2⟩ := atK_mem ha
      exact atK_some hw (mem_with.2 (.inr ⟨h1, fun h3 => e (h3.symm.trans h2)⟩)) h2
    | none =>
      refine atK_none fun y hy hk => ?_
      rcases mem_with.1 hy with rfl | hy
      · exact e hk
      · exact atK_no ha y hy.1 hk

theorem learn_at {room : Nat} {r : List Ent} {v p t : Int} {m : Mac} (h : Srt r) (hv : isI v) (hm : m.ok) (hp : isI p) (ht : isI t) {k : Key} (hk : k ≠ (v, m)) : atK (learnL room r v m p t).1 k = atK r k := by
  have hx : (⟨v, m, p, t, false⟩ : Ent).ok := ⟨hv, hm, hp, ht⟩
  have hw : atK (withL r ⟨v, m, p, t, false⟩) k = atK r k := by
    rw [atK_with h hx, if_neg]
    exact fun e => hk e.symm
  unfold learnL
  split
  · split
    · split
      · rfl
      · exact hw
    · split
      · rfl
      · exact hw
  · rfl

/-- what learning comes to, where it is taken -/
theorem learn_ok {room : Nat} {r : List Ent} {v p t : Int} {m : Mac} (h : Srt r) (hv : isI v) (hm : m.ok) (hp : isI p) (ht : isI t) (he : (learnL room r v m p t).2.2 = 0) :
    ∃ x, atK (learnL room r v m p t).1 (v, m) = some x ∧ ((x.static = true ∧ (learnL room r v m p t).2.1 = 0) ∨ (x.port = p ∧ x.at_ = t)) := by
  have hx : (⟨v, m, p, t, false⟩ : Ent).ok := ⟨hv, hm, hp, ht⟩
  have hw : atK (withL r ⟨v, m, p, t, false⟩) (v, m) = some ⟨v, m, p, t, false⟩ := by
    rw [atK_with h hx]
    exact if_pos rfl
  unfold learnL at he ⊢
  split at he
  · rename_i hc
    rw [if_pos hc]
    split at he
    · rename_i e ha
      split at he
      · rename_i hst
        simp only [ha, hst, if_true]
        exact ⟨e, rfl, .inl ⟨hst, by simp⟩⟩
      · rename_i hst
        simp only [ha, hst, if_false]
        exact ⟨_, hw, .inr ⟨rfl, rfl⟩⟩
    · rename_i ha
      split at he
      · cases he
      · rename_i hfull
        simp only [ha, if_neg hfull]
        exact ⟨_, hw, .inr ⟨rfl, rfl⟩⟩
  · cases he
theorem learn_no {room : Nat} {r : List Ent} {v p t : Int} {m : Mac} (he : (learnL room r v m p t).2.2 ≠ 0) :
    (learnL room r v m p t).1 = r ∧ (learnL room r v m p t).2.1 = 0 ∧ ((learnL room r v m p t).2.2 = 1 ∨ ((learnL room r v m p t).2.2 = 3 ∧ room ≤ r.length ∧ atK r (v, m) = none)) := by
  unfold learnL at he ⊢
  split at he
  · rename_i hc
    rw [if_pos hc]
    split at he
    · rename_i e ha
      split at he
      · exact absurd rfl he
      · exact absurd rfl he
    · rename_i ha
      split at he
      · rename_i hfull
        simp only [ha, if_pos hfull]
        simp [hfull]
      · exact absurd rfl he
  · rename_i hc
    rw [if_neg hc]
    simp

theorem pAt_rep (n i : Nat) : pAt (List.replicate n zE) i = zE := by
  by_cases h : i < n
  · rw [pAt_eq (by simpa using h), List.getElem_replicate]
  · rw [pAt_ge (by simpa using h)]

theorem pnew_spec (room : Int) (h0 : room < 1 ∨ 1024 < room → K (.tuple #[.pointer none, i64 1]) w)
    (h1 : 1 ≤ room → room ≤ 1024 → ∀ (p pb o c : Nat) (ps : List Ent) (w' : World), FT w' p pb o c room.toNat ps [] → Fr none_ w w' → w.heap.size ≤ p → w.heap.size ≤ pb → K (.tuple #[pt p 0, i64 0]) w') :
    CallsR Try.prog 5 #[i64 room] K w := by
  apply c5
  unfold p5
  simp only [push_cast, Nat.reduceAdd, Nat.reduceLeDiff, Nat.reduceLT, Int.reduceToNat, Nat.left_eq_add, Nat.add_eq_left, Nat.add_left_cancel_iff, Nat.reduceEqDiff, Nat.add_assoc, Nat.succ_ne_zero]
  refine br_dec (fun ha => h0 (.inl ha)) fun ha => ?_
  refine br_dec (fun hb => h0 (.inr hb)) fun hb => ?_
  obtain ⟨n, rfl⟩ : ∃ n : Nat, room = n := ⟨room.toNat, by omega⟩
  simp only [Int.toNat_natCast] at h1
  rw [wrap_i64 (by omega)]
  rw [opS_mks _ _ _ (by omega) (by omega) (by omega) (by rfl) (by decide)]
  have e2 : (2 * (n : Int)).toNat = 2 * n := by omega
  rw [e2]
  simp only [push_cast, Nat.reduceAdd, Nat.reduceLeDiff, Nat.reduceLT, Int.reduceToNat, Nat.left_eq_add, Nat.add_eq_left, Nat.add_left_cancel_iff, Nat.reduceEqDiff, Nat.add_assoc, Nat.succ_ne_zero]
  rw [opS_build _ rfl]
  simp only [push_cast, Nat.reduceAdd, Nat.reduceLeDiff, Nat.reduceLT, Int.reduceToNat, Nat.left_eq_add, Nat.add_eq_left, Nat.add_left_cancel_iff, Nat.reduceEqDiff, Nat.add_assoc, Nat.succ_ne_zero]
  refine h1 (by omega) (by omega) (w.heap.size + 1) w.heap.size 0 (2 * n) (List.replicate (2 * n) zE) ((w.alloc _).alloc _) ⟨⟨?_, ?_, by omega, fun e he => ?_⟩, List.length_replicate, ⟨List.length_replicate, by omega, fun k => hmF_lt (by omega) k, fun p _ hz => absurd (pAt_rep _ _) hz, fun p _ _ _ hz => absurd (pAt_rep _ _) hz⟩, ⟨Srt.nil, fun _ h => (by cases h), fun e => ⟨fun h => (by cases h), fun ⟨h1, p, _, h2⟩ => absurd ((pAt_rep (2 * n) p).symm.trans h2).symm h1⟩, fun p _ _ _ hz => absurd (pAt_rep _ _) hz⟩, Nat.zero_le _, by omega, by omega, fun _ h => by cases h⟩ ?_ (by omega) (by omega)
  · simp only [push_cast, Nat.reduceAdd, Nat.reduceLeDiff, Nat.reduceLT, Int.reduceToNat, Nat.left_eq_add, Nat.add_eq_left, Nat.add_left_cancel_iff, Nat.reduceEqDiff, Nat.add_assoc, Nat.succ_ne_zero, List.length_replicate]; rfl
  · have hzl : (zeros (2 * n) zE.cells).length = 2 * n * 10 := by rw [zeros_length]; rfl
    rw [List.length_replicate, List.map_replicate]
    refine ⟨.inr ⟨w.heap.size, 0, 2 * n, (zeros (2 * n) zE.cells).toArray, by rw [List.length_replicate], ?_, by rw [List.length_replicate]; exact Nat.le_refl _, ?_, ?_⟩, fun e he => ?_⟩
    · simp only [push_cast, Nat.reduceAdd, Nat.reduceLeDiff, Nat.reduceLT, Int.reduceToNat, Nat.left_eq_add, Nat.add_eq_left, Nat.add_left_cancel_iff, Nat.reduceEqDiff, Nat.add_assoc, Nat.succ_ne_zero]
      rfl
    · rw [List.size_toArray, hzl]; omega
    · rw [List.length_replicate, List.drop_zero, List.take_of_length_le (by rw [hzl]; exact Nat.le_refl _)]; rfl
    · rw [List.eq_of_mem_replicate he]; rfl
  · rw [List.eq_of_mem_replicate he]; exact zE_ok
  · exact ((Fr.refl _ _).step_alloc rfl).step_alloc rfl

end Go.Gx.S
