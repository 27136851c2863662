/- What is written into a buffer. -/
import Derived.Test.YtebfekelonfcgaaDoorBufT
import Derived.Test.YtebfekelonfcgaaDoorBaseMac
import Derived.Test.YtebfekelonfcgaaDoorGxBuf
import Derived.Defers
import Derived.DefersIn
import Derived.RecoverIn
import Derived.TacticsInMore
set_option linter.unusedVariables false
set_option linter.unusedSimpArgs false
set_option maxRecDepth 100000
namespace Go.Gx.S
open Go Go.Gx Go.Proofs
variable {K : Value → World → Prop} {w : World}

theorem buf_len {p n c : Nat} {a : Option Addr} {z : Value} (hp : w.heap[p]? = some (cellsO [.slice a n c, i64 0, z] 43)) (hn : n < 2 ^ 63) (h : K (i64 n) w.drew) : CallsR Tryd.prog 32 #[pt p 0] K w := by
  apply c32
  unfold p32
  simp only [push_cast, Nat.reduceAdd, Nat.reduceLeDiff, Nat.reduceLT, Int.reduceToNat, Nat.left_eq_add, Nat.add_eq_left, Nat.add_left_cancel_iff, Nat.reduceEqDiff, Nat.add_assoc, Nat.succ_ne_zero, hp, Int.sub_zero]
  rw [wrap_i64 (by omega)]
  exact h

theorem buf_bytes {p n c b o : Nat} {z : Value} (hp : w.heap[p]? = some (cellsO [.slice (some ⟨b, o, none⟩) n c, i64 0, z] 43)) (h : K (.slice (some ⟨b, o, none⟩) n c) w.drew) : CallsR Tryd.prog 23 #[pt p 0] K w := by
  apply c23
  unfold p23
  simp only [push_cast, Nat.reduceAdd, Nat.reduceLeDiff, Nat.reduceLT, Int.reduceToNat, Nat.left_eq_add, Nat.add_eq_left, Nat.add_left_cancel_iff, Nat.reduceEqDiff, Nat.add_assoc, Nat.succ_ne_zero, hp, opS_slc0]
  exact h

theorem buf_try_no {p n c m : Nat} {a : Option Addr} {z : Value} (hp : w.heap[p]? = some (cellsO [.slice a n c, i64 0, z] 43)) (hc : c < 2 ^ 63) (hn : n ≤ c) (hm : c < n + m) (h : K (.tuple #[i64 0, .bool false]) w) : CallsR Tryd.prog 26 #[pt p 0, i64 m] K w := by
  apply c26
  unfold p26
  simp only [push_cast, Nat.reduceAdd, Nat.reduceLeDiff, Nat.reduceLT, Int.reduceToNat, Nat.left_eq_add, Nat.add_eq_left, Nat.add_left_cancel_iff, Nat.reduceEqDiff, Nat.add_assoc, Nat.succ_ne_zero, hp, opS_cap]
  rw [wrap_i64 (by omega)]
  exact br_no (by omega) h

theorem buf_try_yes {p n c m b o : Nat} {z : Value} (hp : w.heap[p]? = some (cellsO [.slice (some ⟨b, o, none⟩) n c, i64 0, z] 43)) (hc : c < 2 ^ 63) (hm : n + m ≤ c) (h : K (.tuple #[i64 n, .bool true]) (wr w p 0 [.slice (some ⟨b, o, none⟩) (n + m) c])) : CallsR Tryd.prog 26 #[pt p 0, i64 m] K w := by
  apply c26
  unfold p26
  simp only [push_cast, Nat.reduceAdd, Nat.reduceLeDiff, Nat.reduceLT, Int.reduceToNat, Nat.left_eq_add, Nat.add_eq_left, Nat.add_left_cancel_iff, Nat.reduceEqDiff, Nat.add_assoc, Nat.succ_ne_zero, hp, opS_cap]
  rw [wrap_i64 (by omega)]
  refine br_yes (by omega) ?_
  rw [wrap_i64 (by omega), opS_slice (run_boundsH (hi := (n : Int) + m) (by omega) (by omega))]
  simp only [push_cast, Nat.reduceAdd, Nat.reduceLeDiff, Nat.reduceLT, Int.reduceToNat, Nat.left_eq_add, Nat.add_eq_left, Nat.add_left_cancel_iff, Nat.reduceEqDiff, Nat.add_assoc, Nat.succ_ne_zero, hp, Nat.zero_mul, Option.map_some, add_none, ite_self, Nat.sub_zero]
  have e : ((n : Int) + m).toNat = n + m := by omega
  rw [e]
  exact h

theorem take_zeros : ∀ {k n : Nat}, n ≤ k → List.take n (zeros k [u8 0]) = zeros n [u8 0]
  | 0, n, h => by
    obtain rfl : n = 0 := by omega
    rfl
  | k + 1, 0, h => rfl
  | k + 1, n + 1, h => by
    have := take_zeros (k := k) (n := n) (by omega)
    unfold zeros at *
    rw [List.replicate_succ, List.replicate_succ, List.flatten_cons, List.flatten_cons]
    simp only [List.cons_append, List.nil_append, List.take_succ_cons]
    rw [this]

theorem buf_grow0 {p m : Nat} {z : Value} (hp : w.heap[p]? = some (cellsO [.slice none 0 0, i64 0, z] 43)) (h0 : 0 < m) (hm : m ≤ 64)
    (h : ∀ b w', p < b → Own 5 1 w' (.slice (some ⟨b, 0, none⟩) m 64) m (zeros m [u8 0]) → w'.heap[p]? = some (cellsO [.slice (some ⟨b, 0, none⟩) m 64, i64 0, z] 43) → Fr (fun x => x = p) w w' → K (i64 0) w') : CallsR Tryd.prog 27 #[pt p 0, i64 m] K w := by
  apply c27
  unfold p27
  have hlt := lt_of_heap hp
  simp only [push_cast, Nat.reduceAdd, Nat.reduceLeDiff, Nat.reduceLT, Int.reduceToNat, Nat.left_eq_add, Nat.add_eq_left, Nat.add_left_cancel_iff, Nat.reduceEqDiff, Nat.add_assoc, Nat.succ_ne_zero]
  refine buf_len hp (by decide) ?_
  have hp1 : w.drew.heap[p]? = some (cellsO [.slice none 0 0, i64 0, z] 43) := hp
  have hF1 : Fr (fun x => x = p) w w.drew := Fr.drew _
  have hs1 : w.drew.heap.size = w.heap.size := rfl
  generalize w.drew = w1 at *
  rw [jn_0, jn_0]
  simp only [push_cast, Nat.reduceAdd, Nat.reduceLeDiff, Nat.reduceLT, Int.reduceToNat, Nat.left_eq_add, Nat.add_eq_left, Nat.add_left_cancel_iff, Nat.reduceEqDiff, Nat.add_assoc, Nat.succ_ne_zero, hp1]
  refine br_intro (fun _ => ?_) fun h => absurd h (by decide)
  refine br_intro (fun h => absurd h (by decide)) fun _ => ?_
  refine buf_try_no hp1 (by decide) (by decide) (by omega) ?_
  rw [jn_0]
  simp only [push_cast, Nat.reduceAdd, Nat.reduceLeDiff, Nat.reduceLT, Int.reduceToNat, Nat.left_eq_add, Nat.add_eq_left, Nat.add_left_cancel_iff, Nat.reduceEqDiff, Nat.add_assoc, Nat.succ_ne_zero, hp1, S.isNilS, Option.isNone_none]
  refine br_yes (by omega) ?_
  rw [opS_mksc (z := .int .u8 0) .i64 .i64 (m : Int) 64 (by omega) (by omega) (by omega) (by omega) rfl (by decide)]
  have hne : p ≠ w1.heap.size := by omega
  simp only [push_cast, Nat.reduceAdd, Nat.reduceLeDiff, Nat.reduceLT, Int.reduceToNat, Nat.left_eq_add, Nat.add_eq_left, Nat.add_left_cancel_iff, Nat.reduceEqDiff, Nat.add_assoc, Nat.succ_ne_zero, hp1, hne, Int.toNat_natCast]
  refine h w1.heap.size _ (by omega) (.inr ⟨w1.heap.size, 0, 64, (zeros 64 [u8 0]).toArray, rfl, ?_, by omega, by decide, ?_⟩) ?_ (Fr.step_wr (hF1.step_alloc rfl) (.inl rfl) _ _)
  · rw [heap_wr, if_neg (by omega), heap_alloc_new]; rfl
  · show _ = List.take (m * 1) (List.drop 0 (zeros 64 [u8 0]))
    rw [List.drop_zero, Nat.mul_one, take_zeros hm]
  · simp only [push_cast, Nat.reduceAdd, Nat.reduceLeDiff, Nat.reduceLT, Int.reduceToNat, Nat.left_eq_add, Nat.add_eq_left, Nat.add_left_cancel_iff, Nat.reduceEqDiff, Nat.add_assoc, Nat.succ_ne_zero, hp1, hne, Int.toNat_natCast]

theorem grow_idle (w : World) : CallsDIn Fence.wide 0 Tryd.prog 35 #[] .returning w fun e u' w' => (∃ v, e = .returned v) ∧ u' = .returning ∧ w' = w := by
  refine callsDIn_of_wpSIn Tryd.func35 rfl trivial fun c₀ cs hu => ?_
  apply wpSIn_seq
  apply wpSIn_region
  simp [wpOpsSIn, go_sem, recoverD, hu, Tryd.ntmps35, Exit.thenS]
  refine wpSIn_cond (t := false) (by simp [Act.eval, Array.replicate]) ?_
  simp only [Bool.false_eq_true, if_false]
  refine wpSIn_of_wpIn rfl (wpIn_skip ?_)
  cases c₀
  simp_all [bodyPostS, results, Tryd.results35]

theorem buf_growSlice {b o n c m : Nat} {l : List Value} (hv : Own 5 1 w (.slice (some ⟨b, o, none⟩) n c) n l) (hl : l.all S.oneCell = true) (hc : c < n + m) (hr : n + m ≤ 2 ^ 30)
    (h : ∀ c' w' js, js.length = m → Own 5 1 w' (.slice (some ⟨w.heap.size, 0, none⟩) (n + m) c') (n + m) (l ++ js) → c' < 2 ^ 63 → Fr none_ w w' → K (.slice (some ⟨w.heap.size, 0, none⟩) n c') w') :
    CallsR Tryd.prog 34 #[.slice (some ⟨b, o, none⟩) n c, i64 m] K w := by
  apply c34
  unfold p34
  obtain ⟨cs, hb, hnc, hcs⟩ := hv.cells
  simp only [push_cast, Nat.reduceAdd, Nat.reduceLeDiff, Nat.reduceLT, Int.reduceToNat, Nat.left_eq_add, Nat.add_eq_left, Nat.add_left_cancel_iff, Nat.reduceEqDiff, Nat.add_assoc, Nat.succ_ne_zero, opS_cap]
  rw [wrap_i64 (x := (n : Int) + m) (by omega)]
  refine jn1 (fun v w' => w' = w ∧ ∃ k : Nat, v = i64 k ∧ n + m ≤ k ∧ k ≤ 2 ^ 32) ?_ fun j hj => ?_
  · rintro v w' ⟨rfl, k, rfl, hk1, hk2⟩
    refine s_appmk (z := .int .u8 0) (by exact Tryd.underlying3) (by omega) rfl (by decide) (by decide) (by omega) fun c' w2 h2 hc' hF => ?_
    obtain ⟨cs2, hb2, hnc2, hcs2⟩ := h2.cells
    have hv2 := hv.frame (w' := w2) fun b' hb' => hF.old b' (by cases hb'; exact lt_of_heap hb) fun h => h
    rw [s_copy (m := n) hb2 hv2.rd hl (by omega) (by omega)]
    have hll : l.length = n := by rw [hv.rd.len, Nat.mul_one]
    have h3 := h2.splice (a := 0) (k := l) (by omega)
    rw [Nat.add_zero] at h3
    have hz : (zeros k (Value.int .u8 0).cells.toList).length = k := by rw [zeros_length]; simp [Value.cells]
    have hsp : splice (zeros k (Value.int .u8 0).cells.toList) 0 l = l ++ (zeros k (Value.int .u8 0).cells.toList).drop n := by
      unfold splice; simp [hll]
    rw [hsp] at h3
    have h4 := h3.less hk1
    have e4 : List.take (n + m) (l ++ (zeros k (Value.int .u8 0).cells.toList).drop n) = l ++ ((zeros k (Value.int .u8 0).cells.toList).drop n).take m := by
      rw [List.take_append, List.take_of_length_le (by omega), hll]; congr 2; omega
    rw [e4] at h4
    rw [opS_slice (run_boundsH (hi := (n : Int)) (by omega) (by omega))]
    simp only [push_cast, Nat.reduceAdd, Nat.reduceLeDiff, Nat.reduceLT, Int.reduceToNat, Nat.left_eq_add, Nat.add_eq_left, Nat.add_left_cancel_iff, Nat.reduceEqDiff, Nat.add_assoc, Nat.succ_ne_zero, Nat.zero_mul, Option.map_some, add_none, ite_self, Nat.sub_zero, Int.toNat_natCast]
    refine ⟨_, _, rfl, (grow_idle _).mono ?_⟩
    rintro e u' w3 ⟨he, hu, rfl⟩
    refine ⟨he, hu, h c' _ _ ?_ h4 hc' (hF.step_wr (.inr (Nat.le_refl _)) _ _)⟩
    rw [List.length_take, List.length_drop, hz]; omega
  · simp only [push_cast, Nat.reduceAdd, Nat.reduceLeDiff, Nat.reduceLT, Int.reduceToNat, Nat.left_eq_add, Nat.add_eq_left, Nat.add_left_cancel_iff, Nat.reduceEqDiff, Nat.add_assoc, Nat.succ_ne_zero, opS_cap]
    rw [wrap_i64 (x := 2 * (c : Int)) (by omega)]
    refine br_dec (fun hlt => ?_) fun hge => ?_
    · exact hj _ _ ⟨rfl, 2 * c, by simp, by omega, by omega⟩
    · exact hj _ _ ⟨rfl, n + m, by simp, by omega, by omega⟩

theorem buf_grow1 {p b o n c m : Nat} {l : List Value} {z : Value} (hp : w.heap[p]? = some (cellsO [.slice (some ⟨b, o, none⟩) n c, i64 0, z] 43)) (hv : Own 5 1 w (.slice (some ⟨b, o, none⟩) n c) n l) (hl : l.all S.oneCell = true)
    (hpb : p < b) (hc : c < n + m) (hr : n + m ≤ 2 ^ 30)
    (h : ∀ b' c' w' js, p < b' → js.length = m → Own 5 1 w' (.slice (some ⟨b', 0, none⟩) (n + m) c') (n + m) (l ++ js) → c' < 2 ^ 63 → w'.heap[p]? = some (cellsO [.slice (some ⟨b', 0, none⟩) (n + m) c', i64 0, z] 43) → Fr (fun x => x = p) w w' → K (i64 n) w') :
    CallsR Tryd.prog 27 #[pt p 0, i64 m] K w := by
  apply c27
  unfold p27
  have hlt := lt_of_heap hp
  obtain ⟨cs, hb, hnc, hcs⟩ := hv.cells
  simp only [push_cast, Nat.reduceAdd, Nat.reduceLeDiff, Nat.reduceLT, Int.reduceToNat, Nat.left_eq_add, Nat.add_eq_left, Nat.add_left_cancel_iff, Nat.reduceEqDiff, Nat.add_assoc, Nat.succ_ne_zero]
  refine buf_len hp (by omega) ?_
  have hp1 : w.drew.heap[p]? = some (cellsO [.slice (some ⟨b, o, none⟩) n c, i64 0, z] 43) := hp
  have hF1 : Fr (fun x => x = p) w w.drew := Fr.drew _
  have hv1 : Own 5 1 w.drew (.slice (some ⟨b, o, none⟩) n c) n l := hv
  have hs1 : w.drew.heap.size = w.heap.size := rfl
  generalize w.drew = w1 at *
  have hlt1 := lt_of_heap hp1
  refine jn0 (fun w' => w' = w1) ?_ fun j hj => ?_
  · rintro w' rfl
    refine buf_try_no hp1 (by omega) hnc hc ?_
    simp only [push_cast, Nat.reduceAdd, Nat.reduceLeDiff, Nat.reduceLT, Int.reduceToNat, Nat.left_eq_add, Nat.add_eq_left, Nat.add_left_cancel_iff, Nat.reduceEqDiff, Nat.add_assoc, Nat.succ_ne_zero]
    rw [jn_0]
    simp only [push_cast, Nat.reduceAdd, Nat.reduceLeDiff, Nat.reduceLT, Int.reduceToNat, Nat.left_eq_add, Nat.add_eq_left, Nat.add_left_cancel_iff, Nat.reduceEqDiff, Nat.add_assoc, Nat.succ_ne_zero, hp1, S.isNilS, Option.isNone_some, opS_cap]
    refine jn0 (fun w2 => ∃ b' c' js, p < b' ∧ js.length = m ∧ Own 5 1 w2 (.slice (some ⟨b', 0, none⟩) (n + m) c') (n + m) (l ++ js) ∧ c' < 2 ^ 63 ∧ w2.heap[p]? = some (cellsO [.slice (some ⟨b', 0, none⟩) n c', i64 0, z] 43) ∧ Fr (fun x => x = p) w w2) ?_ fun j hj => ?_
    · rintro w2 ⟨b', c', js, hb', hjs, ho2, hc2, hp2, hF2⟩
      have hc' : n + m ≤ c' := by obtain ⟨_, _, h2, _⟩ := ho2.cells; exact h2
      simp only [push_cast, Nat.reduceAdd, Nat.reduceLeDiff, Nat.reduceLT, Int.reduceToNat, Nat.left_eq_add, Nat.add_eq_left, Nat.add_left_cancel_iff, Nat.reduceEqDiff, Nat.add_assoc, Nat.succ_ne_zero, hp2]
      rw [wrap_i64 (x := (n : Int) + m) (by omega), opS_slice (run_boundsH (hi := (n : Int) + m) (by omega) (by omega))]
      have e : ((n : Int) + m).toNat = n + m := by omega
      simp only [push_cast, Nat.reduceAdd, Nat.reduceLeDiff, Nat.reduceLT, Int.reduceToNat, Nat.left_eq_add, Nat.add_eq_left, Nat.add_left_cancel_iff, Nat.reduceEqDiff, Nat.add_assoc, Nat.succ_ne_zero, hp2, Nat.zero_mul, Option.map_some, add_none, ite_self, Nat.sub_zero, e]
      refine h b' c' _ js hb' hjs ?_ hc2 ?_ (Fr.step_wr (Fr.step_wr hF2 (.inl rfl) _ _) (.inl rfl) _ _)
      · refine ho2.frame fun x hx => ?_
        obtain rfl : b' = x := Option.some.inj hx
        rw [heap_wr, if_neg (by omega), heap_wr, if_neg (by omega)]
      · simp only [push_cast, Nat.reduceAdd, Nat.reduceLeDiff, Nat.reduceLT, Int.reduceToNat, Nat.left_eq_add, Nat.add_eq_left, Nat.add_left_cancel_iff, Nat.reduceEqDiff, Nat.add_assoc, Nat.succ_ne_zero, hp2]
    · rw [opS_quo _ _ _ (by decide)]
      simp only [push_cast, Nat.reduceAdd, Nat.reduceLeDiff, Nat.reduceLT, Int.reduceToNat, Nat.left_eq_add, Nat.add_eq_left, Nat.add_left_cancel_iff, Nat.reduceEqDiff, Nat.add_assoc, Nat.succ_ne_zero]
      have e2 : (c : Int).tdiv 2 = c / 2 := by rw [Int.tdiv_eq_ediv_of_nonneg (by omega)]
      rw [e2, wrap_i64 (x := (c : Int) / 2) (by omega), wrap_i64 (x := (c : Int) / 2 - n) (by omega)]
      refine br_no (by omega) ?_
      rw [jn_0]
      simp only [push_cast, Nat.reduceAdd, Nat.reduceLeDiff, Nat.reduceLT, Int.reduceToNat, Nat.left_eq_add, Nat.add_eq_left, Nat.add_left_cancel_iff, Nat.reduceEqDiff, Nat.add_assoc, Nat.succ_ne_zero]
      rw [wrap_i64 (x := 9223372036854775807 - (c : Int)) (by omega), wrap_i64 (x := 9223372036854775807 - (c : Int) - m) (by omega)]
      refine br_no (by omega) ?_
      have hp3 : w'.drew.heap[p]? = some (cellsO [.slice (some ⟨b, o, none⟩) n c, i64 0, z] 43) := hp1
      have hv3 : Own 5 1 w'.drew (.slice (some ⟨b, o, none⟩) n c) n l := hv1
      have hF3 : Fr (fun x => x = p) w w'.drew := hF1.step_drew
      have hs3 : w'.drew.heap.size = w.heap.size := hs1
      simp only [push_cast, Nat.reduceAdd, Nat.reduceLeDiff, Nat.reduceLT, Int.reduceToNat, Nat.left_eq_add, Nat.add_eq_left, Nat.add_left_cancel_iff, Nat.reduceEqDiff, Nat.add_assoc, Nat.succ_ne_zero, hp1, opS_slc0]
      generalize w'.drew = w3 at *
      rw [Int.zero_add, wrap_i64 (x := (m : Int)) (by omega)]
      refine buf_growSlice hv3 hl hc hr fun c' w4 js hjs ho4 hc4 hF4 => ?_
      have hp4 := hF4.heap hp3 fun h => h
      simp only [push_cast, Nat.reduceAdd, Nat.reduceLeDiff, Nat.reduceLT, Int.reduceToNat, Nat.left_eq_add, Nat.add_eq_left, Nat.add_left_cancel_iff, Nat.reduceEqDiff, Nat.add_assoc, Nat.succ_ne_zero, hp4]
      refine hj _ ⟨w3.heap.size, c', js, by omega, hjs, ?_, hc4, ?_, Fr.step_wr (hF3.trans (hF4.mono fun _ _ h => h.elim)) (.inl rfl) _ _⟩
      · refine ho4.frame fun x hx => ?_
        obtain rfl : w3.heap.size = x := Option.some.inj hx
        rw [heap_wr, if_neg (by omega)]
      · simp only [push_cast, Nat.reduceAdd, Nat.reduceLeDiff, Nat.reduceLT, Int.reduceToNat, Nat.left_eq_add, Nat.add_eq_left, Nat.add_left_cancel_iff, Nat.reduceEqDiff, Nat.add_assoc, Nat.succ_ne_zero, hp4]
  · rw [jn_0]
    simp only [push_cast, Nat.reduceAdd, Nat.reduceLeDiff, Nat.reduceLT, Int.reduceToNat, Nat.left_eq_add, Nat.add_eq_left, Nat.add_left_cancel_iff, Nat.reduceEqDiff, Nat.add_assoc, Nat.succ_ne_zero, hp1]
    refine br_intro (fun _ => ?_) fun _ => hj _ rfl
    refine br_intro (fun h => absurd h (by decide)) fun _ => hj _ rfl

/-- a buffer, at p, with some bytes in it, whose row lies behind it -/
def BufR (w : World) (p : Nat) (bs : List Int) : Prop := ∃ b o c z, w.heap[p]? = some (cellsO [.slice (some ⟨b, o, none⟩) bs.length c, i64 0, .int .i8 z] 43) ∧ Own 5 1 w (.slice (some ⟨b, o, none⟩) bs.length c) bs.length (bs.map u8) ∧ c < 2 ^ 63 ∧ p < b ∧ ∀ x ∈ bs, isB x

theorem BufR.fr {fp : Nat → Prop} {w' : World} {p : Nat} {bs : List Int} (h : BufR w p bs) (hF : Fr fp w w') (hn : ∀ x, p ≤ x → ¬ fp x) : BufR w' p bs := by
  obtain ⟨b, o, c, z, h1, h2, h3, h4, h5⟩ := h
  refine ⟨b, o, c, z, hF.heap h1 (hn _ (Nat.le_refl _)), h2.frame fun x hx => ?_, h3, h4, h5⟩
  obtain rfl : b = x := Option.some.inj hx
  exact hF.old _ (h2.lt rfl) (hn _ (by omega))
theorem BufR.lt {p : Nat} {bs : List Int} (h : BufR w p bs) : p < w.heap.size := by
  obtain ⟨b, o, c, z, h1, _⟩ := h
  exact lt_of_heap h1

theorem u8s_one (bs : List Int) : (bs.map u8).all S.oneCell = true := by
  rw [List.all_map, List.all_eq_true]; intro x _; rfl
theorem byR_rd1 {v : Value} {bs : List Int} (h : ByR w v bs) : Rd 1 w v bs.length (bs.map u8) := by
  have := h.1.1
  rwa [flat_cell1, List.length_map] at this

/-- bytes are copied behind those that are there -/
theorem buf_put {p b o c : Nat} {bs ps : List Int} {js : List Value} {z : Int} {v : Value} (hp : w.heap[p]? = some (cellsO [.slice (some ⟨b, o, none⟩) (bs.length + ps.length) c, i64 0, .int .i8 z] 43))
    (hv : Own 5 1 w (.slice (some ⟨b, o, none⟩) (bs.length + ps.length) c) (bs.length + ps.length) (bs.map u8 ++ js)) (hc : c < 2 ^ 63) (hpb : p < b) (hb : ∀ x ∈ bs, isB x) (hx : ByR w v ps)
    (h : ∀ w', BufR w' p (bs ++ ps) → Fr (fun x => p ≤ x) w w' → K (.tuple #[i64 ps.length, .nilIface]) w') :
    opS Tryd.prog (S.nc (pt p 0)) (fun x10 => opS Tryd.prog (S.fa 43 x10 0) fun x11 => opS Tryd.prog (S.ld 24 x11) fun x12 => opS Tryd.prog (S.slc 24 x12 (some (i64 bs.length)) none none) fun x13 =>
      opS Tryd.prog (S.bi .copy #[24, 24] 3 [x13, v]) fun x14 => K (.tuple #[x14, .nilIface])) w := by
  obtain ⟨cs, hbb, hnc, hcs⟩ := hv.cells
  simp only [push_cast, Nat.reduceAdd, Nat.reduceLeDiff, Nat.reduceLT, Int.reduceToNat, Nat.left_eq_add, Nat.add_eq_left, Nat.add_left_cancel_iff, Nat.reduceEqDiff, Nat.add_assoc, Nat.succ_ne_zero, hp]
  rw [opS_slice (run_boundsL (lo := (bs.length : Int)) (by omega) (by omega))]
  have e1 : bs.length + ps.length - (bs.length : Int).toNat = ps.length := by omega
  have e2 : (bs.length : Int).toNat = bs.length := by omega
  rw [e1, e2, Nat.mul_one, Option.map_some, add_none]
  have hlen : (bs ++ ps).length = bs.length + ps.length := List.length_append
  have hall : ∀ x ∈ bs ++ ps, isB x := fun x hx' => (List.mem_append.1 hx').elim (hb x) (hx.2 x)
  by_cases h0 : c = bs.length
  · have hps : ps = [] := List.eq_nil_of_length_eq_zero (by omega)
    subst hps
    rw [if_pos h0, s_copy (m := 0) hbb (byR_rd1 hx) rfl (by simp) (by simp; omega)]
    have hjs : js = [] := List.eq_nil_of_length_eq_zero (by have := hv.rd.len; rw [List.length_append, List.length_map, Nat.mul_one, List.length_nil] at this; omega)
    subst hjs
    simp only [List.map_nil, wr_nil]
    refine h w ⟨b, o, c, z, by rw [hlen]; exact hp, by rw [hlen, List.map_append]; exact hv, hc, hpb, hall⟩ (Fr.refl _ _)
  · rw [if_neg h0, s_copy (m := ps.length) hbb (byR_rd1 hx) (u8s_one _) (Nat.le_refl _) (by omega)]
    have h2 := hv.copy (k := ps.map u8) (List.length_map _) (List.length_map _)
    refine h _ ⟨b, o, c, z, ?_, by rw [hlen, List.map_append]; exact h2, hc, hpb, hall⟩ (Fr.wr _ _ _ _ (by omega))
    rw [heap_wr, if_neg (by omega), hlen]; exact hp

theorem buf_write0 {p : Nat} {ps : List Int} {z : Value} {v : Value} (hp : w.heap[p]? = some (cellsO [.slice none 0 0, i64 0, z] 43)) (hx : ByR w v ps) (hv : blkS v ≠ some p) (h0 : 0 < ps.length) (h1 : ps.length ≤ 64)
    (h : ∀ w', BufR w' p ps → Fr (fun x => p ≤ x) w w' → K (.tuple #[i64 ps.length, .nilIface]) w') : CallsR Tryd.prog 21 #[pt p 0, v] K w := by
  apply c21
  unfold p21
  have hltp := lt_of_heap hp
  obtain ⟨a, c, rfl⟩ := hx.form
  simp only [push_cast, Nat.reduceAdd, Nat.reduceLeDiff, Nat.reduceLT, Int.reduceToNat, Nat.left_eq_add, Nat.add_eq_left, Nat.add_left_cancel_iff, Nat.reduceEqDiff, Nat.add_assoc, Nat.succ_ne_zero, hp]
  refine buf_try_no (n := 0) (c := 0) (a := none) (z := .int .i8 0) (by simp only [push_cast, Nat.reduceAdd, Nat.reduceLeDiff, Nat.reduceLT, Int.reduceToNat, Nat.left_eq_add, Nat.add_eq_left, Nat.add_left_cancel_iff, Nat.reduceEqDiff, Nat.add_assoc, Nat.succ_ne_zero, hp]) (by decide) (by decide) (by omega) ?_
  have hF0 : Fr (fun x => x = p) w (wr w p 2 [.int .i8 0]) := Fr.wr _ _ _ _ rfl
  have hx1 : ByR (wr w p 2 [.int .i8 0]) (.slice a ps.length c) ps := hx.fr hF0 fun b hb e => hv (e ▸ hb)
  have hp1 : (wr w p 2 [.int .i8 0]).heap[p]? = some (cellsO [.slice none 0 0, i64 0, .int .i8 0] 43) := by simp only [push_cast, Nat.reduceAdd, Nat.reduceLeDiff, Nat.reduceLT, Int.reduceToNat, Nat.left_eq_add, Nat.add_eq_left, Nat.add_left_cancel_iff, Nat.reduceEqDiff, Nat.add_assoc, Nat.succ_ne_zero, hp]
  generalize wr w p 2 [.int .i8 0] = w1 at *
  simp only [push_cast, Nat.reduceAdd, Nat.reduceLeDiff, Nat.reduceLT, Int.reduceToNat, Nat.left_eq_add, Nat.add_eq_left, Nat.add_left_cancel_iff, Nat.reduceEqDiff, Nat.add_assoc, Nat.succ_ne_zero]
  refine jn1 (fun u w2 => u = i64 0 ∧ ∃ b, p < b ∧ Own 5 1 w2 (.slice (some ⟨b, 0, none⟩) ps.length 64) ps.length (zeros ps.length [u8 0]) ∧ w2.heap[p]? = some (cellsO [.slice (some ⟨b, 0, none⟩) ps.length 64, i64 0, .int .i8 0] 43) ∧ Fr (fun x => x = p) w1 w2) ?_ fun j hj => ?_
  · rintro u w2 ⟨rfl, b, hb, h2, h3, h4⟩
    refine buf_put (bs := []) (js := zeros ps.length [u8 0]) (by simpa using h3) (by simpa using h2) (by decide) hb (by simp) (hx1.fr h4 fun b hb e => hv (e ▸ hb)) fun w3 h5 h6 => h w3 h5 (((hF0.trans h4).mono fun x _ e => e ▸ Nat.le_refl _).trans h6)
  · refine buf_grow0 hp1 h0 h1 fun b w2 hb h2 h3 h4 => hj _ _ ⟨rfl, b, hb, h2, h3, h4⟩

theorem byR_keep {fp : Nat → Prop} {w' : World} {v : Value} {bs : List Int} (h : ByR w v bs) (hF : Fr fp w w') (hn : bs ≠ [] → ∀ b, blkS v = some b → ¬ fp b) : ByR w' v bs := by
  by_cases e : bs = []
  · subst e
    obtain ⟨a, c, rfl⟩ := h.form
    exact ByR.nil _ _ _
  · exact h.fr hF (hn e)

theorem buf_write {p : Nat} {bs ps : List Int} {v : Value} (hp : BufR w p bs) (hx : ByR w v ps) (hv : ps ≠ [] → blkS v ≠ some p) (h1 : bs.length + ps.length ≤ 2 ^ 30)
    (h : ∀ w', BufR w' p (bs ++ ps) → Fr (fun x => p ≤ x) w w' → K (.tuple #[i64 ps.length, .nilIface]) w') : CallsR Tryd.prog 21 #[pt p 0, v] K w := by
  obtain ⟨b, o, c, z, hp, ho, hc, hpb, hb⟩ := hp
  apply c21
  unfold p21
  have hltp := lt_of_heap hp
  obtain ⟨va, vc, rfl⟩ := hx.form
  simp only [push_cast, Nat.reduceAdd, Nat.reduceLeDiff, Nat.reduceLT, Int.reduceToNat, Nat.left_eq_add, Nat.add_eq_left, Nat.add_left_cancel_iff, Nat.reduceEqDiff, Nat.add_assoc, Nat.succ_ne_zero, hp]
  have hF0 : Fr (fun x => x = p) w (wr w p 2 [.int .i8 0]) := Fr.wr _ _ _ _ rfl
  have hx1 : ByR (wr w p 2 [.int .i8 0]) (.slice va ps.length vc) ps := byR_keep hx hF0 fun h0 b hb e => hv h0 (e ▸ hb)
  have hp1 : (wr w p 2 [.int .i8 0]).heap[p]? = some (cellsO [.slice (some ⟨b, o, none⟩) bs.length c, i64 0, .int .i8 0] 43) := by simp only [push_cast, Nat.reduceAdd, Nat.reduceLeDiff, Nat.reduceLT, Int.reduceToNat, Nat.left_eq_add, Nat.add_eq_left, Nat.add_left_cancel_iff, Nat.reduceEqDiff, Nat.add_assoc, Nat.succ_ne_zero, hp]
  have ho1 : Own 5 1 (wr w p 2 [.int .i8 0]) (.slice (some ⟨b, o, none⟩) bs.length c) bs.length (bs.map u8) := ho.frame fun x hx => hF0.old x (ho.lt hx) fun e => by
    obtain rfl : b = x := Option.some.inj hx
    omega
  generalize wr w p 2 [.int .i8 0] = w1 at *
  have key : ∀ w2 (k : Value → World → Prop), (∃ b o c js, p < b ∧ c < 2 ^ 63 ∧ Own 5 1 w2 (.slice (some ⟨b, o, none⟩) (bs.length + ps.length) c) (bs.length + ps.length) (bs.map u8 ++ js) ∧ w2.heap[p]? = some (cellsO [.slice (some ⟨b, o, none⟩) (bs.length + ps.length) c, i64 0, .int .i8 0] 43) ∧ Fr (fun x => x = p) w1 w2) →
      opS Tryd.prog (S.nc (pt p 0)) (fun x10 => opS Tryd.prog (S.fa 43 x10 0) fun x11 => opS Tryd.prog (S.ld 24 x11) fun x12 => opS Tryd.prog (S.slc 24 x12 (some (i64 bs.length)) none none) fun x13 =>
      opS Tryd.prog (S.bi .copy #[24, 24] 3 [x13, .slice va ps.length vc]) fun x14 => K (.tuple #[x14, .nilIface])) w2 := by
    rintro w2 k ⟨b, o, c, js, h2, h3, h4, h5, h6⟩
    exact buf_put h5 h4 h3 h2 hb (byR_keep hx1 h6 fun h0 b hb e => hv h0 (e ▸ hb)) fun w3 h7 h8 => h w3 h7 (((hF0.trans h6).mono fun x _ e => e ▸ Nat.le_refl _).trans h8)
  have hnc : bs.length ≤ c := by obtain ⟨_, _, h2, _⟩ := ho1.cells; exact h2
  by_cases hm : bs.length + ps.length ≤ c
  · refine buf_try_yes hp1 hc hm ?_
    simp only [push_cast, Nat.reduceAdd, Nat.reduceLeDiff, Nat.reduceLT, Int.reduceToNat, Nat.left_eq_add, Nat.add_eq_left, Nat.add_left_cancel_iff, Nat.reduceEqDiff, Nat.add_assoc, Nat.succ_ne_zero]
    rw [jn_1]
    refine key _ K ?_
    obtain ⟨js, hjs, ho2⟩ := ho1.more hm
    refine ⟨b, o, c, js, hpb, hc, ho2.frame fun x hx => ?_, by simp only [push_cast, Nat.reduceAdd, Nat.reduceLeDiff, Nat.reduceLT, Int.reduceToNat, Nat.left_eq_add, Nat.add_eq_left, Nat.add_left_cancel_iff, Nat.reduceEqDiff, Nat.add_assoc, Nat.succ_ne_zero, hp1], Fr.wr _ _ _ _ rfl⟩
    obtain rfl : b = x := Option.some.inj hx
    rw [heap_wr, if_neg (by omega)]
  · refine buf_try_no hp1 hc hnc (by omega) ?_
    simp only [push_cast, Nat.reduceAdd, Nat.reduceLeDiff, Nat.reduceLT, Int.reduceToNat, Nat.left_eq_add, Nat.add_eq_left, Nat.add_left_cancel_iff, Nat.reduceEqDiff, Nat.add_assoc, Nat.succ_ne_zero]
    rw [jn_1]
    refine buf_grow1 hp1 ho1 (u8s_one _) hpb (by omega) h1 fun b' c' w2 js hb' hjs ho2 hc2 hp2 hF2 => key w2 K ⟨b', 0, c', js, hb', hc2, ho2, hp2, hF2⟩

end Go.Gx.S
