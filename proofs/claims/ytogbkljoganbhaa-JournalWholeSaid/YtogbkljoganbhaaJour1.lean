/- The journal. -/
import Derived.Test.YtogbkljoganbhaaJour1T
import Derived.Test.YtogbkljoganbhaaBaseMac
import Derived.Test.YtogbkljoganbhaaGxElem
set_option linter.unusedVariables false
set_option maxRecDepth 100000
namespace Go.Gx.S.Jour
open Go Go.Gx Go.Gx.S Go.Proofs
variable {K : Value → World → Prop} {w : World}

/-- a change's cells -/
def chg (i : Nat) (x : List Value) (g : Bool) : List Value := i64 i :: (x ++ [.bool g])

/-- a journal of the program -/
structure JRep (w : World) (p rb : Nat) (room : Nat) (hs : List (List Value × Bool)) (o c : Nat) (es : List (List Value)) : Prop where
  blk : w.heap[p]? = some (cellsO [.slice (some ⟨rb, o, none⟩) es.length c, i64 hs.length] 61)
  ring : OwnE 48 12 w (.slice (some ⟨rb, o, none⟩) es.length c) es
  len : es.length = room
  ne : p ≠ rb
  said : ∀ i (h : i < hs.length), hs.length ≤ i + room → es[(i + 1) % room]? = some (chg (i + 1) hs[i].1 hs[i].2)

theorem JRep.fr {fp : Nat → Prop} {w w' : World} {p rb room : Nat} {hs : List (List Value × Bool)} {o c : Nat} {es : List (List Value)} (h : JRep w p rb room hs o c es) (hf : Fr fp w w') (h1 : ¬ fp p) (h2 : ¬ fp rb) : JRep w' p rb room hs o c es :=
  ⟨hf.heap h.blk h1, h.ring.fr hf (fun b hb => by cases hb; exact h2), h.len, h.ne, h.said⟩

theorem last_spec {p : Nat} {rv : Value} {n : Int} (hp : w.heap[p]? = some (cellsO [rv, i64 n] 61)) (h : K (i64 n) w) : CallsR Try.prog 14 #[pt p 0] K w := by
  apply c14
  unfold p14
  simp only [push_cast, hp]
  exact h

theorem new_spec (room : Int) (h0 : room < 1 ∨ 1000 < room → K (.tuple #[.pointer none, i64 1]) w)
    (h1 : 1 ≤ room → room ≤ 1000 → ∀ (p rb : Nat) (w' : World) (o c : Nat) (es : List (List Value)), JRep w' p rb room.toNat [] o c es → Fr none_ w w' → w.heap.size ≤ p → w.heap.size ≤ rb → K (.tuple #[pt p 0, i64 0]) w') :
    CallsR Try.prog 10 #[i64 room] K w := by
  apply c10
  unfold p10
  simp only [push_cast]
  refine br_dec (fun ha => h0 (.inl ha)) fun ha => ?_
  refine br_dec (fun hb => h0 (.inr hb)) fun hb => ?_
  rw [opS_mks _ _ _ (by omega) (by omega) (by omega) (by rfl) (by decide)]
  simp only [push_cast]
  rw [opS_build _ rfl]
  simp only [push_cast]
  obtain ⟨r, rfl⟩ : ∃ r : Nat, room = r := ⟨room.toNat, by omega⟩
  simp only [Int.toNat_natCast]
  refine h1 (by omega) (by omega) (w.heap.size + 1) w.heap.size ((w.alloc _).alloc _) 0 r (List.replicate r (Value.agg #[i64 0, i64 0, .int .u8 0, .int .u8 0, .int .u8 0, .int .u8 0, .int .u8 0, .int .u8 0, i64 0, i64 0, .bool false, .bool false]).cells.toList) ⟨?_, ⟨?_, ?_⟩, ?_, by omega, ?_⟩ ?_ (by omega) (by omega)
  · simp only [push_cast, List.length_replicate]; rfl
  · rw [List.length_replicate]
    refine .inr ⟨w.heap.size, 0, r, (zeros r (Value.agg #[i64 0, i64 0, .int .u8 0, .int .u8 0, .int .u8 0, .int .u8 0, .int .u8 0, .int .u8 0, i64 0, i64 0, .bool false, .bool false]).cells.toList).toArray, rfl, ?_, Nat.le_refl _, ?_, ?_⟩
    · simp only [push_cast]
      rw [if_neg (by omega)]; rfl
    · rw [List.size_toArray, zeros_length]; simp [Value.cells]
    · rw [List.drop_zero, List.take_of_length_le (by rw [zeros_length]; simp [Value.cells])]; rfl
  · intro e he
    rw [List.eq_of_mem_replicate he]; rfl
  · simp
  · intro i hi; simp at hi
  · exact ((Fr.refl _ _).step_alloc rfl).step_alloc rfl

set_option linter.unusedSimpArgs false
theorem put_spec {p rb room o c : Nat} {hs : List (List Value × Bool)} {es : List (List Value)} {x : List Value} {g : Bool} (hj : JRep w p rb room hs o c es) (hr : 0 < room) (hr2 : room ≤ 1000) (hx : x.length = 10) (hx1 : x.all S.oneCell = true) (hn : hs.length < 2 ^ 30)
    (h : ∀ w' es', JRep w' p rb room (hs ++ [(x, g)]) o c es' → Fr (fun b => b = p ∨ b = rb) w w' → K (.tuple #[i64 (hs.length + 1), i64 0]) w') : CallsR Try.prog 12 #[pt p 0, .agg x.toArray, .bool g] K w := by
  apply c12
  unfold p12
  have hp := hj.blk
  have hlt := lt_of_heap hp
  have hne : p ≠ w.heap.size := by omega
  simp only [push_cast, hp, hne, if_false]
  refine br_no (by omega) ?_
  rw [wrap_i64 (by omega)]
  have hll : ((es.length : Nat) : Int) ≠ 0 := by rw [hj.len]; omega
  rw [opS_rem _ _ _ hll]
  have hne2 : w.heap.size ≠ p := fun e => hne e.symm
  have hnr : rb ≠ w.heap.size := by have := hj.ring.lt (b := rb) rfl; omega
  have hrp : rb ≠ p := fun e => hj.ne e.symm
  have hpr := hj.ne
  simp only [push_cast, Nat.reduceAdd, Nat.reduceLeDiff, Nat.reduceLT, hp, hne, hne2, hx]
  have e2 : x.drop 0 = x := rfl
  have e3 : x.take 10 = x := List.take_of_length_le (by omega)
  simp only [push_cast, Nat.reduceAdd, Nat.reduceLeDiff, Nat.reduceLT, e2, e3]
  have e4 : mergeF 0 [[.int .i64 0], [.int .i64 0, .int .u8 0, .int .u8 0, .int .u8 0, .int .u8 0, .int .u8 0, .int .u8 0, .int .i64 0, .int .i64 0, .bool false], [.bool false]] [(0, i64 (hs.length + 1)), (1, .agg x.toArray), (2, .bool g)] = some (chg (hs.length + 1) x g) := by
    simp [mergeF, Value.cells, hx, chg]
  rw [opS_build _ (by rw [e4]; rfl), e4]
  simp only [push_cast, Option.getD_some]
  have hm : ((hs.length : Int) + 1).tmod es.length = ((hs.length + 1) % es.length : Nat) := by
    exact Int.ofNat_tmod (hs.length + 1) es.length
  have hi : (hs.length + 1) % es.length < es.length := Nat.mod_lt _ (by rw [hj.len]; exact hr)
  rw [hm]
  have hO : OwnE 48 12 (wr (w.alloc (cellsO x 36)) p 1 [Value.int IntKind.i64 (hs.length + 1)]).drew (Value.slice (some ⟨rb, o, none⟩) es.length c) es :=
    hj.ring.frame fun b hb => by cases hb; simp only [push_cast, hrp, hnr]
  refine s_iaE hO.rd (by omega) (by rw [Int.toNat_natCast]; exact hi) fun b o' c' hv _ => ?_
  simp only [Value.slice.injEq, Option.some.injEq, Addr.mk.injEq] at hv
  obtain ⟨⟨rfl, rfl, _⟩, _, rfl⟩ := hv
  rw [Int.toNat_natCast]
  have hcl : (chg (hs.length + 1) x g).length = 12 := by simp [chg, hx]
  obtain ⟨hok, hput⟩ := hO.put hcl hi
  rw [s_stA _ _ _ hcl (by simp only [chg, List.all_cons, List.all_append, hx1, one_int, one_bool, List.all_nil]; rfl), hok]
  simp only [push_cast, Nat.reduceAdd, Nat.reduceLeDiff, Nat.reduceLT, hp, hne, hpr]
  refine h _ (es.set ((hs.length + 1) % es.length) (chg (hs.length + 1) x g)) ⟨?_, by rw [List.length_set]; exact hput, ?_, hpr, ?_⟩ ?_
  · simp only [push_cast, hp, hne, hpr, List.length_set, List.length_append]
  · rw [List.length_set]; exact hj.len
  · intro i hi2 hi3
    rw [List.length_append] at hi2 hi3
    simp only [List.length_cons, List.length_nil] at hi2 hi3
    by_cases e : i = hs.length
    · subst e
      rw [hj.len, List.getElem?_set_self (by rw [← hj.len]; exact hi)]
      simp
    · have hi4 : i < hs.length := by omega
      have hne3 : (hs.length + 1) % es.length ≠ (i + 1) % room := by
        rw [hj.len]
        intro e2
        have := Nat.sub_mod_eq_zero_of_mod_eq e2
        rw [Nat.mod_eq_of_lt (by omega)] at this
        omega
      rw [List.getElem?_set_ne hne3, hj.said i hi4 (by omega), List.getElem_append_left hi4]
  · exact ((((Fr.refl _ _).step_alloc rfl).step_wr (.inl (.inl rfl)) _ _).step_drew).step_wr (.inl (.inr rfl)) _ _

end Go.Gx.S.Jour
