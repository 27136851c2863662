/- Since, of the program. -/
import Derived.Test.YtogbkljoganbhaaJour4T
import Derived.Test.YtogbkljoganbhaaJour2
import Derived.Test.YtogbkljoganbhaaGxRf
set_option linter.unusedVariables false
set_option linter.unusedSimpArgs false
set_option maxRecDepth 100000
namespace Go.Gx.S.Jour
open Go Go.Gx Go.Gx.S Go.Proofs
variable {K : Value → World → Prop} {w : World}

theorem behind_spec {j : Value} {seq : Int} (hj1 : j.cells = #[j]) (h : K (.func (.func 32) #[] #[pt (w.heap.size + 1) 0, pt w.heap.size 0]) ((w.alloc (cellsO [j] 24)).alloc (cellsO [i64 seq] 3))) : CallsR Try.prog 23 #[j, i64 seq] K w := by
  apply c23
  unfold p23
  simp only [push_cast, hj1]
  exact h

/-- the rounds: 'I i w' holds when i of the changes have been told -/
theorem behind1_spec {p rb room o c sb jb seq : Nat} {hs : List (List Value × Bool)} {es : List (List Value)} {y : Value} (I : Nat → World → Prop) (hr : 0 < room) (hn : hs.length < 2 ^ 30)
    (hI : ∀ i w, I i w → JRep w p rb room hs o c es ∧ w.heap[sb]? = some (cellsO [i64 seq] 3) ∧ w.heap[jb]? = some (cellsO [pt p 0] 24) ∧ I i w.drew)
    (hs1 : seq ≤ hs.length) (hs2 : hs.length ≤ seq + room)
    (hy : ∀ i w KY (hi : seq + i < hs.length), I i w → (∀ w', I (i + 1) w' → KY (.bool true) w') → opS Try.prog (S.call y [.agg (chg (seq + i + 1) hs[seq + i].1 hs[seq + i].2).toArray]) KY w)
    (h0 : I 0 w) (h : ∀ w', I (hs.length - seq) w' → K (.tuple #[]) w') : CallsR Try.prog 32 #[y, pt sb 0, pt jb 0] K w := by
  apply c32
  unfold p32
  have hI0 := hI 0 w h0
  simp only [push_cast, hI0.2.1]
  refine jn0 (fun w' => I (hs.length - seq) w') h fun jj hjj => ?_
  refine loop1 (fun m v w' => ∃ i : Nat, v = i64 (seq + i + 1) ∧ i + m = hs.length - seq ∧ I i w') ?_ (hs.length - seq) ⟨0, ?_, by omega, h0⟩
  · rintro m v w' X ⟨i, rfl, hi, hIi⟩ hX
    obtain ⟨hJ, hsb, hjb, hId⟩ := hI i w' hIi
    have hp := hJ.blk
    simp only [push_cast, hjb, hp]
    refine br_dec (fun hle => ?_) fun hgt => hjj _ (by rw [show hs.length - seq = i by omega]; exact hIi)
    have hll : ((es.length : Nat) : Int) ≠ 0 := by rw [hJ.len]; omega
    rw [opS_rem _ _ _ hll]
    have hm : ((seq : Int) + i + 1).tmod es.length = ((seq + i + 1) % es.length : Nat) := Int.ofNat_tmod (seq + i + 1) es.length
    have hlt : (seq + i + 1) % es.length < es.length := Nat.mod_lt _ (by rw [hJ.len]; exact hr)
    have hsi : seq + i < hs.length := by omega
    rw [hm]
    have hO : RdE 12 w'.drew _ es := hJ.ring.rd
    refine s_iaE hO (by omega) (by rw [Int.toNat_natCast]; exact hlt) fun b1 o1 c1 _ hE => ?_
    simp only [Int.toNat_natCast] at hE ⊢
    have hsaid := hJ.said (seq + i) hsi (by omega)
    rw [← hJ.len, List.getElem?_eq_getElem hlt, Option.some.injEq] at hsaid
    rw [s_ldN (by decide), hE.agg0 (hO.2 _ (List.getElem_mem hlt)), onS_some, hsaid]
    refine hy i w'.drew _ hsi hId fun w2 hI2 => ?_
    simp only [push_cast]
    refine hX (m - 1) _ _ (by omega) ⟨i + 1, ?_, by omega, hI2⟩
    rw [wrap_i64 (by omega)]
    congr 1
  · rw [wrap_i64 (by omega)]
    simp

end Go.Gx.S.Jour
