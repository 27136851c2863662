/- Lists that rise. -/
import Derived.Test.YtclkdldkebjgpaaGxLoop
import Derived.Lib.SlicesCompact
namespace Go.Gx
open Go

theorem eq_of_rising {α : Type} {r : α → α → Prop} (hirr : ∀ a, ¬ r a a) (has : ∀ a b, r a b → ¬ r b a) : ∀ {l k : List α}, l.Pairwise r → k.Pairwise r → (∀ x, x ∈ l ↔ x ∈ k) → l = k
  | [], [], _, _, _ => rfl
  | [], b :: k, _, _, h => absurd ((h b).2 (List.mem_cons_self ..)) (by simp)
  | a :: l, [], _, _, h => absurd ((h a).1 (List.mem_cons_self ..)) (by simp)
  | a :: l, b :: k, h1, h2, h => by
    rw [List.pairwise_cons] at h1 h2
    have hab : a = b := by
      rcases List.mem_cons.1 ((h a).1 (List.mem_cons_self ..)) with e | e
      · exact e
      · rcases List.mem_cons.1 ((h b).2 (List.mem_cons_self ..)) with e2 | e2
        · exact e2.symm
        · exact absurd (h1.1 b e2) (has _ _ (h2.1 a e))
    subst hab
    congr 1
    refine eq_of_rising hirr has h1.2 h2.2 fun x => ⟨fun hx => ?_, fun hx => ?_⟩
    · rcases List.mem_cons.1 ((h x).1 (List.mem_cons_of_mem _ hx)) with e | e
      · subst e; exact absurd (h1.1 x hx) (hirr x)
      · exact e
    · rcases List.mem_cons.1 ((h x).2 (List.mem_cons_of_mem _ hx)) with e | e
      · subst e; exact absurd (h2.1 x hx) (hirr x)
      · exact e

theorem sorted_get {d : List Int} (h : d.Pairwise (· ≤ ·)) {i j : Nat} (hij : i ≤ j) (hj : j < d.length) : d.toArray[i]! ≤ d.toArray[j]! := by
  have hi : i < d.length := by omega
  have e1 : d.toArray[i]! = d[i] := by simp [hi]
  have e2 : d.toArray[j]! = d[j] := by simp [hj]
  rw [e1, e2]
  rcases Nat.eq_or_lt_of_le hij with e | e
  · subst e; exact Int.le_refl _
  · exact List.pairwise_iff_getElem.1 h i j hi hj e

theorem compact_rise {d : List Int} (h : d.Pairwise (· ≤ ·)) : (Lib.compact d).Pairwise (· < ·) := by
  unfold Lib.compact Lib.compactUpTo
  rw [List.pairwise_map]
  have h1 : ((List.range d.length).filter (Lib.keeps d.toArray)).Pairwise (· < ·) := List.pairwise_lt_range.filter _
  refine List.Pairwise.imp_of_mem ?_ h1
  intro a b ha hb hab
  rw [List.mem_filter, List.mem_range] at ha hb
  have hk := hb.2
  simp only [Lib.keeps, decide_eq_true_eq] at hk
  have hne := hk.resolve_left (by omega)
  have g1 := sorted_get h (show a ≤ b - 1 by omega) (by omega)
  have g2 := sorted_get h (show b - 1 ≤ b by omega) hb.1
  omega

theorem compact_mem {d : List Int} {x : Int} : x ∈ Lib.compact d ↔ x ∈ d := by
  unfold Lib.compact Lib.compactUpTo
  rw [List.mem_map]
  constructor
  · rintro ⟨i, hi, rfl⟩
    rw [List.mem_filter, List.mem_range] at hi
    have : d.toArray[i]! = d[i]'hi.1 := by simp [hi.1]
    rw [this]
    exact List.getElem_mem _
  · intro hx
    obtain ⟨i, hi, rfl⟩ := List.getElem_of_mem hx
    have key : ∀ n (hn : n < d.length), ∃ j, j ∈ (List.range d.length).filter (Lib.keeps d.toArray) ∧ d.toArray[j]! = d[n] := by
      intro n
      induction n with
      | zero =>
        intro hn
        refine ⟨0, ?_, by simp [hn]⟩
        rw [List.mem_filter, List.mem_range]
        exact ⟨hn, by simp [Lib.keeps]⟩
      | succ n ih =>
        intro hn
        have e1 : d.toArray[n + 1]! = d[n + 1] := by simp [hn]
        have e0 : d.toArray[n]! = d[n] := by simp [Nat.lt_of_succ_lt hn]
        by_cases e : d[n + 1] = d[n]
        · obtain ⟨j, hj, hje⟩ := ih (by omega)
          exact ⟨j, hj, by rw [hje, e]⟩
        · refine ⟨n + 1, ?_, e1⟩
          rw [List.mem_filter, List.mem_range]
          refine ⟨hn, ?_⟩
          simp only [Lib.keeps, decide_eq_true_eq, Nat.add_sub_cancel]
          right
          rw [e1, e0]
          exact e
    exact key i hi

theorem sorted_ints (d : List Int) : (d.mergeSort fun x y => decide (x ≤ y)).Pairwise (· ≤ ·) := by
  have := List.pairwise_mergeSort (le := fun x y : Int => decide (x ≤ y)) (by intro a b c h1 h2; simp at *; omega) (by intro a b; simp; omega) d
  exact this.imp fun h => by simpa using h

/-- sorted, and each kept once -/
theorem uniq_eq {d k : List Int} (hk : k.Pairwise (· < ·)) (h : ∀ x, x ∈ d ↔ x ∈ k) : Lib.compact (d.mergeSort fun x y => decide (x ≤ y)) = k := by
  refine eq_of_rising (r := (· < ·)) (fun a => by omega) (fun a b h => by omega) (compact_rise (sorted_ints d)) hk fun x => ?_
  rw [compact_mem, List.mem_mergeSort]
  exact h x

end Go.Gx
