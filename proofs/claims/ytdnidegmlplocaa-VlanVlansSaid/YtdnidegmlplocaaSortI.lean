/- Numbers that are sorted, and of which each is kept once. -/
import Derived.Test.YtdnidegmlplocaaSortIS
import Derived.Test.YtdnidegmlplocaaBase
import Derived.Test.YtdnidegmlplocaaGxSort
import Derived.Lib.RowBridge
set_option linter.unusedVariables false
set_option maxRecDepth 100000
namespace Go.Gx.S
open Go Go.Gx Go.Proofs Go.Sort
variable {K : Value → World → Prop} {w : World}

theorem nil_of {E sz : Nat} {v : Value} {es : List (List Value)} (h : OwnE E sz w v es) (hb : blkS v = none) : v = .slice none 0 0 ∧ es = [] := by
  obtain ⟨h1, _⟩ := h
  rcases h1 with ⟨h1, h2, _⟩ | ⟨b, o, c, cs, h1, _⟩
  · exact ⟨h1, List.eq_nil_of_length_eq_zero h2⟩
  · rw [h1] at hb; cases hb
theorem some_of {E sz : Nat} {v : Value} {es : List (List Value)} (h : OwnE E sz w v es) {b : Nat} (hb : blkS v = some b) : ∃ o c, v = .slice (some ⟨b, o, none⟩) es.length c ∧ es.length ≤ c := by
  obtain ⟨h1, _⟩ := h
  rcases h1 with ⟨h1, h2, _⟩ | ⟨b', o, c, cs, h1, _, h2, _⟩
  · rw [h1] at hb; cases hb
  · rw [h1] at hb; cases hb; exact ⟨o, c, h1, h2⟩

theorem sortI_spec {v : Value} {zs : List Int} (hv : OwnE 3 1 w v (zs.map cellI)) (hl : zs.length < 2 ^ 60)
    (h : ∀ w', OwnE 3 1 w' v ((zs.mergeSort fun x y => decide (x ≤ y)).map cellI) → Fr (fun b => blkS v = some b) w w' → K (.tuple #[]) w') : CallsR Try.prog 39 #[v] K w := by
  cases hb : blkS v with
  | none =>
    obtain ⟨rfl, he⟩ := nil_of hv hb
    obtain rfl := List.map_eq_nil_iff.1 he
    refine Calls.mono (Any.slices_Sort_int_none Try.lays189 none 0 w) ?_
    rintro e w' ⟨rfl, rfl⟩
    exact ⟨_, rfl, h _ (by simpa using hv) (Fr.refl _ _)⟩
  | some b =>
    obtain ⟨o, c, rfl, _⟩ := some_of hv hb
    rw [List.length_map] at hv ⊢
    obtain ⟨h1, h2⟩ := own_holds (enc := Value.int .i64) hv
    refine Calls.mono (Any.slices_Sort_int Try.lays189 b o c zs w h1 h2 (by omega)) ?_
    rintro e w' ⟨rfl, n, os, rfl⟩
    refine ⟨_, rfl, h _ ?_ (putRow_fr.mono fun x _ e => by rw [e]; rfl)⟩
    have := own_sorted (enc := Value.int .i64) (n := n) (os := os) (ys := zs.mergeSort fun x y => decide (x ≤ y)) hv (List.length_mergeSort zs)
    rw [List.length_mergeSort, List.length_map] at *
    exact this

theorem compactI_spec {v : Value} {zs : List Int} (hv : OwnE 3 1 w v (zs.map cellI)) (hl : zs.length < 2 ^ 60)
    (h : ∀ v' w', OwnE 3 1 w' v' ((Lib.compact zs).map cellI) → blkS v' = blkS v → Fr (fun b => blkS v = some b) w w' → K v' w') : CallsR Try.prog 40 #[v] K w := by
  cases hb : blkS v with
  | none =>
    obtain ⟨rfl, he⟩ := nil_of hv hb
    obtain rfl := List.map_eq_nil_iff.1 he
    refine Calls.mono (Any.slices_Compact_int_empty Try.lays2n20 none 0 w) ?_
    rintro e w' ⟨rfl, rfl⟩
    exact ⟨_, rfl, h _ _ (by rw [show Lib.compact ([] : List Int) = [] from rfl]; simpa using hv) rfl (Fr.refl _ _)⟩
  | some b =>
    obtain ⟨o, c, rfl, hc⟩ := some_of hv hb
    rw [List.length_map] at hv hc ⊢
    obtain ⟨h1, h2⟩ := own_holds (enc := Value.int .i64) hv
    refine Calls.mono (Any.slices_Compact_int Try.lays2n20 b o c zs w h1 (by omega) hc) ?_
    rintro e w' ⟨rfl, n, rfl⟩
    have hle := Lib.compact_length_le zs
    have hlen : (Lib.compact zs ++ List.replicate (zs.length - (Lib.compact zs).length) 0).length = zs.length := by
      rw [List.length_append, List.length_replicate]; omega
    have := own_sorted (enc := Value.int .i64) (n := n) (os := #[]) (ys := Lib.compact zs ++ List.replicate (zs.length - (Lib.compact zs).length) 0) hv hlen
    rw [grow_empty] at this
    have hF : Fr (fun x => x = b) w (putRow (Value.int .i64) (Sort.ahead w n) b o (Lib.compact zs ++ List.replicate (zs.length - (Lib.compact zs).length) 0).toArray) := by
      have := putRow_fr (w := w) (enc := Value.int .i64) (b := b) (o := o) (n := n) (os := #[]) (d := (Lib.compact zs ++ List.replicate (zs.length - (Lib.compact zs).length) 0).toArray)
      rwa [grow_empty] at this
    refine ⟨_, rfl, h _ _ ?_ rfl (hF.mono fun x _ e => by rw [e]; rfl)⟩
    obtain ⟨g1, g2⟩ := this
    rw [List.length_map, hlen] at g1
    refine ⟨?_, by simp [cellI]⟩
    rw [List.length_map]
    rcases g1 with ⟨g1, _⟩ | ⟨b', o', c', cs, hv', hbb, hc', ho, hl'⟩
    · cases g1
    · simp only [Value.slice.injEq, Option.some.injEq, Addr.mk.injEq, and_true, true_and] at hv'
      obtain ⟨⟨rfl, rfl⟩, rfl⟩ := hv'
      refine .inr ⟨b, o, c, cs, rfl, hbb, by omega, ho, ?_⟩
      have h3 := congrArg (List.take (Lib.compact zs).length) hl'
      rw [List.take_take, Nat.mul_one, Nat.min_eq_left hle] at h3
      rw [Nat.mul_one, ← h3]
      have hf : ∀ l : List Int, (l.map fun z => [Value.int .i64 z]).flatten = l.map i64 := fun l => by
        induction l with
        | nil => rfl
        | cons z l ih => simp [ih]
      rw [hf, flat_cellI, List.map_append, List.take_append_of_le_length (by rw [List.length_map]; exact Nat.le_refl _), List.take_of_length_le (by rw [List.length_map]; exact Nat.le_refl _)]

end Go.Gx.S
