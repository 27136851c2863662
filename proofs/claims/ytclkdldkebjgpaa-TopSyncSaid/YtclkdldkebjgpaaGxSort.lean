/- Rows that are sorted. -/
import Derived.Test.YtclkdldkebjgpaaGxLoop
import Derived.Sort.Row
import Derived.Sort.Grow
namespace Go.Gx
open Go Go.Sort
variable {P : Program} {K : Value → World → Prop} {w : World}

theorem putCells_splice {α : Type} [Inhabited α] (enc : α → Value) (o : Nat) (zs : List α) (cs : Array Value) (h : o + zs.length ≤ cs.size) :
    (putCells enc o zs.toArray cs).toList = splice cs.toList o (zs.map enc) := by
  apply List.ext_getElem?
  intro j
  have hcl : cs.toList.length = cs.size := Array.length_toList
  have hs := splice_get (l := cs.toList) (vs := zs.map enc) (o := o) (by rw [List.length_map]; omega) j
  rw [hs, List.length_map]
  unfold putCells
  simp only [Array.toList_mapIdx, List.getElem?_mapIdx, List.size_toArray]
  by_cases h1 : j < o
  · rw [if_pos h1]
    cases cs.toList[j]? with
    | none => rfl
    | some v => simp only [Option.map_some]; rw [if_neg (by omega)]
  · by_cases h2 : j < o + zs.length
    · rw [if_neg h1, if_pos h2]
      have hj : j < cs.toList.length := by omega
      rw [List.getElem?_eq_getElem hj]
      simp only [Option.map_some]
      rw [if_pos (by omega), List.getElem?_map]
      have hj2 : j - o < zs.length := by omega
      rw [List.getElem?_eq_getElem hj2]
      simp [hj2]
    · rw [if_neg h1, if_neg h2]
      cases cs.toList[j]? with
      | none => rfl
      | some v => simp only [Option.map_some]; rw [if_neg (by omega)]

/-- a row that is its holder's own, in the sort's words -/
theorem holds_row {α : Type} [Inhabited α] {enc : α → Value} {b o N : Nat} {cs : Array Value} {E : TypeId} {zs : List α} (hb : w.heap[b]? = some (.cells cs E (0, 0))) (hN : N = zs.length) (ho : o + N ≤ cs.size) (hl : zs.map enc = (cs.toList.drop o).take N) :
    Holds enc w b o zs.toArray := by
  intro j hj
  simp only [List.size_toArray] at hj
  have hcl : cs.toList.length = cs.size := Array.length_toList
  constructor
  · rw [cell_rd]
    unfold rd
    rw [hb]
    show cs[o + j]? = _
    have := congrArg (fun l => l[j]?) hl
    simp only [List.getElem?_map, List.getElem?_take, List.getElem?_drop] at this
    rw [if_pos (by omega), List.getElem?_eq_getElem hj, Array.getElem?_toList] at this
    rw [← this]
    simp [hj]
  · rw [frozen_eq]
    simp [hb]

theorem putRow_heap {α : Type} [Inhabited α] {enc : α → Value} {b o n : Nat} {os : Array Obj} {cs : Array Value} {E : TypeId} {zs : List α} (hb : w.heap[b]? = some (.cells cs E (0, 0))) (ho : o + zs.length ≤ cs.size) :
    (grow (putRow enc (Sort.ahead w n) b o zs.toArray) os).heap[b]? = some (.cells (splice cs.toList o (zs.map enc)).toArray E (0, 0)) := by
  have hlt := lt_of_heap hb
  have e1 : (grow (putRow enc (Sort.ahead w n) b o zs.toArray) os).heap[b]? = (putRow enc (Sort.ahead w n) b o zs.toArray).heap[b]? := by
    show ((putRow enc (Sort.ahead w n) b o zs.toArray).heap ++ os)[b]? = _
    rw [Array.getElem?_append_left]
    show b < (w.heap.modify b _).size
    rw [Array.size_modify]; exact hlt
  rw [e1]
  show (w.heap.modify b (onCells (putCells enc o zs.toArray)))[b]? = _
  rw [Array.getElem?_modify, if_pos rfl, hb]
  show some (Obj.cells (putCells enc o zs.toArray cs) E (0, 0)) = _
  congr 2
  rw [← putCells_splice enc o zs cs ho, Array.toArray_toList]

theorem putRow_fr {α : Type} [Inhabited α] {enc : α → Value} {b o n : Nat} {os : Array Obj} {d : Array α} : Fr (fun x => x = b) w (grow (putRow enc (Sort.ahead w n) b o d) os) := by
  have hs : (putRow enc (Sort.ahead w n) b o d).heap.size = w.heap.size := by
    show (w.heap.modify b _).size = _
    rw [Array.size_modify]
  refine ⟨?_, fun x hx hn => ?_, fun a ha => ?_, rfl, rfl, rfl⟩
  · show w.heap.size ≤ ((putRow enc (Sort.ahead w n) b o d).heap ++ os).size
    rw [Array.size_append, hs]; omega
  · show ((putRow enc (Sort.ahead w n) b o d).heap ++ os)[x]? = _
    rw [Array.getElem?_append_left (by rw [hs]; exact hx)]
    show (w.heap.modify b _)[x]? = _
    rw [Array.getElem?_modify, if_neg (fun e => hn e.symm)]
  · have e1 : (grow (putRow enc (Sort.ahead w n) b o d) os).frozen? a = (putRow enc (Sort.ahead w n) b o d).frozen? a := by
      rw [frozen_eq, frozen_eq]
      show (match ((putRow enc (Sort.ahead w n) b o d).heap ++ os)[a.block]? with | some (.cells _ _ fz) => (decide (fz.1 ≤ a.off) && decide (a.off < fz.2)) | _ => false) = _
      rw [Array.getElem?_append_left (by rw [hs]; exact ha)]
      rfl
    rw [e1]
    exact frozen?_mapBlock _ _ _ _

/-- one cell an element: what is asked, and what there is behind it -/
theorem own_holds {α : Type} [Inhabited α] {enc : α → Value} {E : TypeId} {b o c : Nat} {zs : List α} (h : OwnE E 1 w (.slice (some ⟨b, o, none⟩) zs.length c) (zs.map fun z => [enc z])) : Holds enc w b o zs.toArray ∧ b < w.heap.size := by
  obtain ⟨h1, _⟩ := h
  rw [List.length_map] at h1
  rcases h1 with ⟨h1, _⟩ | ⟨b', o', c', cs, hv, hb, hc, ho, hl⟩
  · cases h1
  · simp only [Value.slice.injEq, Option.some.injEq, Addr.mk.injEq, and_true, true_and] at hv
    obtain ⟨⟨rfl, rfl⟩, rfl⟩ := hv
    refine ⟨holds_row hb rfl (by omega) ?_, lt_of_heap hb⟩
    rw [Nat.mul_one] at hl
    rw [← hl]
    clear hl ho hc hb
    induction zs with
    | nil => rfl
    | cons z zs ih => simp [ih]

theorem own_sorted {α : Type} [Inhabited α] {enc : α → Value} {E : TypeId} {b o c n : Nat} {os : Array Obj} {zs ys : List α} (h : OwnE E 1 w (.slice (some ⟨b, o, none⟩) zs.length c) (zs.map fun z => [enc z])) (hl : ys.length = zs.length) :
    OwnE E 1 (grow (putRow enc (Sort.ahead w n) b o ys.toArray) os) (.slice (some ⟨b, o, none⟩) ys.length c) (ys.map fun z => [enc z]) := by
  obtain ⟨h1, _⟩ := h
  rw [List.length_map] at h1
  rcases h1 with ⟨h1, _⟩ | ⟨b', o', c', cs, hv, hb, hc, ho, _⟩
  · cases h1
  · simp only [Value.slice.injEq, Option.some.injEq, Addr.mk.injEq, and_true, true_and] at hv
    obtain ⟨⟨rfl, rfl⟩, rfl⟩ := hv
    have hcl : cs.toList.length = cs.size := Array.length_toList
    refine ⟨?_, by simp⟩
    rw [List.length_map]
    refine .inr ⟨b, o, c, _, rfl, putRow_heap hb (by omega), by omega, ?_, ?_⟩
    · rw [List.size_toArray, splice_length (by rw [List.length_map]; omega)]; omega
    · have hf : (ys.map fun z => [enc z]).flatten = ys.map enc := by
        clear hl
        induction ys with
        | nil => rfl
        | cons z zs ih => simp [ih]
      have := splice_window (l := cs.toList) (k := ys.map enc) (o := o) (a := 0) (by omega)
      rw [Nat.add_zero, Nat.zero_add, List.length_map] at this
      rw [hf]
      show _ = List.take _ (List.drop o (splice cs.toList o (ys.map enc)))
      rw [Nat.mul_one, this]; simp

end Go.Gx
