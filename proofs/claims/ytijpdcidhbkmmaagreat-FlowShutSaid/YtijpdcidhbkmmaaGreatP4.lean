/- Own texts, put together. -/
import Derived.Test.YtijpdcidhbkmmaaGreatP3
import Derived.Sort.Row
import Derived.Sort.Grow
import Derived.Shelf.SlSortCmp.WholeK
import Derived.Shelf.SlSortCmp.NoneTotal
import Derived.Test.YtijpdcidhbkmmaaGreatP1
import Derived.Test.YtijpdcidhbkmmaaGreatProg
import Derived.Ground.SlsfProg
import Derived.Shelf.SlGeneric
section
/- Rows that are sorted. -/
namespace Go.Gx
open Go Go.Sort
variable {P : Program} {K : Value → World → Prop} {w : World}

theorem putCells_splice {α : Type} [Inhabited α] (enc : α → Value) (o : Nat) (zs : List α) (cs : Array Value) (h : o + zs.length ≤ cs.size) :
    (putCells enc o zs.toArray cs).toList = splice cs.toList o (zs.map enc) := by
  apply List.ext_getElem?
  intro j
  have hcl : cs.toList.length = cs.size := Array.length_toList
  have hs := splice_get (l := cs.toList) (vs := zs.map enc) (o := o) (by rw [List.length_map]; omega) j
  rw [hs, List.length_map]
  unfold putCells
  simp only [Array.toList_mapIdx, List.getElem?_mapIdx, List.size_toArray]
  by_cases h1 : j < o
  · rw [if_pos h1]
    cases cs.toList[j]? with
    | none => rfl
    | some v => simp only [Option.map_some]; rw [if_neg (by omega)]
  · by_cases h2 : j < o + zs.length
    · rw [if_neg h1, if_pos h2]
      have hj : j < cs.toList.length := by omega
      rw [List.getElem?_eq_getElem hj]
      simp only [Option.map_some]
      rw [if_pos (by omega), List.getElem?_map]
      have hj2 : j - o < zs.length := by omega
      rw [List.getElem?_eq_getElem hj2]
      simp [hj2]
    · rw [if_neg h1, if_neg h2]
      cases cs.toList[j]? with
      | none => rfl
      | some v => simp only [Option.map_some]; rw [if_neg (by omega)]

/-- a row that is its holder's own, in the sort's words -/
theorem holds_row {α : Type} [Inhabited α] {enc : α → Value} {b o N : Nat} {cs : Array Value} {E : TypeId} {zs : List α} (hb : w.heap[b]? = some (.cells cs E (0, 0))) (hN : N = zs.length) (ho : o + N ≤ cs.size) (hl : zs.map enc = (cs.toList.drop o).take N) :
    Holds enc w b o zs.toArray := by
  intro j hj
  simp only [List.size_toArray] at hj
  have hcl : cs.toList.length = cs.size := Array.length_toList
  constructor
  · rw [cell_rd]
    unfold rd
    rw [hb]
    show cs[o + j]? = _
    have := congrArg (fun l => l[j]?) hl
    simp only [List.getElem?_map, List.getElem?_take, List.getElem?_drop] at this
    rw [if_pos (by omega), List.getElem?_eq_getElem hj, Array.getElem?_toList] at this
    rw [← this]
    simp [hj]
  · rw [frozen_eq]
    simp [hb]

theorem putRow_heap {α : Type} [Inhabited α] {enc : α → Value} {b o n : Nat} {os : Array Obj} {cs : Array Value} {E : TypeId} {zs : List α} (hb : w.heap[b]? = some (.cells cs E (0, 0))) (ho : o + zs.length ≤ cs.size) :
    (grow (putRow enc (Sort.ahead w n) b o zs.toArray) os).heap[b]? = some (.cells (splice cs.toList o (zs.map enc)).toArray E (0, 0)) := by
  have hlt := lt_of_heap hb
  have e1 : (grow (putRow enc (Sort.ahead w n) b o zs.toArray) os).heap[b]? = (putRow enc (Sort.ahead w n) b o zs.toArray).heap[b]? := by
    show ((putRow enc (Sort.ahead w n) b o zs.toArray).heap ++ os)[b]? = _
    rw [Array.getElem?_append_left]
    show b < (w.heap.modify b _).size
    rw [Array.size_modify]; exact hlt
  rw [e1]
  show (w.heap.modify b (onCells (putCells enc o zs.toArray)))[b]? = _
  rw [Array.getElem?_modify, if_pos rfl, hb]
  show some (Obj.cells (putCells enc o zs.toArray cs) E (0, 0)) = _
  congr 2
  rw [← putCells_splice enc o zs cs ho, Array.toArray_toList]

theorem putRow_fr {α : Type} [Inhabited α] {enc : α → Value} {b o n : Nat} {os : Array Obj} {d : Array α} : Fr (fun x => x = b) w (grow (putRow enc (Sort.ahead w n) b o d) os) := by
  have hs : (putRow enc (Sort.ahead w n) b o d).heap.size = w.heap.size := by
    show (w.heap.modify b _).size = _
    rw [Array.size_modify]
  refine ⟨?_, fun x hx hn => ?_, fun a ha => ?_, rfl, rfl, rfl⟩
  · show w.heap.size ≤ ((putRow enc (Sort.ahead w n) b o d).heap ++ os).size
    rw [Array.size_append, hs]; omega
  · show ((putRow enc (Sort.ahead w n) b o d).heap ++ os)[x]? = _
    rw [Array.getElem?_append_left (by rw [hs]; exact hx)]
    show (w.heap.modify b _)[x]? = _
    rw [Array.getElem?_modify, if_neg (fun e => hn e.symm)]
  · have e1 : (grow (putRow enc (Sort.ahead w n) b o d) os).frozen? a = (putRow enc (Sort.ahead w n) b o d).frozen? a := by
      rw [frozen_eq, frozen_eq]
      show (match ((putRow enc (Sort.ahead w n) b o d).heap ++ os)[a.block]? with | some (.cells _ _ fz) => (decide (fz.1 ≤ a.off) && decide (a.off < fz.2)) | _ => false) = _
      rw [Array.getElem?_append_left (by rw [hs]; exact ha)]
      rfl
    rw [e1]
    exact frozen?_mapBlock _ _ _ _

/-- one cell an element: what is asked, and what there is behind it -/
theorem own_holds {α : Type} [Inhabited α] {enc : α → Value} {E : TypeId} {b o c : Nat} {zs : List α} (h : OwnE E 1 w (.slice (some ⟨b, o, none⟩) zs.length c) (zs.map fun z => [enc z])) : Holds enc w b o zs.toArray ∧ b < w.heap.size := by
  obtain ⟨h1, _⟩ := h
  rw [List.length_map] at h1
  rcases h1 with ⟨h1, _⟩ | ⟨b', o', c', cs, hv, hb, hc, ho, hl⟩
  · cases h1
  · simp only [Value.slice.injEq, Option.some.injEq, Addr.mk.injEq, and_true, true_and] at hv
    obtain ⟨⟨rfl, rfl⟩, rfl⟩ := hv
    refine ⟨holds_row hb rfl (by omega) ?_, lt_of_heap hb⟩
    rw [Nat.mul_one] at hl
    rw [← hl]
    clear hl ho hc hb
    induction zs with
    | nil => rfl
    | cons z zs ih => simp [ih]

theorem own_sorted {α : Type} [Inhabited α] {enc : α → Value} {E : TypeId} {b o c n : Nat} {os : Array Obj} {zs ys : List α} (h : OwnE E 1 w (.slice (some ⟨b, o, none⟩) zs.length c) (zs.map fun z => [enc z])) (hl : ys.length = zs.length) :
    OwnE E 1 (grow (putRow enc (Sort.ahead w n) b o ys.toArray) os) (.slice (some ⟨b, o, none⟩) ys.length c) (ys.map fun z => [enc z]) := by
  obtain ⟨h1, _⟩ := h
  rw [List.length_map] at h1
  rcases h1 with ⟨h1, _⟩ | ⟨b', o', c', cs, hv, hb, hc, ho, _⟩
  · cases h1
  · simp only [Value.slice.injEq, Option.some.injEq, Addr.mk.injEq, and_true, true_and] at hv
    obtain ⟨⟨rfl, rfl⟩, rfl⟩ := hv
    have hcl : cs.toList.length = cs.size := Array.length_toList
    refine ⟨?_, by simp⟩
    rw [List.length_map]
    refine .inr ⟨b, o, c, _, rfl, putRow_heap hb (by omega), by omega, ?_, ?_⟩
    · rw [List.size_toArray, splice_length (by rw [List.length_map]; omega)]; omega
    · have hf : (ys.map fun z => [enc z]).flatten = ys.map enc := by
        clear hl
        induction ys with
        | nil => rfl
        | cons z zs ih => simp [ih]
      have := splice_window (l := cs.toList) (k := ys.map enc) (o := o) (a := 0) (by omega)
      rw [Nat.add_zero, Nat.zero_add, List.length_map] at this
      rw [hf]
      show _ = List.take _ (List.drop o (splice cs.toList o (ys.map enc)))
      rw [Nat.mul_one, this]; simp

end Go.Gx
end

section
/- Rows of structs that are sorted by a function. -/
namespace Go.Gx
open Go Go.Sort Go.Proofs
variable {P : Program} {K : Value → World → Prop} {w : World}

/-- draws, and new blocks: nothing else -/
def Gr (w w' : World) : Prop := ∃ q os, w' = grow (w.drewN q) os
theorem Gr.refl (w : World) : Gr w w := ⟨0, #[], by rw [grow_empty]; rfl⟩
theorem Gr.step_alloc {w w' : World} (h : Gr w w') (o : Obj) : Gr w (w'.alloc o) := by
  obtain ⟨q, os, rfl⟩ := h
  exact ⟨q, os ++ #[o], by rw [alloc_eq_grow, grow_grow]⟩
theorem Gr.step_drew {w w' : World} (h : Gr w w') : Gr w w'.drew := by
  obtain ⟨q, os, rfl⟩ := h
  exact ⟨q + 1, os, by rw [drew_grow]; rfl⟩
theorem Gr.trans {w w' w'' : World} (h : Gr w w') (h' : Gr w' w'') : Gr w w'' := by
  obtain ⟨q, os, rfl⟩ := h
  obtain ⟨q', os', rfl⟩ := h'
  refine ⟨q + q', os ++ os', ?_⟩
  show grow ((grow (w.drewN q) os).drewN q') os' = _
  rw [← grow_grow]
  have : (grow (w.drewN q) os).drewN q' = grow (w.drewN (q + q')) os := by
    unfold grow World.drewN
    simp [Nat.add_assoc]
  rw [this]
theorem Gr.heap {w w' : World} (h : Gr w w') {b : Nat} {o : Obj} (hb : w.heap[b]? = some o) : w'.heap[b]? = some o := by
  obtain ⟨q, os, rfl⟩ := h
  show (w.heap ++ os)[b]? = _
  rw [Array.getElem?_append_left (lt_of_heap hb)]
  exact hb
theorem Gr.fr {w w' : World} (h : Gr w w') : Fr none_ w w' := by
  obtain ⟨q, os, rfl⟩ := h
  refine ⟨?_, fun x hx hn => ?_, fun a ha => ?_, rfl, rfl, rfl⟩
  · show w.heap.size ≤ (w.heap ++ os).size
    rw [Array.size_append]; omega
  · show (w.heap ++ os)[x]? = _
    rw [Array.getElem?_append_left hx]
  · rw [frozen_eq, frozen_eq]
    show (match (w.heap ++ os)[a.block]? with | some (.cells _ _ fz) => (decide (fz.1 ≤ a.off) && decide (a.off < fz.2)) | _ => false) = _
    rw [Array.getElem?_append_left ha]
    rfl

theorem flatten_at {k : Nat} (hk0 : 0 < k) : ∀ {l : List (List Value)} (_ : ∀ x ∈ l, x.length = k) (t : Nat), l.flatten[t]? = (l[t / k]?).bind fun x => x[t % k]?
  | [], _, t => by simp
  | x :: l, h, t => by
    rw [List.flatten_cons]
    have hx := h x (List.mem_cons_self ..)
    by_cases ht : t < k
    · rw [List.getElem?_append_left (by omega), Nat.div_eq_of_lt ht, Nat.mod_eq_of_lt ht]
      rfl
    · rw [List.getElem?_append_right (by omega), hx, flatten_at hk0 (fun y hy => h y (List.mem_cons_of_mem _ hy)) (t - k)]
      have e1 : t / k = (t - k) / k + 1 := by
        have := Nat.add_div_right (t - k) hk0
        rw [Nat.sub_add_cancel (by omega)] at this
        omega
      have e2 : (t - k) % k = t % k := by
        have := Nat.add_mod_right (t - k) k
        rw [Nat.sub_add_cancel (by omega)] at this
        exact this.symm
      rw [e1, e2, List.getElem?_cons_succ]

theorem flatK_list {α : Type} [Inhabited α] {enc : α → List Value} {k : Nat} (hk0 : 0 < k) (hk : ∀ x, (enc x).length = k) (d : Array α) : (flatK enc k d).toList = (d.toList.map enc).flatten := by
  apply List.ext_getElem?
  intro t
  rw [flatten_at hk0 (fun x hx => by obtain ⟨y, _, rfl⟩ := List.mem_map.1 hx; exact hk y)]
  by_cases ht : t < d.size * k
  · have hs : t < (flatK enc k d).toList.length := by rw [Array.length_toList, size_flatK]; exact ht
    have hq : t / k < d.size := Nat.div_lt_of_lt_mul (by rw [Nat.mul_comm]; exact ht)
    have hr : t % k < k := Nat.mod_lt _ hk0
    rw [Array.getElem?_toList, List.getElem?_map, Array.getElem?_toList]
    have h1 := get_flatK enc k d t ht
    have hs' : t < (flatK enc k d).size := by rw [size_flatK]; exact ht
    rw [getElem!_pos _ t hs', getElem!_pos d (t / k) hq] at h1
    rw [Array.getElem?_eq_getElem hs', h1, Array.getElem?_eq_getElem hq]
    simp only [Option.map_some, Option.bind_some]
    rw [List.getElem?_eq_getElem (by rw [hk]; exact hr), getElem!_pos _ (t % k) (by rw [hk]; exact hr)]
  · have h1 : (flatK enc k d).toList[t]? = none := by rw [List.getElem?_eq_none]; rw [Array.length_toList, size_flatK]; omega
    have hq : d.size ≤ t / k := (Nat.le_div_iff_mul_le hk0).2 (by omega)
    rw [h1, List.getElem?_map, Array.getElem?_toList, Array.getElem?_eq_none hq]
    rfl

theorem ownK_holds {α : Type} [Inhabited α] {enc : α → List Value} {k : Nat} (hk0 : 0 < k) (hk : ∀ x, (enc x).length = k) {E b o c : Nat} {zs : List α} (h : OwnE E k w (.slice (some ⟨b, o, none⟩) zs.length c) (zs.map enc)) :
    HoldsK enc k w b o zs.toArray ∧ b < w.heap.size := by
  obtain ⟨h1, _⟩ := h
  rw [List.length_map] at h1
  rcases h1 with ⟨h1, _⟩ | ⟨b', o', c', cs, hv, hb, hc, ho, hl⟩
  · cases h1
  · simp only [Value.slice.injEq, Option.some.injEq, Addr.mk.injEq, and_true, true_and] at hv
    obtain ⟨⟨rfl, rfl⟩, rfl⟩ := hv
    have hle : zs.length * k ≤ c * k := Nat.mul_le_mul_right _ hc
    have hfl := flatK_list hk0 hk zs.toArray
    have hlen : zs.length * k = (flatK enc k zs.toArray).toList.length := by simp
    have := holds_row (enc := id) (o := o) (N := zs.length * k) (zs := (flatK enc k zs.toArray).toList) hb hlen (by omega) (by rw [List.map_id, hfl]; exact hl)
    rw [Array.toArray_toList] at this
    exact ⟨this, lt_of_heap hb⟩

theorem ownK_sorted {α : Type} [Inhabited α] {enc : α → List Value} {k : Nat} (hk0 : 0 < k) (hk : ∀ x, (enc x).length = k) {E b o c n : Nat} {os : Array Obj} {zs ys : List α} (h : OwnE E k w (.slice (some ⟨b, o, none⟩) zs.length c) (zs.map enc)) (hl : ys.length = zs.length) :
    OwnE E k (sortWorldK enc k w b o n ys.toArray os) (.slice (some ⟨b, o, none⟩) zs.length c) (ys.map enc) ∧ Fr (fun x => x = b) w (sortWorldK enc k w b o n ys.toArray os) := by
  refine ⟨?_, putRow_fr⟩
  obtain ⟨h1, _⟩ := h
  rw [List.length_map] at h1
  rcases h1 with ⟨h1, _⟩ | ⟨b', o', c', cs, hv, hb, hc, ho, _⟩
  · cases h1
  · simp only [Value.slice.injEq, Option.some.injEq, Addr.mk.injEq, and_true, true_and] at hv
    obtain ⟨⟨rfl, rfl⟩, rfl⟩ := hv
    have hcl : cs.toList.length = cs.size := Array.length_toList
    have hle : zs.length * k ≤ c * k := Nat.mul_le_mul_right _ hc
    have hfl := flatK_list hk0 hk ys.toArray
    have hlen : (flatK enc k ys.toArray).toList.length = zs.length * k := by rw [Array.length_toList, size_flatK, List.size_toArray, hl]
    refine ⟨?_, fun e he => by obtain ⟨y, _, rfl⟩ := List.mem_map.1 he; exact hk y⟩
    rw [List.length_map, hl]
    have hp := putRow_heap (enc := id) (o := o) (n := n) (os := os) (zs := (flatK enc k ys.toArray).toList) hb (by omega)
    rw [Array.toArray_toList, List.map_id] at hp
    refine .inr ⟨b, o, c, _, rfl, hp, hc, ?_, ?_⟩
    · rw [List.size_toArray, splice_length (by omega)]; omega
    · have := splice_window (l := cs.toList) (k := (flatK enc k ys.toArray).toList) (o := o) (a := 0) (by omega)
      rw [Nat.add_zero, Nat.zero_add, hlen] at this
      show _ = List.take _ (List.drop o (splice cs.toList o _))
      rw [this, hfl]; simp

/-- **slices.SortFunc, of structs** -/
theorem sortK_spec {ρ : Shelf.Ren} (L : SlLaysF0.n6 P ρ) {α : Type} [Inhabited α] {E k : Nat} {enc : α → List Value} (hk0 : 0 < k) (hk : ∀ x, (enc x).length = k) (h1 : ∀ x, ∀ v ∈ enc x, v.oneCell' = true)
    (aE : ∀ w, (isAgg (ρ.t 24)).run P w = .ok true w) (zE : ∀ w, (Go.sizeOf (ρ.t 24)).run P w = .ok k w) (cf : α → α → Int) (hO : SWO (ltOf cf)) (g : Nat) (cb : Array Value) (eg : ∀ args w, (callFunc g args).run P w = .ok (.enter g args) w)
    (hcmp : ∀ x y W, CallsR P g (#[.agg (enc x).toArray, .agg (enc y).toArray] ++ cb) (fun v w' => v = .int .i64 (cf x y) ∧ Gr W w') W)
    {v : Value} {zs : List α} (hv : OwnE E k w v (zs.map enc)) (hl : zs.length < 2 ^ 60)
    (h : ∀ (ys : List α) w', ys.Perm zs → ys.Pairwise (fun x y => ¬ cf y x < 0) → OwnE E k w' v (ys.map enc) → Fr (fun b => blkS v = some b) w w' → K (.tuple #[]) w') : CallsR P (ρ.f 6) #[v, .func (.func g) #[] cb] K w := by
  cases hb : blkS v with
  | none =>
    have he : v = .slice none 0 0 ∧ zs = [] := by
      obtain ⟨g1, _⟩ := hv
      rcases g1 with ⟨g1, g2, _⟩ | ⟨b, o, c, cs, g1, _⟩
      · exact ⟨g1, by rw [List.length_map] at g2; exact List.eq_nil_of_length_eq_zero g2⟩
      · rw [g1] at hb; cases hb
    obtain ⟨rfl, rfl⟩ := he
    refine Calls.mono (AnyF.slices_SortFunc_none L none 0 _ w) ?_
    rintro e w' ⟨rfl, rfl⟩
    exact ⟨_, rfl, h [] _ (List.Perm.refl _) List.Pairwise.nil hv (Fr.refl _ _)⟩
  | some b =>
    have he : ∃ o c, v = .slice (some ⟨b, o, none⟩) zs.length c := by
      obtain ⟨g1, _⟩ := hv
      rcases g1 with ⟨g1, g2, _⟩ | ⟨b', o, c, cs, g1, _⟩
      · rw [g1] at hb; cases hb
      · rw [g1] at hb; cases hb; rw [List.length_map] at g1; exact ⟨o, c, g1⟩
    obtain ⟨o, c, rfl⟩ := he
    obtain ⟨g1, g2⟩ := ownK_holds hk0 hk hv
    have hc : CmpLays P g cb enc k cf b o zs.toArray.size w := fun m os dk _ x y => Calls.mono (hcmp x y _) fun e w' ⟨v, he, hv, q, os', hg⟩ => ⟨by rw [he, hv], q, os', hg⟩
    refine Calls.mono (AnyQ.slices_SortFunc L k aE zE enc hk h1 cf hO g cb b o c zs.toArray w eg hc g1 g2 (by rw [List.size_toArray]; omega)) ?_
    rintro e w' ⟨rfl, d', n, os, ⟨hp1, _, hp2⟩, hs, rfl⟩
    have hsz : d'.size = zs.length := by rw [hp1, List.size_toArray]
    have e1 : (d'.extract 0 zs.toArray.size).toList = d'.toList := by
      rw [List.size_toArray, ← hsz]; simp
    have e2 : (zs.toArray.extract 0 zs.toArray.size).toList = zs := by simp
    rw [e1, e2] at hp2
    have hlen : d'.toList.length = zs.length := by rw [Array.length_toList, hsz]
    obtain ⟨o1, f1⟩ := ownK_sorted hk0 hk (n := n) (os := os) hv hlen
    rw [Array.toArray_toList] at o1 f1
    refine ⟨_, rfl, h d'.toList _ hp2 ?_ o1 (f1.mono fun x _ e => by rw [e]; rfl)⟩
    rw [List.pairwise_iff_getElem]
    intro i j hi hj hij
    have := hs i j (Nat.zero_le _) hij (by rw [List.size_toArray]; omega)
    unfold ltOf at this
    have hi' : i < d'.size := by omega
    have hj' : j < d'.size := by omega
    rw [getElem!_pos d' i hi', getElem!_pos d' j hj'] at this
    simpa using this

end Go.Gx
end

section
/- Entries in order; what changes make of them: plain. -/
namespace Go.Gx
open Go Go.Sort Go.Proofs

theorem Ent.g0 (e : Ent) : e.cells[0]? = some (i64 e.vlan) := id rfl
theorem Ent.g7 (e : Ent) : e.cells[7]? = some (i64 e.port) := id rfl
theorem Ent.g8 (e : Ent) : e.cells[8]? = some (i64 e.at_) := id rfl
theorem Ent.g9 (e : Ent) : e.cells[9]? = some (.bool e.static) := id rfl
theorem Ent.d1 (e : Ent) : (e.cells.drop 1).take 6 = e.mac.cells := id rfl
theorem Ent.dw (e : Ent) : (e.cells.drop 0).take 10 = e.cells := id rfl
theorem Ent.sw (e f : Ent) : splice e.cells 0 f.cells = f.cells := id rfl
attribute [push_cast] Ent.g0 Ent.g7 Ent.g8 Ent.g9 Ent.d1 Ent.dw Ent.sw Ent.cells_length Ent.cells_one

def eKey (e : Ent) : Int × Mac := (e.vlan, e.mac)
def cmpE (a b : Ent) : Int := if cmpI a.vlan b.vlan ≠ 0 then cmpI a.vlan b.vlan else cmpM a.mac b.mac
def ltE (a b : Ent) : Prop := a.vlan < b.vlan ∨ (a.vlan = b.vlan ∧ macN a.mac < macN b.mac)
instance (a b : Ent) : Decidable (ltE a b) := by unfold ltE; infer_instance

theorem cmpI_lt {a b : Int} : cmpI a b < 0 ↔ a < b := by
  unfold cmpI
  by_cases h1 : a < b
  · rw [if_pos h1]; simp [h1]
  · rw [if_neg h1]
    by_cases h2 : b < a
    · rw [if_pos h2]; constructor <;> intro h <;> omega
    · rw [if_neg h2]; constructor <;> intro h <;> omega
theorem cmpI_zero {a b : Int} : cmpI a b = 0 ↔ a = b := by
  unfold cmpI
  by_cases h1 : a < b
  · rw [if_pos h1]; constructor <;> intro h <;> omega
  · rw [if_neg h1]
    by_cases h2 : b < a
    · rw [if_pos h2]; constructor <;> intro h <;> omega
    · rw [if_neg h2]; constructor <;> intro h <;> omega
theorem cmpE_lt {a b : Ent} : cmpE a b < 0 ↔ ltE a b := by
  unfold cmpE ltE cmpM
  by_cases h : a.vlan = b.vlan
  · rw [if_neg (fun h2 => h2 (cmpI_zero.2 h)), cmpI_lt]
    constructor
    · intro h2; exact .inr ⟨h, h2⟩
    · rintro (h2 | h2)
      · omega
      · exact h2.2
  · rw [if_pos (fun h2 => h (cmpI_zero.1 h2)), cmpI_lt]
    constructor
    · intro h2; exact .inl h2
    · rintro (h2 | h2)
      · exact h2
      · exact absurd h2.1 h

theorem ltE_irr (a : Ent) : ¬ ltE a a := by unfold ltE; omega
theorem ltE_asym (a b : Ent) (h : ltE a b) : ¬ ltE b a := by unfold ltE at *; omega
theorem ltE_trans {a b c : Ent} (h : ltE a b) (h' : ltE b c) : ltE a c := by unfold ltE at *; omega
theorem ltE_total {a b : Ent} (ha : a.ok) (hb : b.ok) (h : eKey a ≠ eKey b) : ltE a b ∨ ltE b a := by
  unfold ltE
  by_cases h1 : a.vlan = b.vlan
  · have : macN a.mac ≠ macN b.mac := fun h2 => h (by unfold eKey; rw [h1, macN_inj ha.2.1 hb.2.1 h2])
    omega
  · omega
theorem ltE_key {a b : Ent} (h : ltE a b) : eKey a ≠ eKey b := by
  intro e
  unfold eKey at e
  simp only [Prod.mk.injEq] at e
  unfold ltE at h
  rw [e.1, e.2] at h
  omega

/-- entries, in order, each key once -/
def Srt (r : List Ent) : Prop := r.Pairwise ltE ∧ ∀ e ∈ r, e.ok

theorem Srt.nil : Srt [] := ⟨List.Pairwise.nil, by simp⟩
theorem Srt.key {r : List Ent} (h : Srt r) {e f : Ent} (he : e ∈ r) (hf : f ∈ r) (hk : eKey e = eKey f) : e = f := by
  obtain ⟨i, hi, rfl⟩ := List.getElem_of_mem he
  obtain ⟨j, hj, rfl⟩ := List.getElem_of_mem hf
  have hp := List.pairwise_iff_getElem.1 h.1
  rcases Nat.lt_trichotomy i j with hij | rfl | hij
  · exact absurd hk (ltE_key (hp i j hi hj hij))
  · rfl
  · exact absurd hk.symm (ltE_key (hp j i hj hi hij))
theorem Srt.eq {r s : List Ent} (h : Srt r) (h' : Srt s) (he : ∀ e, e ∈ r ↔ e ∈ s) : r = s := eq_of_rising ltE_irr ltE_asym h.1 h'.1 he

def withoutL (l : List Ent) (x : Ent) : List Ent := l.filter fun e => decide (eKey e ≠ eKey x)
def insL (l : List Ent) (x : Ent) : List Ent := l.takeWhile (fun e => decide (ltE e x)) ++ x :: l.dropWhile (fun e => decide (ltE e x))
def withL (l : List Ent) (x : Ent) : List Ent := insL (withoutL l x) x

theorem mem_without {l : List Ent} {x e : Ent} : e ∈ withoutL l x ↔ e ∈ l ∧ eKey e ≠ eKey x := by
  unfold withoutL
  rw [List.mem_filter, decide_eq_true_iff]
theorem mem_ins {l : List Ent} {x e : Ent} : e ∈ insL l x ↔ e = x ∨ e ∈ l := by
  unfold insL
  conv => rhs; rw [← List.takeWhile_append_dropWhile (p := fun e => decide (ltE e x)) (l := l)]
  simp only [List.mem_append, List.mem_cons]
  constructor
  · rintro (h | h | h)
    · exact .inr (.inl h)
    · exact .inl h
    · exact .inr (.inr h)
  · rintro (h | h | h)
    · exact .inr (.inl h)
    · exact .inl h
    · exact .inr (.inr h)
theorem mem_with {l : List Ent} {x e : Ent} : e ∈ withL l x ↔ e = x ∨ (e ∈ l ∧ eKey e ≠ eKey x) := by
  unfold withL
  rw [mem_ins, mem_without]

theorem Srt.without {r : List Ent} (h : Srt r) (x : Ent) : Srt (withoutL r x) := ⟨h.1.filter _, fun e he => h.2 e (mem_without.1 he).1⟩
theorem Srt.with {r : List Ent} (h : Srt r) {x : Ent} (hx : x.ok) : Srt (withL r x) := by
  have hw := h.without x
  have hk : ∀ e ∈ withoutL r x, eKey e ≠ eKey x := fun e he => (mem_without.1 he).2
  refine ⟨?_, fun e he => ?_⟩
  · unfold withL
    generalize withoutL r x = l at *
    clear h
    unfold insL
    have hcut : ∀ e ∈ l.dropWhile (fun e => decide (ltE e x)), ltE x e := by
      have hs : (l.dropWhile (fun e => decide (ltE e x))).Pairwise ltE := hw.1.sublist (List.dropWhile_sublist _)
      cases hd : l.dropWhile (fun e => decide (ltE e x)) with
      | nil => simp
      | cons f k =>
        rw [hd] at hs
        have hf : ¬ ltE f x := by
          have := List.head_dropWhile_not (fun e => decide (ltE e x)) (l := l) (by rw [hd]; simp)
          simp only [hd, List.head_cons] at this
          simpa using this
        have hfl : f ∈ l := (List.dropWhile_sublist _).subset (by rw [hd]; exact List.mem_cons_self ..)
        have hxf : ltE x f := (ltE_total (hw.2 f hfl) hx (hk f hfl)).resolve_left hf
        intro e he
        rcases List.mem_cons.1 he with rfl | he
        · exact hxf
        · exact ltE_trans hxf ((List.pairwise_cons.1 hs).1 e he)
    have htk : ∀ e ∈ l.takeWhile (fun e => decide (ltE e x)), ltE e x := fun e he => by
      have := List.all_eq_true.1 (List.all_takeWhile (p := fun e => decide (ltE e x)) (l := l)) e he
      simpa using this
    rw [List.pairwise_append]
    refine ⟨hw.1.sublist (List.takeWhile_sublist _), List.pairwise_cons.2 ⟨hcut, hw.1.sublist (List.dropWhile_sublist _)⟩, fun a ha b hb => ?_⟩
    rcases List.mem_cons.1 hb with rfl | hb
    · exact htk a ha
    · exact ltE_trans (htk a ha) (hcut b hb)
  · rcases mem_with.1 he with rfl | he
    · exact hx
    · exact h.2 e he.1

def chL (r : List Ent) (c : Ent × Bool) : List Ent := if c.2 then withoutL r c.1 else withL r c.1
def replayL (l : List Ent) (cs : List (Ent × Bool)) : List Ent := cs.foldl chL (l.foldl withL [])

theorem Srt.ch {r : List Ent} (h : Srt r) {c : Ent × Bool} (hc : c.1.ok) : Srt (chL r c) := by
  unfold chL
  split
  · exact h.without _
  · exact h.with hc
theorem Srt.chs {r : List Ent} (h : Srt r) : ∀ {cs : List (Ent × Bool)}, (∀ c ∈ cs, c.1.ok) → Srt (cs.foldl chL r)
  | [], _ => h
  | c :: cs, hc => by
    rw [List.foldl_cons]
    exact Srt.chs (h.ch (hc c (List.mem_cons_self ..))) fun d hd => hc d (List.mem_cons_of_mem _ hd)
theorem Srt.ents {r : List Ent} (h : Srt r) : ∀ {l : List Ent}, (∀ e ∈ l, e.ok) → Srt (l.foldl withL r)
  | [], _ => h
  | c :: cs, hc => by
    rw [List.foldl_cons]
    exact Srt.ents (h.with (hc c (List.mem_cons_self ..))) fun d hd => hc d (List.mem_cons_of_mem _ hd)
theorem Srt.replay {l : List Ent} {cs : List (Ent × Bool)} (hl : ∀ e ∈ l, e.ok) (hc : ∀ c ∈ cs, c.1.ok) : Srt (replayL l cs) := (Srt.nil.ents hl).chs hc

theorem without_len (l : List Ent) (x : Ent) : (withoutL l x).length ≤ l.length := List.length_filter_le _ _
theorem ins_len (l : List Ent) (x : Ent) : (insL l x).length = l.length + 1 := by
  have h := congrArg List.length (List.takeWhile_append_dropWhile (p := fun e => decide (ltE e x)) (l := l))
  unfold insL
  rw [List.length_append] at h ⊢
  rw [List.length_cons]
  omega
theorem with_len (l : List Ent) (x : Ent) : (withL l x).length ≤ l.length + 1 := by
  unfold withL
  rw [ins_len]
  have := without_len l x
  omega
theorem ents_len : ∀ (l r : List Ent), (l.foldl withL r).length ≤ r.length + l.length
  | [], r => by simp
  | e :: l, r => by
    rw [List.foldl_cons, List.length_cons]
    have := ents_len l (withL r e)
    have := with_len r e
    omega
theorem chs_len : ∀ (cs : List (Ent × Bool)) (r : List Ent), (cs.foldl chL r).length ≤ r.length + cs.length
  | [], r => by simp
  | c :: cs, r => by
    rw [List.foldl_cons, List.length_cons]
    have := chs_len cs (chL r c)
    have h1 := with_len r c.1
    have h2 := without_len r c.1
    have : (chL r c).length ≤ r.length + 1 := by unfold chL; split <;> omega
    omega
theorem replay_len (l : List Ent) (cs : List (Ent × Bool)) : (replayL l cs).length ≤ l.length + cs.length := by
  have h1 := chs_len cs (l.foldl withL [])
  have h2 := ents_len l []
  unfold replayL
  simp at h2
  omega

/-- entries in order are put in as they are -/
theorem ents_self {r : List Ent} (h : Srt r) : r.foldl withL [] = r := by
  have key : ∀ (l : List Ent) (s : List Ent), Srt (s ++ l) → l.foldl withL s = s ++ l := by
    intro l
    induction l with
    | nil => intro s _; simp
    | cons e l ih =>
      intro s hs
      rw [List.foldl_cons]
      have hse : Srt s := ⟨hs.1.sublist (List.sublist_append_left _ _), fun x hx => hs.2 x (List.mem_append_left _ hx)⟩
      have hek : e.ok := hs.2 e (by simp)
      have hsub : Srt (s ++ [e]) := ⟨hs.1.sublist (List.Sublist.append_left (by simp) _), fun x hx => hs.2 x (by simp at hx ⊢; rcases hx with h | h; exact .inl h; exact .inr (.inl h))⟩
      have hw : withL s e = s ++ [e] := by
        refine (hse.with hek).eq hsub fun x => ?_
        rw [mem_with, List.mem_append, List.mem_singleton]
        have hlt : ∀ y ∈ s, ltE y e := fun y hy => (List.pairwise_append.1 hsub.1).2.2 y hy e (by simp)
        constructor
        · rintro (h | h)
          · exact .inr h
          · exact .inl h.1
        · rintro (h | h)
          · exact .inr ⟨h, ltE_key (hlt x h)⟩
          · exact .inl h
      rw [hw, ih (s ++ [e]) (by simpa using hs)]
      simp
  simpa using key r [] (by simpa using h)

theorem replay_self {r : List Ent} (h : Srt r) (cs : List (Ent × Bool)) : replayL r cs = cs.foldl chL r := by
  unfold replayL
  rw [ents_self h]

/-! ### A map of entries -/

structure RM (m : List ((Int × Mac) × Ent)) (r : List Ent) : Prop where
  srt : Srt r
  mem : ∀ e, e ∈ r ↔ (eKey e, e) ∈ m
  key : ∀ p ∈ m, p.1 = eKey p.2
  nd : (m.map Prod.fst).Nodup

theorem RM.nil : RM [] [] := ⟨Srt.nil, by simp, by simp, by simp⟩
theorem setL_mem_iff {κ ν : Type} [DecidableEq κ] {l : List (κ × ν)} (hn : (l.map Prod.fst).Nodup) {k : κ} {v : ν} {x : κ × ν} : x ∈ setL l k v ↔ x = (k, v) ∨ (x ∈ l ∧ x.1 ≠ k) := by
  have hns := VT.setL_nodup (k := k) (v := v) hn
  have key : ∀ (q : List (κ × ν)), (q.map Prod.fst).Nodup → ∀ y, y ∈ q ↔ getL q y.1 = some y.2 := fun q hq y => ⟨fun h => lookup_of_mem hq h, fun h => lookup_some_mem h⟩
  rw [key _ hns, lookup_setL]
  by_cases e : x.1 = k
  · rw [if_pos e]
    constructor
    · intro h
      left
      simp only [Option.some.injEq] at h
      exact Prod.ext e h.symm
    · rintro (h | h)
      · rw [h]
      · exact absurd e h.2
  · rw [if_neg e]
    constructor
    · intro h; exact .inr ⟨lookup_some_mem h, e⟩
    · rintro (h | h)
      · rw [h] at e; exact absurd rfl e
      · exact lookup_of_mem hn h.1
theorem delL_mem_iff {κ ν : Type} [DecidableEq κ] {l : List (κ × ν)} {k : κ} {x : κ × ν} : x ∈ delL l k ↔ x ∈ l ∧ x.1 ≠ k := by
  unfold delL
  rw [List.mem_filter, decide_eq_true_iff]

theorem RM.set {m : List ((Int × Mac) × Ent)} {r : List Ent} (h : RM m r) {e : Ent} (he : e.ok) : RM (setL m (eKey e) e) (withL r e) := by
  refine ⟨h.srt.with he, fun f => ?_, fun p hp => ?_, VT.setL_nodup h.nd⟩
  · rw [mem_with, setL_mem_iff h.nd, h.mem]
    constructor
    · rintro (rfl | ⟨h1, h2⟩)
      · exact .inl rfl
      · exact .inr ⟨h1, h2⟩
    · rintro (h1 | ⟨h1, h2⟩)
      · exact .inl (Prod.ext_iff.1 h1).2
      · exact .inr ⟨h1, h2⟩
  · rcases (setL_mem_iff h.nd).1 hp with rfl | ⟨h1, _⟩
    · rfl
    · exact h.key p h1
theorem RM.del {m : List ((Int × Mac) × Ent)} {r : List Ent} (h : RM m r) (e : Ent) : RM (delL m (eKey e)) (withoutL r e) := by
  refine ⟨h.srt.without e, fun f => ?_, fun p hp => h.key p (delL_mem_iff.1 hp).1, h.nd.sublist ((VT.delL_sub _ _).map _)⟩
  rw [mem_without, delL_mem_iff, h.mem]

/-- what comes out of the map, sorted -/
theorem RM.out {m d : List ((Int × Mac) × Ent)} {r ys : List Ent} (h : RM m r) (hd : d.Perm m) (hy : ys.Perm (d.map Prod.snd)) (hs : ys.Pairwise fun x y => ¬ cmpE y x < 0) : ys = r := by
  have hm : ∀ e, e ∈ ys ↔ e ∈ r := fun e => by
    rw [hy.mem_iff, (hd.map _).mem_iff, h.mem, List.mem_map]
    constructor
    · rintro ⟨p, hp, rfl⟩
      have := h.key p hp
      rw [← this]; exact hp
    · intro hp; exact ⟨_, hp, rfl⟩
  have hnd : ys.Nodup := by
    rw [hy.nodup_iff, (hd.map _).nodup_iff]
    have : (m.map Prod.snd).map eKey = m.map Prod.fst := by
      rw [List.map_map]
      exact List.map_congr_left fun p hp => (h.key p hp).symm
    have hn := h.nd
    rw [← this] at hn
    exact List.Pairwise.of_map eKey (fun a b h e => h (congrArg eKey e)) hn
  refine Srt.eq ⟨?_, fun e he => h.srt.2 e ((hm e).1 he)⟩ h.srt hm
  rw [List.pairwise_iff_getElem] at hs ⊢
  intro i j hi hj hij
  have h1 := hs i j hi hj hij
  rw [cmpE_lt] at h1
  have hne : ys[i] ≠ ys[j] := List.pairwise_iff_getElem.1 hnd i j hi hj hij
  have hmi := (hm _).1 (List.getElem_mem hi)
  have hmj := (hm _).1 (List.getElem_mem hj)
  have hk : eKey ys[i] ≠ eKey ys[j] := fun e => hne (h.srt.key hmi hmj e)
  exact (ltE_total (h.srt.2 _ hmi) (h.srt.2 _ hmj) hk).resolve_right h1

theorem swoE {p : Ent → Prop} : SWO (ltOf fun x y : { e : Ent // p e } => cmpE x.1 y.1) where
  irrefl x := by
    unfold ltOf
    rw [decide_eq_false_iff_not, cmpE_lt]
    exact ltE_irr _
  trans x y z h1 h2 := by
    unfold ltOf at *
    rw [decide_eq_true_iff, cmpE_lt] at *
    exact ltE_trans h1 h2
  ntrans x y z h1 h2 := by
    unfold ltOf at *
    rw [decide_eq_false_iff_not, cmpE_lt] at *
    unfold ltE at *
    omega

end Go.Gx
end

section
/- Bytes that are copied, cut out, made; shifts and bits. -/
namespace Go.Gx
open Go
variable {P : Program} {K : Value → World → Prop} {w : World}

/-! ### Numbers -/

theorem wrap_u8 (x : Int) : IntKind.u8.wrap x = x % 256 := by
  unfold IntKind.wrap
  have e1 : (2 : Int) ^ IntKind.u8.bits = 256 := rfl
  have e3 : IntKind.u8.signed = false := rfl
  simp only [e1, e3, Bool.false_and, Bool.false_eq_true, if_false]

theorem opS_shr (k k' : IntKind) (x : Int) (n : Nat) (hn : n ≤ k.bits) : opS P (S.binI .shr (.int k x) (.int k' n)) K w = K (.int k (x / 2 ^ n)) w := by
  have h : ¬ ((n : Int) < 0) := by omega
  have e : x.fdiv (2 ^ n) = x / 2 ^ n := Int.fdiv_eq_ediv_of_nonneg x (Int.le_of_lt (Int.pow_pos (by decide)))
  simp [S.binI, binOp, Op.shift, opS, uponR, Nat.min_eq_left hn, h, e]
theorem opS_shl (k k' : IntKind) (x : Int) (n : Nat) (hn : n ≤ k.bits) : opS P (S.binI .shl (.int k x) (.int k' n)) K w = K (.int k (k.wrap (x * 2 ^ n))) w := by
  have h : ¬ ((n : Int) < 0) := by omega
  simp [S.binI, binOp, Op.shift, opS, uponR, Nat.min_eq_left hn, h]

theorem ofInt_nat {n : Nat} {x : Int} (h0 : 0 ≤ x) : BitVec.ofInt n x = BitVec.ofNat n x.toNat := by
  obtain ⟨k, rfl⟩ := Int.eq_ofNat_of_zero_le h0
  simp

/-- bits that do not meet -/
theorem opS_or {x y : Int} (m : Nat) (hx : 0 ≤ x) (hx2 : x < 2 ^ 62) (hy : 0 ≤ y) (hy2 : y < 2 ^ m) (hm : x % 2 ^ m = 0) (hm2 : m ≤ 62) : opS P (S.binI .or (.int .i64 x) (.int .i64 y)) K w = K (.int .i64 (x + y)) w := by
  obtain ⟨a, rfl⟩ := Int.eq_ofNat_of_zero_le hx
  obtain ⟨b, rfl⟩ := Int.eq_ofNat_of_zero_le hy
  have hb : b < 2 ^ m := by exact_mod_cast hy2
  have ha : a < 2 ^ 62 := by exact_mod_cast hx2
  have hd : a % 2 ^ m = 0 := by exact_mod_cast hm
  have hpm : 2 ^ m ≤ 2 ^ 62 := Nat.pow_le_pow_right (by decide) hm2
  have e : (BitVec.ofInt 64 (a : Int) ||| BitVec.ofInt 64 (b : Int)).toNat = a + b := by
    rw [ofInt_nat (by omega), ofInt_nat (by omega), BitVec.toNat_or]
    simp only [Int.toNat_natCast, BitVec.toNat_ofNat]
    rw [Nat.mod_eq_of_lt (by omega), Nat.mod_eq_of_lt (by omega)]
    have : a = a / 2 ^ m * 2 ^ m := by
      have := Nat.div_add_mod a (2 ^ m)
      rw [hd, Nat.mul_comm] at this
      omega
    rw [this, ← Nat.shiftLeft_eq, ← Nat.shiftLeft_add_eq_or_of_lt hb]
  have hw : IntKind.i64.wrap ((a + b : Nat) : Int) = (a : Int) + b := by
    rw [wrap_i64 (by omega)]; simp
  unfold S.binI
  simp only []
  have : (binOp .or 0 (.int .i64 (a : Int)) (.int .i64 (b : Int))).run P w = .ok (.int .i64 ((a : Int) + b)) w := by
    show (Op.intBits .or .i64 (a : Int) (b : Int)).run P w = _
    unfold Op.intBits
    show Result.ok (Value.int .i64 (IntKind.i64.wrap ((BitVec.ofInt 64 (a : Int) ||| BitVec.ofInt 64 (b : Int)).toNat : Int))) w = _
    rw [e, hw]
  rw [opS_bind, this]

/-- the low bits -/
theorem opS_and {x : Int} (m : Nat) (hx : 0 ≤ x) (hx2 : x < 2 ^ 62) (hm : m ≤ 62) : opS P (S.binI .and (.int .i64 x) (.int .i64 (2 ^ m - 1))) K w = K (.int .i64 (x % 2 ^ m)) w := by
  obtain ⟨a, rfl⟩ := Int.eq_ofNat_of_zero_le hx
  have ha : a < 2 ^ 62 := by exact_mod_cast hx2
  have hpm : 2 ^ m ≤ 2 ^ 62 := Nat.pow_le_pow_right (by decide) hm
  have hp0 : 0 < 2 ^ m := Nat.pow_pos (by decide)
  have eb : ((2 : Int) ^ m - 1) = ((2 ^ m - 1 : Nat) : Int) := by
    rw [Int.natCast_sub (by omega)]; simp
  have e : (BitVec.ofInt 64 (a : Int) &&& BitVec.ofInt 64 ((2 : Int) ^ m - 1)).toNat = a % 2 ^ m := by
    rw [eb, ofInt_nat (by omega), ofInt_nat (by omega), BitVec.toNat_and]
    simp only [Int.toNat_natCast, BitVec.toNat_ofNat]
    rw [Nat.mod_eq_of_lt (by omega), Nat.mod_eq_of_lt (by omega), Nat.and_two_pow_sub_one_eq_mod]
  have hlt : a % 2 ^ m < 2 ^ m := Nat.mod_lt _ hp0
  have hw : IntKind.i64.wrap ((a % 2 ^ m : Nat) : Int) = (a : Int) % 2 ^ m := by
    rw [wrap_i64 (by omega)]; simp
  unfold S.binI
  simp only []
  have : (binOp .and 0 (.int .i64 (a : Int)) (.int .i64 ((2 : Int) ^ m - 1))).run P w = .ok (.int .i64 ((a : Int) % 2 ^ m)) w := by
    show Result.ok (Value.int .i64 (IntKind.i64.wrap ((BitVec.ofInt 64 (a : Int) &&& BitVec.ofInt 64 ((2 : Int) ^ m - 1)).toNat : Int))) w = _
    rw [e, hw]
  rw [opS_bind, this]

/-! ### Parts of arrays; room -/

theorem opS_slcA {T E n sz : Nat} {ag : Bool} [hT : ArT P T n E] [hs : Sz P E sz ag] (b o : Nat) : opS P (S.slc T (pt b o) none none none) K w = K (.slice (some ⟨b, o, none⟩) n n) w := by
  unfold S.slc
  rw [opS_bind]
  unfold Instr.sliceAt
  rw [Sem.run_bind, run_underlying_of hT.und, Result.andThen_ok]
  simp only []
  have : (Instr.sureAddr (pt b o)).run P w = .ok ⟨b, o, none⟩ w := rfl
  rw [Sem.run_bind, this, Result.andThen_ok]
  have hb : (Instr.sliceBounds false n n none none none).run P w = .ok (0, n, n) w := rfl
  rw [Sem.run_bind, hb, Result.andThen_ok]
  simp only []
  rw [Sem.run_bind, hs.size w, Result.andThen_ok]
  simp only [Nat.zero_mul, add_none, Nat.add_zero, ite_self, Nat.sub_zero]
  rfl

theorem opS_cap {T ty : TypeId} {E : outParam TypeId} [hT : SlT P T E] (a : Option Addr) (n c : Nat) : opS P (S.bi .cap #[T] ty [.slice a n c]) K w = K (.int .i64 c) w := by
  show opS P (do pure (Next.value (← Builtin.cap_ #[T] ty #[.slice a n c]))) K w = _
  rw [opS_bind]
  unfold Builtin.cap_
  simp only [List.getElem?_toArray, List.getElem?_cons_zero]
  rw [Sem.run_bind, run_underlying_of hT.und, Result.andThen_ok]
  rfl

theorem opS_slc0 {T E sz : Nat} {ag : Bool} [hT : SlT P T E] [hs : Sz P E sz ag] {b o n c : Nat} {k : IntKind} : opS P (S.slc T (.slice (some ⟨b, o, none⟩) n c) (some (.int k 0)) none none) K w = K (.slice (some ⟨b, o, none⟩) n c) w := by
  rw [opS_slice (run_boundsL (lo := 0) (by omega) (by omega))]
  simp [add_none]

theorem wr_nil (w : World) (b o : Nat) : wr w b o [] = w := by
  unfold wr
  split
  · rename_i c T fz h
    rw [splice_nil]
    simp only [Array.toArray_toList]
    unfold upd
    have : w.heap.setIfInBounds b (.cells c T fz) = w.heap := by
      apply Array.ext_getElem?
      intro i
      rw [Array.getElem?_setIfInBounds]
      by_cases e : b = i
      · subst e
        rw [if_pos rfl, h, if_pos (lt_of_heap h)]
      · rw [if_neg e]
    rw [this]
  · rfl

/-- 'copy' of as many as there is room for -/
theorem s_copy {T T2 E sz : Nat} {ag : Bool} {ty : TypeId} [hT : SlT P T E] [hs : Sz P E sz ag] {b o n c m : Nat} {u : Value} {k : List Value} {cs : Array Value} {TT : TypeId} (hb : w.heap[b]? = some (.cells cs TT (0, 0)))
    (hu : Rd sz w u m k) (hk : k.all S.oneCell = true) (hm : m ≤ n) (hn : o + n * sz ≤ cs.size) : opS P (S.bi .copy #[T, T2] ty [.slice (some ⟨b, o, none⟩) n c, u]) K w = K (.int .i64 m) (wr w b o k) := by
  show opS P (do pure (Next.value (← Builtin.copy_ #[T, T2] ty #[.slice (some ⟨b, o, none⟩) n c, u]))) K w = _
  rw [opS_bind]
  unfold Builtin.copy_
  simp only [List.getElem?_toArray, List.getElem?_cons_zero, List.getElem?_cons_succ]
  rw [Sem.run_bind, run_underlying_of hT.und, Result.andThen_ok]
  simp only []
  obtain ⟨ua, uc, rfl⟩ := hu.form
  have hlen : (Builtin.lenOf (.slice ua m uc)).run P w = .ok m w := rfl
  have hmin : Nat.min m n = m := Nat.min_eq_left hm
  rw [Sem.run_bind, hlen, Result.andThen_ok, hmin, Sem.run_bind, hs.size w, Result.andThen_ok, Sem.run_bind, run_firstCells hu, Result.andThen_ok]
  have hkl := hu.len
  have hmul : m * sz ≤ n * sz := Nat.mul_le_mul_right _ hm
  have hst := run_storeCells (P := P) k w cs 0 o hb hk (by omega) (fun j hj => by simp)
  rw [Sem.run_bind]
  simp only [Nat.add_zero] at hst
  rw [hst, Result.andThen_ok]
  unfold wr
  rw [hb]
  rfl

theorem opS_mksc {T E n by_ : Nat} {ag : Bool} {z : Value} [hT : SlT P T E] [hs : Sz P E n ag] [hb : By P E by_] [hz : ZV P E z] (k k' : IntKind) (len cap : Int) (h0 : 0 ≤ len) (h0' : len ≤ cap) (h1 : by_ * cap ≤ 2 ^ 48) (h2 : cap < 2 ^ 62)
    (hn : z.cells.size = n) (hn0 : 0 < n) : opS P (S.mks T (.int k len) (.int k' cap)) K w = K (.slice (some ⟨w.heap.size, 0, none⟩) len.toNat cap.toNat) (w.alloc (.cells (zeros cap.toNat z.cells.toList).toArray E)) := by
  obtain ⟨i, hi, hib⟩ := hb.bytes
  unfold S.mks
  rw [opS_bind]
  unfold Instr.makeSlice
  rw [Sem.run_bind, run_underlying_of hT.und, Result.andThen_ok]
  have hw : IntKind.i64.wrap len = len := wrap_i64 (by omega)
  have hw' : IntKind.i64.wrap cap = cap := wrap_i64 (by omega)
  simp only [asInt, asIntOf, pure_bind, hw, hw']
  rw [Sem.run_bind, hi w, Result.andThen_ok]
  have ht : (decide (cap < 0) || decide ((i.bytes : Int) * cap > 2 ^ 48)) = false := by
    rw [hib]; simp; omega
  have hc : ((decide (cap < 0) || decide ((i.bytes : Int) * cap > 2 ^ 48)) || decide (len < 0) || decide (len > cap)) = false := by
    rw [ht]; simp; omega
  simp only [hc, Bool.false_eq_true, if_false]
  have har : (askRoom (cap.toNat * i.bytes)).run P w = .ok () w := by
    unfold askRoom; split <;> rfl
  rw [Sem.run_bind, har, Result.andThen_ok, Sem.run_bind, hs.size w, Result.andThen_ok]
  have hrz := range_zeros cap.toNat z.cells
  rw [hn] at hrz
  by_cases hz0 : cap.toNat * n = 0
  · rw [if_pos hz0, Sem.run_bind]
    have hl0 : cap.toNat = 0 := by
      rcases Nat.mul_eq_zero.1 hz0 with h | h
      · exact h
      · omega
    have e0 : Array.range 0 = #[] := by simp
    simp only [hl0, Nat.zero_mul, e0, Array.map_empty]
    rfl
  · rw [if_neg hz0, Sem.run_bind, hz.zero w, Result.andThen_ok, Sem.run_bind, hn, hrz]
    rfl

/-- 'append([]T(nil), make([]T, n)...)' -/
theorem s_appmk {T T2 E sz by_ : Nat} {ag : Bool} {z : Value} {ty : TypeId} [hT : SlT P T E] (hT2 : P.underlying T2 = some (.int .i64)) [hs : Sz P E sz ag] [hb : By P E by_] [hz : ZV P E z] {n : Nat} (hn : 0 < n) (hzn : z.cells.size = sz) (hsz : 0 < sz) (hby : 0 < by_) (hroom : (2 * n + 192) * by_ ≤ 2 ^ 48)
    (h : ∀ c w', Own E sz w' (.slice (some ⟨w.heap.size, 0, none⟩) n c) n (zeros n z.cells.toList) → c < 2 ^ 63 → Fr none_ w w' → K (.slice (some ⟨w.heap.size, 0, none⟩) n c) w') : opS P (S.bi .append #[T, T2] ty [.slice none 0 0, .int .i64 n]) K w := by
  obtain ⟨inf, hi, hib⟩ := hb.bytes
  show opS P (do pure (Next.value (← Builtin.append_ #[T, T2] ty #[.slice none 0 0, .int .i64 n]))) K w
  rw [opS_bind]
  unfold Builtin.append_
  simp only [List.getElem?_toArray, List.getElem?_cons_zero, List.getElem?_cons_succ]
  rw [Sem.run_bind, run_underlying_of hT.und, Result.andThen_ok]
  simp only []
  rw [Sem.run_bind, hs.size w, Result.andThen_ok, Sem.run_bind, run_underlying_of hT2, Result.andThen_ok]
  have hnn : (2 * n + 192) ≤ 2 ^ 48 := Nat.le_trans (Nat.le_mul_of_pos_right _ hby) hroom
  have hw : IntKind.i64.wrap (n : Int) = n := wrap_i64 (by omega)
  simp only [pure_bind, Bool.not_true, Bool.false_eq_true, if_false, if_true, asInt, asIntOf, hw]
  rw [if_neg (by omega)]
  have hnb : n * by_ ≤ 2 ^ 48 := Nat.le_trans (Nat.mul_le_mul_right by_ (by omega)) hroom
  rw [Sem.run_bind, hi w, Result.andThen_ok, if_neg (by rw [hib]; omega)]
  simp only [Int.toNat_natCast, Nat.zero_add]
  rw [if_neg (by omega)]
  have hg : ¬ (((n : Nat) : Int) > IntKind.i64.max) := by
    have e2 : IntKind.i64.max = 9223372036854775807 := rfl
    rw [e2]; omega
  have hg2 : ¬ (Builtin.nextslicecap n 0 * inf.bytes > 2 ^ 48) := by
    have : Builtin.nextslicecap n 0 = n := by unfold Builtin.nextslicecap; rw [if_pos (by omega)]
    rw [this, hib]; omega
  have har : ∀ x w', (askRoom x).run P w' = .ok () w' := by
    intro x w'; unfold askRoom; split <;> rfl
  rw [Sem.run_bind, hi w, Result.andThen_ok, if_neg (by simp; omega), Sem.run_bind, hi w, Result.andThen_ok, if_neg hg2]
  rw [Sem.run_bind, run_choose rfl, Result.andThen_ok, Sem.run_bind, hi _, Result.andThen_ok, Sem.run_bind, har, Result.andThen_ok]
  have hfc : ∀ w', (Builtin.firstCells sz 0 (.slice none 0 0)).run P w' = .ok #[] w' := fun _ => rfl
  rw [Sem.run_bind, hfc, Result.andThen_ok, if_neg (by have := Nat.mul_pos hn hsz; omega), Sem.run_bind, Sem.run_bind, hz.zero, Result.andThen_ok, Sem.run_pure, Result.andThen_ok, Sem.run_bind, hz.zero, Result.andThen_ok, run_zeroCells_ok, run_zeroCells_ok]
  have hq : ∀ q : Nat, (Question.appendCap n 0 E).cut q = n + q % (2 ^ 63 - n) := fun _ => rfl
  rw [hq]
  have hlt : ∀ q : Nat, q % (2 ^ 63 - n) < 2 ^ 63 - n := fun q => Nat.mod_lt _ (by omega)
  have hx2 := hlt (w.tape w.drawn (Question.appendCap n 0 E))
  generalize w.tape w.drawn (Question.appendCap n 0 E) % (2 ^ 63 - n) = x at *
  have hx : n + x - n = x := by omega
  rw [hx]
  have hnew : ∀ (cs : Array Value) (w' : World), (newRow E cs).run P w' = .ok ⟨w'.heap.size, 0, none⟩ (w'.alloc (.cells cs E)) := fun _ _ => rfl
  rw [Sem.run_bind, hnew, Result.andThen_ok]
  simp only [Sem.run_pure]
  have hcs : (#[] ++ (zeros n z.cells.toList).toArray ++ (zeros x z.cells.toList).toArray).toList = zeros n z.cells.toList ++ zeros x z.cells.toList := by simp
  have hzl : ∀ y, (zeros y z.cells.toList).length = y * sz := fun y => by rw [zeros_length]; simp [hzn]
  refine h _ _ (.inr ⟨w.heap.size, 0, n + x, _, rfl, heap_alloc_new w.drew _, by omega, ?_, ?_⟩) (by omega) ((Fr.drew w).trans (Fr.alloc _ _ rfl))
  · rw [← Array.length_toList, hcs, List.length_append, hzl, hzl, Nat.add_mul]; omega
  · rw [hcs, List.drop_zero, List.take_append_of_le_length (by rw [hzl]; exact Nat.le_refl _), List.take_of_length_le (by rw [hzl]; exact Nat.le_refl _)]

theorem s_bs2o {T E : TypeId} {ag : Bool} {z : Value} [hT : SlT P T E] [hs : Sz P E 1 ag] [hz : ZV P E z] {x y : Value} (hx : S.oneCell x = true) (hy : S.oneCell y = true) (hzn : z.cells.size = 1)
    (h : ∀ v' o, OwnE E 1 (w.alloc o) v' [[x], [y]] → loose o = true → New w v' → K v' (w.alloc o)) : opS P (S.buildS T 2 [(0, x), (1, y)]) K w := by
  have hc : x.cells = #[x] := by cases x <;> first | rfl | cases hx
  have hc' : y.cells = #[y] := by cases y <;> first | rfl | cases hy
  unfold S.buildS
  rw [opS_bind]
  unfold Instr.buildSlice
  rw [Sem.run_bind, run_underlying_of hT.und, Result.andThen_ok]
  simp only []
  rw [Sem.run_bind, hs.size w, Result.andThen_ok]
  simp only [Nat.mul_one]
  rw [if_neg (by omega), if_neg (by omega), Sem.run_bind, hz.zero w, Result.andThen_ok]
  have hr := range_zeros 2 z.cells
  rw [hzn] at hr
  simp only [pure_bind, hzn, Nat.mul_one] at hr ⊢
  rw [hr]
  have hzl : z.cells.toList.length = 1 := by simp [hzn]
  have hz2 : (zeros 2 z.cells.toList).length = 2 := by rw [zeros_length, hzl]
  rw [fill_cons (off := 0) (size := 1) (by simp) (by rw [hc]; rfl) (by simp [hz2]), hc]
  have e1 : (splice (zeros 2 z.cells.toList).toArray.toList 0 #[x].toList).length = 2 := by rw [splice_length] <;> simp [hz2]
  rw [fill_cons (off := 1) (size := 1) (by simp) (by rw [hc']; rfl) (by rw [List.size_toArray, e1]; exact Nat.le_refl _), hc']
  have e : splice (splice (zeros 2 z.cells.toList).toArray.toList 0 #[x].toList).toArray.toList 1 #[y].toList = [x, y] := by
    match hzs : zeros 2 z.cells.toList, hz2 with
    | [a, b], _ => rfl
  rw [e]
  simp only [Instr.fill]
  refine h _ _ ⟨.inr ⟨w.heap.size, 0, 2, #[x, y], rfl, heap_alloc_new _ _, by simp, by simp, by simp⟩, by simp⟩ rfl fun b hb => ?_
  cases hb; exact Nat.le_refl _

theorem s_bs2c {T E : TypeId} {ag : Bool} {z : Value} [hT : SlT P T E] [hs : Sz P E 1 ag] [hz : ZV P E z] {x y : Value} (hx : S.oneCell x = true) (hy : S.oneCell y = true) (hzn : z.cells.size = 1)
    (h : ∀ v' w', OwnE E 1 w' v' [[x], [y]] → Fr none_ w w' → New w v' → K v' w') : opS P (S.buildS T 2 [(0, x), (1, y)]) K w :=
  s_bs2o hx hy hzn fun v' o h1 h2 h3 => h v' _ h1 (Fr.alloc _ _ h2) h3

theorem RdE.cap {sz : Nat} {v : Value} {es : List (List Value)} (h : RdE sz w v es) : ∃ a c, v = .slice a es.length c ∧ es.length ≤ c := by
  rcases h.1 with ⟨⟨a, c, rfl⟩, h2, _⟩ | ⟨b, o, c, cs, T, fz, rfl, _, hc, _⟩
  · exact ⟨a, c, by rw [h2], by omega⟩
  · exact ⟨_, c, rfl, hc⟩

/-- 'v[:k]' -/
theorem s_slcH {T E sz : Nat} {ag : Bool} [hT : SlT P T E] [hs : Sz P E sz ag] {v : Value} {es : List (List Value)} (h : RdE sz w v es) {k : Nat} (hk : k ≤ es.length) (hK : ∀ v', RdE sz w v' (es.take k) → K v' w) : opS P (S.slc T v none (some (.int .i64 k)) none) K w := by
  obtain ⟨a, c, rfl, hc⟩ := h.cap
  rw [opS_slice (run_boundsH (hi := (k : Int)) (by omega) (by omega))]
  have := h.part (l := 0) (m := k) (by omega) hk
  rw [List.drop_zero] at this
  exact hK _ this

/-- 'v[k:]' -/
theorem s_slcL {T E sz : Nat} {ag : Bool} [hT : SlT P T E] [hs : Sz P E sz ag] {v : Value} {es : List (List Value)} (h : RdE sz w v es) {k : Nat} (hk : k ≤ es.length) (hK : ∀ v', RdE sz w v' (es.drop k) → K v' w) : opS P (S.slc T v (some (.int .i64 k)) none none) K w := by
  obtain ⟨a, c, rfl, hc⟩ := h.cap
  rw [opS_slice (run_boundsL (lo := (k : Int)) (by omega) (by omega))]
  have := h.part (l := k) (m := es.length) hk (Nat.le_refl _)
  rw [List.take_length] at this
  exact hK _ this

/-! ### What one holds, by cells -/

/-- a part of what one holds is written -/
theorem Own.copy {E b o c n m : Nat} {l js k : List Value} (h : Own E 1 w (.slice (some ⟨b, o, none⟩) (n + m) c) (n + m) (l ++ js)) (hl : l.length = n) (hk : k.length = m) :
    Own E 1 (wr w b (o + n) k) (.slice (some ⟨b, o, none⟩) (n + m) c) (n + m) (l ++ k) := by
  rcases h with ⟨h, _⟩ | ⟨b', o', c', cs, hv, hb, hc, ho, he⟩
  · cases h
  · simp only [Value.slice.injEq, Option.some.injEq, Addr.mk.injEq, and_true, true_and] at hv
    obtain ⟨⟨rfl, rfl⟩, rfl⟩ := hv
    have hsz : cs.toList.length = cs.size := Array.length_toList
    refine .inr ⟨b, o, c, (splice cs.toList (o + n) k).toArray, rfl, ?_, hc, ?_, ?_⟩
    · rw [heap_wr, if_pos rfl, hb]; rfl
    · rw [List.size_toArray, splice_length (by omega)]; simpa using ho
    · have := splice_window (l := cs.toList) (k := k) (o := o) (a := n) (by omega)
      show l ++ k = List.take _ (List.drop o (splice cs.toList (o + n) k))
      rw [Nat.mul_one, ← hk, this]
      congr 1
      have := congrArg (List.take n) he
      rw [← hl, List.take_left, List.take_take] at this
      rw [hl, Nat.mul_one, Nat.min_eq_left (by omega)] at this
      exact this

theorem Own.splice {E b o c n a : Nat} {l k : List Value} (h : Own E 1 w (.slice (some ⟨b, o, none⟩) n c) n l) (ha : a + k.length ≤ n) :
    Own E 1 (wr w b (o + a) k) (.slice (some ⟨b, o, none⟩) n c) n (Gx.splice l a k) := by
  rcases h with ⟨h, _⟩ | ⟨b', o', c', cs, hv, hb, hc, ho, rfl⟩
  · cases h
  · simp only [Value.slice.injEq, Option.some.injEq, Addr.mk.injEq, and_true, true_and] at hv
    obtain ⟨⟨rfl, rfl⟩, rfl⟩ := hv
    have hsz : cs.toList.length = cs.size := Array.length_toList
    refine .inr ⟨b, o, c, (Gx.splice cs.toList (o + a) k).toArray, rfl, ?_, hc, ?_, ?_⟩
    · rw [heap_wr, if_pos rfl, hb]; rfl
    · rw [List.size_toArray, splice_length (by omega)]; simpa using ho
    · rw [Nat.mul_one, splice_sub (by omega) ha]

/-- more of what one holds, as far as there is room -/
theorem Own.more {E b o c n : Nat} {l : List Value} (h : Own E 1 w (.slice (some ⟨b, o, none⟩) n c) n l) {m : Nat} (hm : n + m ≤ c) :
    ∃ js : List Value, js.length = m ∧ Own E 1 w (.slice (some ⟨b, o, none⟩) (n + m) c) (n + m) (l ++ js) := by
  have hl := h.rd.len
  rcases h with ⟨h, _⟩ | ⟨b', o', c', cs, hv, hb, hc, ho, rfl⟩
  · cases h
  · simp only [Value.slice.injEq, Option.some.injEq, Addr.mk.injEq, and_true, true_and] at hv
    obtain ⟨⟨rfl, rfl⟩, rfl⟩ := hv
    have hsz : cs.toList.length = cs.size := Array.length_toList
    refine ⟨(cs.toList.drop (o + n)).take m, by rw [List.length_take, List.length_drop]; omega, .inr ⟨b, o, c, cs, rfl, hb, hm, ho, ?_⟩⟩
    rw [Nat.mul_one, Nat.mul_one, List.take_add, List.drop_drop]

theorem Own.less {E b o c n m : Nat} {l : List Value} (h : Own E 1 w (.slice (some ⟨b, o, none⟩) n c) n l) (hm : m ≤ n) : Own E 1 w (.slice (some ⟨b, o, none⟩) m c) m (l.take m) := by
  rcases h with ⟨h, _⟩ | ⟨b', o', c', cs, hv, hb, hc, ho, rfl⟩
  · cases h
  · simp only [Value.slice.injEq, Option.some.injEq, Addr.mk.injEq, and_true, true_and] at hv
    obtain ⟨⟨rfl, rfl⟩, rfl⟩ := hv
    refine .inr ⟨b, o, c, cs, rfl, hb, by omega, ho, ?_⟩
    rw [List.take_take, Nat.mul_one, Nat.mul_one, Nat.min_eq_left hm]

theorem Own.cells {E b o c n : Nat} {l : List Value} (h : Own E 1 w (.slice (some ⟨b, o, none⟩) n c) n l) : ∃ cs : Array Value, w.heap[b]? = some (.cells cs E (0, 0)) ∧ n ≤ c ∧ o + c ≤ cs.size := by
  rcases h with ⟨h, _⟩ | ⟨b', o', c', cs, hv, hb, hc, ho, _⟩
  · cases h
  · simp only [Value.slice.injEq, Option.some.injEq, Addr.mk.injEq, and_true, true_and] at hv
    obtain ⟨⟨rfl, rfl⟩, rfl⟩ := hv
    exact ⟨cs, hb, hc, by omega⟩

end Go.Gx
end

section
/- What the functions of this program ask. -/
set_option linter.unusedVariables false
set_option maxRecDepth 100000
namespace Go.Gx.S
open Go Go.Gx Go.Proofs
-- (*gemel/fdb.Table).Look
def p15 (P : Program) (K : Value → World → Prop) (x0 : Value) (x1 : Value) (x2 : Value) : World → Prop :=
  opS P (S.box 24 x2) fun x3 =>
  opS P (S.alloc 40) fun x4 =>
  opS P (S.ld 24 x3) fun x5 =>
  opS P (S.cl 37 [x0, x1, x5]) fun x6 =>
  opS P (S.ext x6 0) fun x7 =>
  opS P (S.ext x6 1) fun x8 =>
  opS P (S.nc x0) fun x9 =>
  opS P (S.fa 87 x9 0) fun x10 =>
  opS P (S.ld 51 x10) fun x11 =>
  opS P (S.ia 51 x11 x7) fun x12 =>
  opS P (S.ld 40 x12) fun x13 =>
  opS P (S.st 40 x4 x13) fun x14 =>
  opS P (S.ld 40 x4) fun x15 =>
  K (.tuple #[x15, x8])
instance fnb15 : FnB Tryz.prog 15 := ⟨Tryz.call15⟩
theorem e15 : p15 Tryz.prog = fun K x0 x1 x2 => denF Tryz.prog Tryz.f15 [x0, x1, x2] K := by kernel_rfl
theorem c15 {K : Value → World → Prop} {x0 x1 x2 : Value} {w : World} (h : p15 Tryz.prog K x0 x1 x2 w) : CallsR Tryz.prog 15 #[x0, x1, x2] K w := by
  rw [e15] at h
  exact denF_sound mixed Tryz.func15 h

-- (*gemel/fdb.Table).find
def p37 (P : Program) (K : Value → World → Prop) (x0 : Value) (x1 : Value) (x2 : Value) : World → Prop :=
  opS P (S.box 24 x2) fun x3 =>
  opS P (S.ld 24 x3) fun x4 =>
  opS P (S.cl 74 [x0, x1, x4]) fun x5 =>
  jnJ 2 (fun x6 x7 =>
    K (.tuple #[x6, x7])
  ) fun j0 =>
  loopJ 2 (fun j1 x6 x7 =>
    opS P (S.nc x0) fun x8 =>
    opS P (S.fa 87 x8 0) fun x9 =>
    opS P (S.ld 51 x9) fun x10 =>
    opS P (S.ia 51 x10 x6) fun x11 =>
    opS P (S.ld 40 x11) fun x12 =>
    opS P (S.build 40 []) fun x13 =>
    opS P (S.binG .neq 40 x12 x13) fun x14 =>
    brn x14 (
      drw <|
      opS P (S.nc x0) fun x15 =>
      opS P (S.fa 87 x15 0) fun x16 =>
      opS P (S.ld 51 x16) fun x17 =>
      opS P (S.ia 51 x17 x6) fun x18 =>
      opS P (S.fa 40 x18 0) fun x19 =>
      opS P (S.ld 3 x19) fun x20 =>
      opS P (S.binI .eql x20 x1) fun x21 =>
      brn x21 (
        opS P (S.nc x0) fun x22 =>
        opS P (S.fa 87 x22 0) fun x23 =>
        opS P (S.ld 51 x23) fun x24 =>
        opS P (S.ia 51 x24 x6) fun x25 =>
        opS P (S.fa 40 x25 1) fun x26 =>
        opS P (S.ld 24 x26) fun x27 =>
        opS P (S.ld 24 x3) fun x28 =>
        opS P (S.binG .eql 24 x27 x28) fun x29 =>
        brn x29 (
          j0 x6 x29
        ) (
          opS P (S.cl 75 [x0, x6]) fun x30 =>
          j1 x30 x29
        )
      ) (
        opS P (S.cl 75 [x0, x6]) fun x22 =>
        j1 x22 (.bool false)
      )
    ) (
      j0 x6 x7
    )
  ) x5 (.bool false)
instance fnb37 : FnB Tryz.prog 37 := ⟨Tryz.call37⟩
theorem e37 : p37 Tryz.prog = fun K x0 x1 x2 => denF Tryz.prog Tryz.f37 [x0, x1, x2] K := by kernel_rfl
theorem c37 {K : Value → World → Prop} {x0 x1 x2 : Value} {w : World} (h : p37 Tryz.prog K x0 x1 x2 w) : CallsR Tryz.prog 37 #[x0, x1, x2] K w := by
  rw [e37] at h
  exact denF_sound mixed Tryz.func37 h

-- gemel/fdb.New
def p51 (P : Program) (K : Value → World → Prop) (x0 : Value) : World → Prop :=
  opS P (S.binI .lss x0 (.int .i64 1)) fun x1 =>
  brn x1 (
    K (.tuple #[(.pointer none), (.int .i64 1)])
  ) (
    opS P (S.binI .gtr x0 (.int .i64 1024)) fun x2 =>
    brn x2 (
      K (.tuple #[(.pointer none), (.int .i64 1)])
    ) (
      opS P (S.binI .mul (.int .i64 2) x0) fun x3 =>
      opS P (S.mks 51 x3 x3) fun x4 =>
      opS P (S.build 87 [(0, x4)]) fun x5 =>
      opS P (S.box 87 x5) fun x6 =>
      K (.tuple #[x6, (.int .i64 0)])
    )
  )
instance fnb51 : FnB Tryz.prog 51 := ⟨Tryz.call51⟩
theorem e51 : p51 Tryz.prog = fun K x0 => denF Tryz.prog Tryz.f51 [x0] K := by kernel_rfl
theorem c51 {K : Value → World → Prop} {x0 : Value} {w : World} (h : p51 Tryz.prog K x0 w) : CallsR Tryz.prog 51 #[x0] K w := by
  rw [e51] at h
  exact denF_sound mixed Tryz.func51 h

-- gemel/mac.Group
def p72 (P : Program) (K : Value → World → Prop) (x0 : Value) : World → Prop :=
  opS P (S.box 24 x0) fun x1 =>
  opS P (S.ia 24 x1 (.int .i64 0)) fun x2 =>
  opS P (S.ld 5 x2) fun x3 =>
  opS P (S.binI .and x3 (.int .u8 1)) fun x4 =>
  opS P (S.binI .eql x4 (.int .u8 1)) fun x5 =>
  K x5
instance fnb72 : FnB Tryz.prog 72 := ⟨Tryz.call72⟩
theorem e72 : p72 Tryz.prog = fun K x0 => denF Tryz.prog Tryz.f72 [x0] K := by kernel_rfl
theorem c72 {K : Value → World → Prop} {x0 : Value} {w : World} (h : p72 Tryz.prog K x0 w) : CallsR Tryz.prog 72 #[x0] K w := by
  rw [e72] at h
  exact denF_sound mixed Tryz.func72 h

-- (*gemel/fdb.Table).Learn
def p73 (P : Program) (K : Value → World → Prop) (x0 : Value) (x1 : Value) (x2 : Value) (x3 : Value) (x4 : Value) : World → Prop :=
  opS P (S.box 24 x2) fun x5 =>
  opS P (S.ld 24 x5) fun x6 =>
  opS P (S.cl 93 [x1, x6, x3]) fun x7 =>
  opS P (S.un .not x7) fun x8 =>
  brn x8 (
    K (.tuple #[(.int .i64 0), (.int .i64 1)])
  ) (
    opS P (S.cl 89 [x4]) fun x9 =>
    opS P (S.un .not x9) fun x10 =>
    brn x10 (
      K (.tuple #[(.int .i64 0), (.int .i64 1)])
    ) (
      opS P (S.ld 24 x5) fun x11 =>
      opS P (S.cl 37 [x0, x1, x11]) fun x12 =>
      opS P (S.ext x12 0) fun x13 =>
      opS P (S.ext x12 1) fun x14 =>
      opS P (S.nc x0) fun x15 =>
      opS P (S.fa 87 x15 0) fun x16 =>
      opS P (S.ld 51 x16) fun x17 =>
      opS P (S.ia 51 x17 x13) fun x18 =>
      opS P (S.ld 40 x18) fun x19 =>
      opS P (S.alloc 40) fun x20 =>
      opS P (S.st 40 x20 x19) fun x21 =>
      jnJ 0 (
        jnJ 0 (
          drw <|
          opS P (S.nc x0) fun x22 =>
          opS P (S.fa 87 x22 0) fun x23 =>
          opS P (S.ld 51 x23) fun x24 =>
          opS P (S.ld 24 x5) fun x25 =>
          opS P (S.build 40 [(0, x1), (1, x25), (2, x3), (3, x4)]) fun x26 =>
          opS P (S.ia 51 x24 x13) fun x27 =>
          opS P (S.st 40 x27 x26) fun x28 =>
          opS P (S.un .not x14) fun x29 =>
          brn x29 (
            opS P (S.nc x0) fun x30 =>
            opS P (S.fa 87 x30 1) fun x31 =>
            opS P (S.ld 3 x31) fun x32 =>
            opS P (S.binI .add x32 (.int .i64 1)) fun x33 =>
            opS P (S.nc x0) fun x34 =>
            opS P (S.fa 87 x34 1) fun x35 =>
            opS P (S.st 3 x35 x33) fun x36 =>
            K (.tuple #[(.int .i64 1), (.int .i64 0)])
          ) (
            opS P (S.fa 40 x20 2) fun x30 =>
            opS P (S.ld 3 x30) fun x31 =>
            opS P (S.binI .neq x31 x3) fun x32 =>
            brn x32 (
              K (.tuple #[(.int .i64 2), (.int .i64 0)])
            ) (
              K (.tuple #[(.int .i64 0), (.int .i64 0)])
            )
          )
        ) fun j0 =>
        opS P (S.un .not x14) fun x22 =>
        brn x22 (
          opS P (S.cl 94 [x0]) fun x23 =>
          brn x23 (
            K (.tuple #[(.int .i64 0), (.int .i64 3)])
          ) (
            j0
          )
        ) (
          j0
        )
      ) fun j0 =>
      brn x14 (
        opS P (S.fa 40 x20 4) fun x22 =>
        opS P (S.ld 4 x22) fun x23 =>
        brn x23 (
          K (.tuple #[(.int .i64 0), (.int .i64 0)])
        ) (
          j0
        )
      ) (
        j0
      )
    )
  )
instance fnb73 : FnB Tryz.prog 73 := ⟨Tryz.call73⟩
theorem e73 : p73 Tryz.prog = fun K x0 x1 x2 x3 x4 => denF Tryz.prog Tryz.f73 [x0, x1, x2, x3, x4] K := by kernel_rfl
theorem c73 {K : Value → World → Prop} {x0 x1 x2 x3 x4 : Value} {w : World} (h : p73 Tryz.prog K x0 x1 x2 x3 x4 w) : CallsR Tryz.prog 73 #[x0, x1, x2, x3, x4] K w := by
  rw [e73] at h
  exact denF_sound mixed Tryz.func73 h

-- (*gemel/fdb.Table).home
def p74 (P : Program) (K : Value → World → Prop) (x0 : Value) (x1 : Value) (x2 : Value) : World → Prop :=
  opS P (S.box 24 x2) fun x3 =>
  opS P (S.ld 24 x3) fun x4 =>
  opS P (S.cl 99 [x4]) fun x5 =>
  opS P (S.convI .u64 x1) fun x6 =>
  opS P (S.binI .shl x6 (.int .u64 48)) fun x7 =>
  opS P (S.binI .xor x5 x7) fun x8 =>
  opS P (S.binI .mul x8 (.int .u64 11400714819323198485)) fun x9 =>
  opS P (S.binI .shr x9 (.int .u64 33)) fun x10 =>
  opS P (S.convI .i64 x10) fun x11 =>
  opS P (S.nc x0) fun x12 =>
  opS P (S.fa 87 x12 0) fun x13 =>
  opS P (S.ld 51 x13) fun x14 =>
  opS P (S.len x14) fun x15 =>
  opS P (S.binI .rem x11 x15) fun x16 =>
  K x16
instance fnb74 : FnB Tryz.prog 74 := ⟨Tryz.call74⟩
theorem e74 : p74 Tryz.prog = fun K x0 x1 x2 => denF Tryz.prog Tryz.f74 [x0, x1, x2] K := by kernel_rfl
theorem c74 {K : Value → World → Prop} {x0 x1 x2 : Value} {w : World} (h : p74 Tryz.prog K x0 x1 x2 w) : CallsR Tryz.prog 74 #[x0, x1, x2] K w := by
  rw [e74] at h
  exact denF_sound mixed Tryz.func74 h

-- (*gemel/fdb.Table).next
def p75 (P : Program) (K : Value → World → Prop) (x0 : Value) (x1 : Value) : World → Prop :=
  opS P (S.binI .add x1 (.int .i64 1)) fun x2 =>
  opS P (S.nc x0) fun x3 =>
  opS P (S.fa 87 x3 0) fun x4 =>
  opS P (S.ld 51 x4) fun x5 =>
  opS P (S.len x5) fun x6 =>
  opS P (S.binI .rem x2 x6) fun x7 =>
  K x7
instance fnb75 : FnB Tryz.prog 75 := ⟨Tryz.call75⟩
theorem e75 : p75 Tryz.prog = fun K x0 x1 => denF Tryz.prog Tryz.f75 [x0, x1] K := by kernel_rfl
theorem c75 {K : Value → World → Prop} {x0 x1 : Value} {w : World} (h : p75 Tryz.prog K x0 x1 w) : CallsR Tryz.prog 75 #[x0, x1] K w := by
  rw [e75] at h
  exact denF_sound mixed Tryz.func75 h

-- gemel/fdb.timed
def p89 (P : Program) (K : Value → World → Prop) (x0 : Value) : World → Prop :=
  opS P (S.binI .geq x0 (.int .i64 0)) fun x1 =>
  brn x1 (
    opS P (S.binI .leq x0 (.int .i64 1099511627776)) fun x2 =>
    K x2
  ) (
    K (.bool false)
  )
instance fnb89 : FnB Tryz.prog 89 := ⟨Tryz.call89⟩
theorem e89 : p89 Tryz.prog = fun K x0 => denF Tryz.prog Tryz.f89 [x0] K := by kernel_rfl
theorem c89 {K : Value → World → Prop} {x0 : Value} {w : World} (h : p89 Tryz.prog K x0 w) : CallsR Tryz.prog 89 #[x0] K w := by
  rw [e89] at h
  exact denF_sound mixed Tryz.func89 h

-- gemel/fdb.right
def p93 (P : Program) (K : Value → World → Prop) (x0 : Value) (x1 : Value) (x2 : Value) : World → Prop :=
  opS P (S.box 24 x1) fun x3 =>
  opS P (S.binI .geq x0 (.int .i64 1)) fun x4 =>
  brn x4 (
    opS P (S.binI .leq x0 (.int .i64 4094)) fun x5 =>
    brn x5 (
      opS P (S.binI .geq x2 (.int .i64 0)) fun x6 =>
      brn x6 (
        opS P (S.binI .leq x2 (.int .i64 1000)) fun x7 =>
        brn x7 (
          opS P (S.ld 24 x3) fun x8 =>
          opS P (S.cl 72 [x8]) fun x9 =>
          opS P (S.un .not x9) fun x10 =>
          K x10
        ) (
          K (.bool false)
        )
      ) (
        K (.bool false)
      )
    ) (
      K (.bool false)
    )
  ) (
    K (.bool false)
  )
instance fnb93 : FnB Tryz.prog 93 := ⟨Tryz.call93⟩
theorem e93 : p93 Tryz.prog = fun K x0 x1 x2 => denF Tryz.prog Tryz.f93 [x0, x1, x2] K := by kernel_rfl
theorem c93 {K : Value → World → Prop} {x0 x1 x2 : Value} {w : World} (h : p93 Tryz.prog K x0 x1 x2 w) : CallsR Tryz.prog 93 #[x0, x1, x2] K w := by
  rw [e93] at h
  exact denF_sound mixed Tryz.func93 h

-- (*gemel/fdb.Table).full
def p94 (P : Program) (K : Value → World → Prop) (x0 : Value) : World → Prop :=
  drw <|
  opS P (S.nc x0) fun x1 =>
  opS P (S.fa 87 x1 1) fun x2 =>
  opS P (S.ld 3 x2) fun x3 =>
  opS P (S.binI .mul (.int .i64 2) x3) fun x4 =>
  opS P (S.nc x0) fun x5 =>
  opS P (S.fa 87 x5 0) fun x6 =>
  opS P (S.ld 51 x6) fun x7 =>
  opS P (S.len x7) fun x8 =>
  opS P (S.binI .geq x4 x8) fun x9 =>
  K x9
instance fnb94 : FnB Tryz.prog 94 := ⟨Tryz.call94⟩
theorem e94 : p94 Tryz.prog = fun K x0 => denF Tryz.prog Tryz.f94 [x0] K := by kernel_rfl
theorem c94 {K : Value → World → Prop} {x0 : Value} {w : World} (h : p94 Tryz.prog K x0 w) : CallsR Tryz.prog 94 #[x0] K w := by
  rw [e94] at h
  exact denF_sound mixed Tryz.func94 h

-- gemel/mac.Number
def p99 (P : Program) (K : Value → World → Prop) (x0 : Value) : World → Prop :=
  opS P (S.box 24 x0) fun x1 =>
  jnJ 1 (fun x2 =>
    K x2
  ) fun j0 =>
  loopJ 2 (fun j1 x2 x3 =>
    opS P (S.binI .lss x3 (.int .i64 6)) fun x4 =>
    brn x4 (
      opS P (S.binI .shl x2 (.int .u64 8)) fun x5 =>
      opS P (S.ia 24 x1 x3) fun x6 =>
      opS P (S.ld 5 x6) fun x7 =>
      opS P (S.convI .u64 x7) fun x8 =>
      opS P (S.binI .or x5 x8) fun x9 =>
      opS P (S.binI .add x3 (.int .i64 1)) fun x10 =>
      j1 x9 x10
    ) (
      j0 x2
    )
  ) (.int .u64 0) (.int .i64 0)
instance fnb99 : FnB Tryz.prog 99 := ⟨Tryz.call99⟩
theorem e99 : p99 Tryz.prog = fun K x0 => denF Tryz.prog Tryz.f99 [x0] K := by kernel_rfl
theorem c99 {K : Value → World → Prop} {x0 : Value} {w : World} (h : p99 Tryz.prog K x0 w) : CallsR Tryz.prog 99 #[x0] K w := by
  rw [e99] at h
  exact denF_sound mixed Tryz.func99 h

-- (*gemel/fdb.Table).Remove
def p119 (P : Program) (K : Value → World → Prop) (x0 : Value) (x1 : Value) (x2 : Value) : World → Prop :=
  opS P (S.box 24 x2) fun x3 =>
  opS P (S.ld 24 x3) fun x4 =>
  opS P (S.cl 37 [x0, x1, x4]) fun x5 =>
  opS P (S.ext x5 0) fun x6 =>
  opS P (S.ext x5 1) fun x7 =>
  brn x7 (
    opS P (S.cl 130 [x0, x6]) fun x8 =>
    K x7
  ) (
    K x7
  )
instance fnb119 : FnB Tryz.prog 119 := ⟨Tryz.call119⟩
theorem e119 : p119 Tryz.prog = fun K x0 x1 x2 => denF Tryz.prog Tryz.f119 [x0, x1, x2] K := by kernel_rfl
theorem c119 {K : Value → World → Prop} {x0 x1 x2 : Value} {w : World} (h : p119 Tryz.prog K x0 x1 x2 w) : CallsR Tryz.prog 119 #[x0, x1, x2] K w := by
  rw [e119] at h
  exact denF_sound mixed Tryz.func119 h

-- (*gemel/fdb.Table).take
def p130 (P : Program) (K : Value → World → Prop) (x0 : Value) (x1 : Value) : World → Prop :=
  opS P (S.nc x0) fun x2 =>
  opS P (S.fa 87 x2 0) fun x3 =>
  opS P (S.ld 51 x3) fun x4 =>
  opS P (S.build 40 []) fun x5 =>
  opS P (S.ia 51 x4 x1) fun x6 =>
  opS P (S.st 40 x6 x5) fun x7 =>
  opS P (S.cl 75 [x0, x1]) fun x8 =>
  jnJ 0 (
    opS P (S.nc x0) fun x9 =>
    opS P (S.fa 87 x9 1) fun x10 =>
    opS P (S.ld 3 x10) fun x11 =>
    opS P (S.binI .sub x11 (.int .i64 1)) fun x12 =>
    opS P (S.nc x0) fun x13 =>
    opS P (S.fa 87 x13 1) fun x14 =>
    opS P (S.st 3 x14 x12) fun x15 =>
    K (.tuple #[])
  ) fun j0 =>
  loopJ 1 (fun j1 x9 =>
    opS P (S.nc x0) fun x10 =>
    opS P (S.fa 87 x10 0) fun x11 =>
    opS P (S.ld 51 x11) fun x12 =>
    opS P (S.ia 51 x12 x9) fun x13 =>
    opS P (S.ld 40 x13) fun x14 =>
    opS P (S.build 40 []) fun x15 =>
    opS P (S.binG .neq 40 x14 x15) fun x16 =>
    brn x16 (
      opS P (S.nc x0) fun x17 =>
      opS P (S.fa 87 x17 0) fun x18 =>
      opS P (S.ld 51 x18) fun x19 =>
      opS P (S.ia 51 x19 x9) fun x20 =>
      opS P (S.ld 40 x20) fun x21 =>
      opS P (S.alloc 40) fun x22 =>
      opS P (S.st 40 x22 x21) fun x23 =>
      opS P (S.nc x0) fun x24 =>
      opS P (S.fa 87 x24 0) fun x25 =>
      opS P (S.ld 51 x25) fun x26 =>
      opS P (S.build 40 []) fun x27 =>
      opS P (S.ia 51 x26 x9) fun x28 =>
      opS P (S.st 40 x28 x27) fun x29 =>
      opS P (S.fa 40 x22 0) fun x30 =>
      opS P (S.ld 3 x30) fun x31 =>
      opS P (S.fa 40 x22 1) fun x32 =>
      opS P (S.ld 24 x32) fun x33 =>
      opS P (S.cl 37 [x0, x31, x33]) fun x34 =>
      opS P (S.ext x34 0) fun x35 =>
      opS P (S.ext x34 1) fun x36 =>
      drw <|
      opS P (S.nc x0) fun x37 =>
      opS P (S.fa 87 x37 0) fun x38 =>
      opS P (S.ld 51 x38) fun x39 =>
      opS P (S.ld 40 x22) fun x40 =>
      opS P (S.ia 51 x39 x35) fun x41 =>
      opS P (S.st 40 x41 x40) fun x42 =>
      opS P (S.cl 75 [x0, x9]) fun x43 =>
      j1 x43
    ) (
      j0
    )
  ) x8
instance fnb130 : FnB Tryz.prog 130 := ⟨Tryz.call130⟩
theorem e130 : p130 Tryz.prog = fun K x0 x1 => denF Tryz.prog Tryz.f130 [x0, x1] K := by kernel_rfl
theorem c130 {K : Value → World → Prop} {x0 x1 : Value} {w : World} (h : p130 Tryz.prog K x0 x1 w) : CallsR Tryz.prog 130 #[x0, x1] K w := by
  rw [e130] at h
  exact denF_sound mixed Tryz.func130 h

end Go.Gx.S
-- 51 74 99 75 37 94 93 89 72 73 15 130 119
end

section
/- Entries among the program's types. -/
set_option maxRecDepth 100000
namespace Go.Gx.S
open Go Go.Gx Go.Proofs
theorem ctEnt : Tryz.prog.cellsOf 40 = 10 := by kernel_rfl
instance : EntT Tryz.prog 40 3 24 4 := ⟨⟨_, _, _, _, _, _, _, _, _, _, _, _, _, _, _, Tryz.underlying40, by decide, by decide, by decide, by decide, by decide⟩, uInt, uBool, ctInt, ctBool, ctEnt⟩
end Go.Gx.S
end

section
/- Places found by a hash: plain. -/
set_option linter.unusedVariables false
namespace Go.Gx
open Go

abbrev Key := Int × Mac
def zE : Ent := ⟨0, zMac, 0, 0, false⟩

/-- what is at a place -/
def pAt (ps : List Ent) (i : Nat) : Ent := ps.getD i zE
theorem pAt_eq {ps : List Ent} {i : Nat} (h : i < ps.length) : pAt ps i = ps[i] := by
  unfold pAt
  rw [List.getD_eq_getElem?_getD, List.getElem?_eq_getElem h]; rfl
theorem pAt_ge {ps : List Ent} {i : Nat} (h : ps.length ≤ i) : pAt ps i = zE := by
  unfold pAt
  rw [List.getD_eq_getElem?_getD, List.getElem?_eq_none h]; rfl
theorem pAt_set {ps : List Ent} {i : Nat} (h : i < ps.length) (x : Ent) (j : Nat) : pAt (ps.set i x) j = if j = i then x else pAt ps j := by
  unfold pAt
  rw [List.getD_eq_getElem?_getD, List.getD_eq_getElem?_getD, List.getElem?_set]
  by_cases e : i = j
  · subst e
    rw [if_pos rfl, if_pos h, if_pos rfl]; rfl
  · rw [if_neg e, if_neg (fun e2 => e e2.symm)]

/-- the walk from a place -/
def wk (n h s : Nat) : Nat := (h + s) % n

theorem wk_hits {n h e : Nat} (hh : h < n) (he : e < n) : ∃ s, s < n ∧ wk n h s = e := by
  refine ⟨(e + n - h) % n, Nat.mod_lt _ (by omega), ?_⟩
  unfold wk
  rw [Nat.add_mod_mod]
  have : h + (e + n - h) = e + n := by omega
  rw [this, Nat.add_mod_right, Nat.mod_eq_of_lt he]
theorem wk_wk (n h s t : Nat) : wk n (wk n h s) t = wk n h (s + t) := by
  unfold wk
  rw [Nat.mod_add_mod, Nat.add_assoc]
theorem wk_lt {n : Nat} (hn : 0 < n) (h s : Nat) : wk n h s < n := Nat.mod_lt _ hn
theorem wk_inj {n h s t : Nat} (hs : s < n) (ht : t < n) (e : wk n h s = wk n h t) : s = t := by
  unfold wk at e
  have key : ∀ a b, a ≤ b → b < n → (h + a) % n = (h + b) % n → a = b := by
    intro a b hab hb e
    have h1 : (h + b - (h + a)) % n = 0 := Nat.sub_mod_eq_zero_of_mod_eq e.symm
    have h2 : h + b - (h + a) = b - a := by omega
    rw [h2, Nat.mod_eq_of_lt (by omega)] at h1
    omega
  rcases Nat.le_total s t with h1 | h1
  · exact key s t h1 ht e
  · exact (key t s h1 hs e.symm).symm

section
variable {n : Nat} {hm : Key → Nat}

/-- from an entry's home on, up to it, no place is free -/
def PathOk (n : Nat) (hm : Key → Nat) (ps : List Ent) (p : Nat) : Prop :=
  ∀ t, (∀ s, s ≤ t → wk n (hm (eKey (pAt ps p))) s ≠ p) → pAt ps (wk n (hm (eKey (pAt ps p))) t) ≠ zE

structure PT (n : Nat) (hm : Key → Nat) (ps : List Ent) : Prop where
  len : ps.length = n
  pos : 0 < n
  home : ∀ k, hm k < n
  path : ∀ p, p < n → pAt ps p ≠ zE → PathOk n hm ps p
  inj : ∀ p q, p < n → q < n → pAt ps p ≠ zE → pAt ps q ≠ zE → eKey (pAt ps p) = eKey (pAt ps q) → p = q

/-- how far the walk of a key has come: no free place, and not the key -/
def Seen (n : Nat) (ps : List Ent) (h : Nat) (k : Key) (d : Nat) : Prop := ∀ s, s < d → pAt ps (wk n h s) ≠ zE ∧ eKey (pAt ps (wk n h s)) ≠ k

theorem Seen.lt {ps : List Ent} {h : Nat} {k : Key} {d : Nat} (hs : Seen n ps h k d) (hh : h < n) (he : ∃ e, e < n ∧ pAt ps e = zE) : d < n := by
  obtain ⟨e, he, hz⟩ := he
  obtain ⟨s, hs1, hs2⟩ := wk_hits hh he
  rcases Nat.lt_or_ge d n with h1 | h1
  · exact h1
  · have := (hs s (by omega)).1
    rw [hs2] at this
    exact absurd hz this
theorem Seen.step {ps : List Ent} {h : Nat} {k : Key} {d : Nat} (hs : Seen n ps h k d) (h1 : pAt ps (wk n h d) ≠ zE) (h2 : eKey (pAt ps (wk n h d)) ≠ k) : Seen n ps h k (d + 1) := by
  intro s hlt
  rcases Nat.lt_or_ge s d with h3 | h3
  · exact hs s h3
  · have : s = d := by omega
    subst this
    exact ⟨h1, h2⟩

/-- the walk ends at a free place: the key is nowhere -/
theorem PT.absent {ps : List Ent} (hp : PT n hm ps) {k : Key} {d : Nat} (hs : Seen n ps (hm k) k d) (hz : pAt ps (wk n (hm k) d) = zE) : ∀ p, p < n → pAt ps p ≠ zE → eKey (pAt ps p) ≠ k := by
  intro p hpn hpz hk
  have h1 := hp.path p hpn hpz
  unfold PathOk at h1
  rw [hk] at h1
  by_cases hq : ∀ s, s ≤ d → wk n (hm k) s ≠ p
  · exact h1 d hq hz
  · obtain ⟨s, hq1⟩ := Classical.not_forall.1 hq
    obtain ⟨hsd, hq2⟩ := Classical.not_imp.1 hq1
    have hq3 : wk n (hm k) s = p := Classical.not_not.1 hq2
    rcases Nat.lt_or_ge s d with h3 | h3
    · have := (hs s h3).2
      rw [hq3] at this
      exact this hk
    · have : s = d := by omega
      subst this
      rw [hq3] at hz
      exact hpz hz

/-- one entry more, at the free place where the walk of its key ends -/
theorem PT.insert {ps : List Ent} (hp : PT n hm ps) {x : Ent} {d : Nat} (hx : x ≠ zE) (hs : Seen n ps (hm (eKey x)) (eKey x) d) (hz : pAt ps (wk n (hm (eKey x)) d) = zE) : PT n hm (ps.set (wk n (hm (eKey x)) d) x) := by
  have hf : wk n (hm (eKey x)) d < ps.length := by rw [hp.len]; exact wk_lt hp.pos _ _
  have hab := hp.absent hs hz
  generalize hfd : wk n (hm (eKey x)) d = f at *
  refine ⟨by rw [List.length_set]; exact hp.len, hp.pos, hp.home, fun p hpn hpz => ?_, fun p q hpn hqn hpz hqz hk => ?_⟩
  · intro t ht
    rw [pAt_set hf] at hpz ht ⊢
    rw [pAt_set hf]
    split at hpz
    · rename_i e
      subst e
      rw [if_pos rfl] at ht
      have htd : t < d := Nat.lt_of_not_le fun h => ht d h hfd
      rw [if_pos rfl, if_neg (ht t (Nat.le_refl _))]
      exact (hs t htd).1
    · rename_i e
      rw [if_neg e] at ht ⊢
      have := hp.path p hpn hpz t ht
      split
      · exact hx
      · exact this
  · rw [pAt_set hf] at hpz hk
    rw [pAt_set hf] at hqz hk
    split at hpz <;> split at hqz
    · rename_i e1 e2; rw [e1, e2]
    · rename_i e1 e2
      rw [if_pos e1, if_neg e2] at hk
      exact absurd hk.symm (hab q hqn hqz)
    · rename_i e1 e2
      rw [if_neg e1, if_pos e2] at hk
      exact absurd hk (hab p hpn hpz)
    · rename_i e1 e2
      rw [if_neg e1, if_neg e2] at hk
      exact hp.inj p q hpn hqn hpz hqz hk

/-- another entry of the same key in its place -/
theorem PT.update {ps : List Ent} (hp : PT n hm ps) {x : Ent} {f : Nat} (hf : f < n) (hx : x ≠ zE) (hz : pAt ps f ≠ zE) (hk : eKey (pAt ps f) = eKey x) : PT n hm (ps.set f x) := by
  have hf' : f < ps.length := by rw [hp.len]; exact hf
  have hkey : ∀ p, eKey (pAt (ps.set f x) p) = eKey (pAt ps p) := fun p => by
    rw [pAt_set hf']
    split
    · rename_i e; rw [e, hk]
    · rfl
  have hocc : ∀ p, pAt (ps.set f x) p ≠ zE ↔ pAt ps p ≠ zE := fun p => by
    rw [pAt_set hf']
    split
    · rename_i e; rw [e]; exact ⟨fun _ => hz, fun _ => hx⟩
    · rfl
  refine ⟨by rw [List.length_set]; exact hp.len, hp.pos, hp.home, fun p hpn hpz => ?_, fun p q hpn hqn hpz hqz hk => ?_⟩
  · have := hp.path p hpn ((hocc p).1 hpz)
    unfold PathOk at this ⊢
    rw [hkey p]
    intro t ht
    exact (hocc _).2 (this t ht)
  · rw [hkey, hkey] at hk
    exact hp.inj p q hpn hqn ((hocc p).1 hpz) ((hocc q).1 hqz) hk

/-! ### An entry is taken out; those behind it are put in anew -/

structure Tk (n : Nat) (hm : Key → Nat) (i M m : Nat) (ps : List Ent) : Prop where
  len : ps.length = n
  pos : 0 < n
  home : ∀ k, hm k < n
  lt : M < n
  seg : ∀ s, m ≤ s → s < M → pAt ps (wk n i s) ≠ zE
  free : pAt ps (wk n i M) = zE
  path : ∀ p, p < n → pAt ps p ≠ zE → (∀ s, m ≤ s → s < M → wk n i s ≠ p) → PathOk n hm ps p
  noE : ∀ p, p < n → pAt ps p ≠ zE → ∀ t, (∀ s, s ≤ t → wk n (hm (eKey (pAt ps p))) s ≠ p) → wk n (hm (eKey (pAt ps p))) t ≠ wk n i M
  inj : ∀ p q, p < n → q < n → pAt ps p ≠ zE → pAt ps q ≠ zE → eKey (pAt ps p) = eKey (pAt ps q) → p = q

theorem PT.tk {ps : List Ent} (hp : PT n hm ps) {i M : Nat} (hM : M < n) (hseg : ∀ s, s < M → pAt ps (wk n i s) ≠ zE) (hz : pAt ps (wk n i M) = zE) : Tk n hm i M 0 ps :=
  ⟨hp.len, hp.pos, hp.home, hM, fun s _ h => hseg s h, hz, fun p hpn hpz _ => hp.path p hpn hpz, fun p hpn hpz t ht e => hp.path p hpn hpz t ht (e ▸ hz), hp.inj⟩
theorem Tk.pt {i M : Nat} {ps : List Ent} (h : Tk n hm i M M ps) : PT n hm ps :=
  ⟨h.len, h.pos, h.home, fun p hpn hpz => h.path p hpn hpz fun s h1 h2 => by omega, h.inj⟩

theorem Tk.remove {i M m : Nat} {ps : List Ent} (h : Tk n hm i M m ps) (hm' : m < M) : Tk n hm i M (m + 1) (ps.set (wk n i m) zE) := by
  have hj : wk n i m < ps.length := by rw [h.len]; exact wk_lt h.pos _ _
  have hne : ∀ s, s ≤ M → s ≠ m → wk n i s ≠ wk n i m := fun s hs hn e => hn (wk_inj (by have := h.lt; omega) (by have := h.lt; omega) e)
  have hocc : ∀ p, pAt (ps.set (wk n i m) zE) p ≠ zE → p ≠ wk n i m ∧ pAt (ps.set (wk n i m) zE) p = pAt ps p := fun p hp => by
    rw [pAt_set hj] at hp ⊢
    split at hp
    · exact absurd rfl hp
    · rename_i e; exact ⟨e, if_neg e⟩
  refine ⟨by rw [List.length_set]; exact h.len, h.pos, h.home, h.lt, fun s h1 h2 => ?_, ?_, fun p hpn hpz hout => ?_, fun p hpn hpz => ?_, fun p q hpn hqn hpz hqz hk => ?_⟩
  · rw [pAt_set hj, if_neg (hne s (by omega) (by omega))]
    exact h.seg s (by omega) h2
  · rw [pAt_set hj, if_neg (hne M (Nat.le_refl _) (by omega))]
    exact h.free
  · obtain ⟨e1, e2⟩ := hocc p hpz
    have hpz' : pAt ps p ≠ zE := e2 ▸ hpz
    have hpath := h.path p hpn hpz' fun s h1 h2 e => by
      rcases Nat.lt_or_ge m s with h3 | h3
      · exact hout s h3 h2 e
      · have : s = m := by omega
        subst this
        exact e1 e.symm
    intro t ht
    rw [e2] at ht ⊢
    have hocct := hpath t ht
    rw [pAt_set hj]
    split
    · rename_i ej
      exfalso
      refine hpath (t + (M - m)) (fun s hs e => ?_) ?_
      · rcases Nat.lt_or_ge t s with h3 | h3
        · have h4 : wk n (hm (eKey (pAt ps p))) s = wk n i (m + (s - t)) := by
            have : s = t + (s - t) := by omega
            rw [this, ← wk_wk, ej, wk_wk]
            congr 1; omega
          rw [h4] at e
          rcases Nat.lt_or_ge (m + (s - t)) M with h5 | h5
          · exact hout _ (by omega) h5 e
          · have : m + (s - t) = M := by omega
            rw [this] at e
            rw [← e] at hpz'
            exact hpz' h.free
        · exact ht s h3 e
      · rw [← wk_wk, ej, wk_wk]
        have : m + (M - m) = M := by omega
        rw [this]
        exact h.free
    · exact hocct
  · obtain ⟨e1, e2⟩ := hocc p hpz
    rw [e2]
    exact h.noE p hpn (e2 ▸ hpz)
  · obtain ⟨e1, e2⟩ := hocc p hpz
    obtain ⟨e3, e4⟩ := hocc q hqz
    rw [e2, e4] at hk
    exact h.inj p q hpn hqn (e2 ▸ hpz) (e4 ▸ hqz) hk

theorem Tk.insert {i M m : Nat} {ps : List Ent} (h : Tk n hm i M m ps) {x : Ent} {d : Nat} (hx : x ≠ zE) (hab : ∀ p, p < n → pAt ps p ≠ zE → eKey (pAt ps p) ≠ eKey x)
    (hs : ∀ s, s < d → pAt ps (wk n (hm (eKey x)) s) ≠ zE) (hz : pAt ps (wk n (hm (eKey x)) d) = zE) (hE : wk n (hm (eKey x)) d ≠ wk n i M) : Tk n hm i M m (ps.set (wk n (hm (eKey x)) d) x) := by
  have hf : wk n (hm (eKey x)) d < ps.length := by rw [h.len]; exact wk_lt h.pos _ _
  generalize hfd : wk n (hm (eKey x)) d = f at *
  have hmono : ∀ p, pAt ps p ≠ zE → pAt (ps.set f x) p ≠ zE := fun p hp => by
    rw [pAt_set hf]
    split
    · exact hx
    · exact hp
  refine ⟨by rw [List.length_set]; exact h.len, h.pos, h.home, h.lt, fun s h1 h2 => hmono _ (h.seg s h1 h2), ?_, fun p hpn hpz hout => ?_, fun p hpn hpz => ?_, fun p q hpn hqn hpz hqz hk => ?_⟩
  · rw [pAt_set hf, if_neg (fun e => hE e.symm)]
    exact h.free
  · by_cases e : p = f
    · subst e
      intro t ht
      have hpx : pAt (ps.set p x) p = x := by rw [pAt_set hf, if_pos rfl]
      rw [hpx] at ht ⊢
      have htd : t < d := Nat.lt_of_not_le fun h => ht d h hfd
      exact hmono _ (hs t htd)
    · have e2 : pAt (ps.set f x) p = pAt ps p := by rw [pAt_set hf, if_neg e]
      have hpz' : pAt ps p ≠ zE := e2 ▸ hpz
      intro t ht
      rw [e2] at ht ⊢
      exact hmono _ (h.path p hpn hpz' hout t ht)
  · by_cases e : p = f
    · subst e
      intro t ht
      rw [pAt_set hf, if_pos rfl] at ht ⊢
      have htd : t < d := Nat.lt_of_not_le fun h => ht d h hfd
      intro e
      have := hs t htd
      rw [e] at this
      exact this h.free
    · have e2 : pAt (ps.set f x) p = pAt ps p := by rw [pAt_set hf, if_neg e]
      rw [e2]
      exact h.noE p hpn (e2 ▸ hpz)
  · rw [pAt_set hf] at hpz hk
    rw [pAt_set hf] at hqz hk
    split at hpz <;> split at hqz
    · rename_i e1 e2; rw [e1, e2]
    · rename_i e1 e2
      rw [if_pos e1, if_neg e2] at hk
      exact absurd hk.symm (hab q hqn hqz)
    · rename_i e1 e2
      rw [if_neg e1, if_pos e2] at hk
      exact absurd hk (hab p hpn hpz)
    · rename_i e1 e2
      rw [if_neg e1, if_neg e2] at hk
      exact h.inj p q hpn hqn hpz hqz hk

/-- one that stood behind is put in anew -/
theorem Tk.again {i M m : Nat} {ps : List Ent} (h : Tk n hm i M m ps) (hm' : m < M) {d : Nat}
    (hs : Seen n (ps.set (wk n i m) zE) (hm (eKey (pAt ps (wk n i m)))) (eKey (pAt ps (wk n i m))) d) (hz : pAt (ps.set (wk n i m) zE) (wk n (hm (eKey (pAt ps (wk n i m)))) d) = zE) :
    Tk n hm i M (m + 1) ((ps.set (wk n i m) zE).set (wk n (hm (eKey (pAt ps (wk n i m)))) d) (pAt ps (wk n i m))) := by
  have hj : wk n i m < ps.length := by rw [h.len]; exact wk_lt h.pos _ _
  have hjn : wk n i m < n := wk_lt h.pos _ _
  have hx : pAt ps (wk n i m) ≠ zE := h.seg m (Nat.le_refl _) hm'
  have h1 := h.remove hm'
  refine h1.insert hx (fun p hpn hpz hk => ?_) (fun s hlt => (hs s hlt).1) hz fun e => ?_
  · rw [pAt_set hj] at hpz hk
    split at hpz
    · exact hpz rfl
    · rename_i e
      rw [if_neg e] at hk
      exact e (h.inj p _ hpn hjn hpz hx hk)
  · by_cases hq : ∀ s, s ≤ d → wk n (hm (eKey (pAt ps (wk n i m)))) s ≠ wk n i m
    · exact h.noE _ hjn hx d hq e
    · obtain ⟨s, hq1⟩ := Classical.not_forall.1 hq
      obtain ⟨hsd, hq2⟩ := Classical.not_imp.1 hq1
      have hq3 : wk n (hm (eKey (pAt ps (wk n i m)))) s = wk n i m := Classical.not_not.1 hq2
      rcases Nat.lt_or_ge s d with h3 | h3
      · have := (hs s h3).1
        rw [hq3, pAt_set hj, if_pos rfl] at this
        exact this rfl
      · have : s = d := by omega
        subst this
        rw [hq3] at e
        have := wk_inj (by have := h.lt; omega) h.lt e
        omega

/-! ### What is in the places -/

/-- the places hold the entries of a list in order -/
structure CT (ps : List Ent) (r : List Ent) : Prop where
  srt : Srt r
  nz : ∀ e ∈ r, e ≠ zE
  mem : ∀ e, e ∈ r ↔ e ≠ zE ∧ ∃ p, p < ps.length ∧ pAt ps p = e
  inj : ∀ p q, p < ps.length → q < ps.length → pAt ps p ≠ zE → pAt ps q ≠ zE → eKey (pAt ps p) = eKey (pAt ps q) → p = q

theorem CT.put {ps r : List Ent} (h : CT ps r) {x : Ent} {f : Nat} (hx : x ≠ zE) (hok : x.ok) (hf : f < ps.length) (hk : ∀ p, p < ps.length → p ≠ f → pAt ps p ≠ zE → eKey (pAt ps p) ≠ eKey x) (hfk : pAt ps f ≠ zE → eKey (pAt ps f) = eKey x) : CT (ps.set f x) (withL r x) := by
  refine ⟨h.srt.with hok, fun e he => ?_, fun e => ?_, fun p q hp hq hpz hqz hkk => ?_⟩
  · rcases mem_with.1 he with rfl | he
    · exact hx
    · exact h.nz e he.1
  · rw [mem_with, h.mem, List.length_set]
    constructor
    · rintro (rfl | ⟨⟨h1, p, hp, rfl⟩, h2⟩)
      · exact ⟨hx, f, hf, by rw [pAt_set hf, if_pos rfl]⟩
      · refine ⟨h1, p, hp, ?_⟩
        rw [pAt_set hf, if_neg]
        intro e
        subst e
        exact h2 (hfk h1)
    · rintro ⟨h1, p, hp, rfl⟩
      rw [pAt_set hf] at h1 ⊢
      split at h1
      · rename_i e; exact .inl (if_pos e)
      · rename_i e
        rw [if_neg e]
        exact .inr ⟨⟨h1, p, hp, rfl⟩, hk p hp e h1⟩
  · rw [List.length_set] at hp hq
    rw [pAt_set hf] at hpz hkk
    rw [pAt_set hf] at hqz hkk
    split at hpz <;> split at hqz
    · rename_i e1 e2; rw [e1, e2]
    · rename_i e1 e2
      rw [if_pos e1, if_neg e2] at hkk
      exact absurd hkk.symm (hk q hq e2 hqz)
    · rename_i e1 e2
      rw [if_neg e1, if_pos e2] at hkk
      exact absurd hkk (hk p hp e1 hpz)
    · rename_i e1 e2
      rw [if_neg e1, if_neg e2] at hkk
      exact h.inj p q hp hq hpz hqz hkk

theorem CT.take {ps r : List Ent} (h : CT ps r) {f : Nat} (hf : f < ps.length) (hz : pAt ps f ≠ zE) : CT (ps.set f zE) (withoutL r (pAt ps f)) := by
  refine ⟨h.srt.without _, fun e he => h.nz e (mem_without.1 he).1, fun e => ?_, fun p q hp hq hpz hqz hkk => ?_⟩
  · rw [mem_without, h.mem, List.length_set]
    constructor
    · rintro ⟨⟨h1, p, hp, rfl⟩, h2⟩
      refine ⟨h1, p, hp, ?_⟩
      rw [pAt_set hf, if_neg]
      intro e
      subst e
      exact h2 rfl
    · rintro ⟨h1, p, hp, rfl⟩
      rw [pAt_set hf] at h1 ⊢
      split at h1
      · exact absurd rfl h1
      · rename_i e
        rw [if_neg e]
        exact ⟨⟨h1, p, hp, rfl⟩, fun hk => e (h.inj p f hp hf h1 hz hk)⟩
  · rw [List.length_set] at hp hq
    rw [pAt_set hf] at hpz hkk
    rw [pAt_set hf] at hqz hkk
    split at hpz <;> split at hqz
    · exact absurd rfl hpz
    · exact absurd rfl hpz
    · exact absurd rfl hqz
    · rename_i e1 e2
      rw [if_neg e1, if_neg e2] at hkk
      exact h.inj p q hp hq hpz hqz hkk

theorem with_without {r : List Ent} (h : Srt r) {x : Ent} (hx : x ∈ r) : withL (withoutL r x) x = r := by
  refine ((h.without x).with (h.2 x hx)).eq h fun e => ?_
  rw [mem_with, mem_without]
  constructor
  · rintro (rfl | h1)
    · exact hx
    · exact h1.1.1
  · intro he
    by_cases hk : eKey e = eKey x
    · exact .inl (h.key he hx hk)
    · exact .inr ⟨⟨he, hk⟩, hk⟩
theorem without_none {r : List Ent} {x : Ent} (h : ∀ e ∈ r, eKey e ≠ eKey x) : withoutL r x = r := by
  unfold withoutL
  rw [List.filter_eq_self]
  exact fun e he => decide_eq_true (h e he)
theorem without_key {r : List Ent} {x y : Ent} (h : eKey x = eKey y) : withoutL r x = withoutL r y := by
  unfold withoutL
  rw [h]
theorem with_len_new {r : List Ent} {x : Ent} (h : ∀ e ∈ r, eKey e ≠ eKey x) : (withL r x).length = r.length + 1 := by
  unfold withL
  rw [ins_len, without_none h]
theorem without_len_old {r : List Ent} (h : Srt r) {x : Ent} (hx : x ∈ r) : (withoutL r x).length + 1 = r.length := by
  have h1 := congrArg List.length (with_without h hx)
  unfold withL at h1
  rw [ins_len, without_none (fun e he => (mem_without.1 he).2)] at h1
  exact h1
theorem with_len_old {r : List Ent} (h : Srt r) {x y : Ent} (hy : y ∈ r) (hk : eKey y = eKey x) : (withL r x).length = r.length := by
  have h1 := without_len_old h hy
  unfold withL
  rw [ins_len, ← without_key hk]
  exact h1

/-- the entries, one behind the other -/
theorem CT.perm {ps r : List Ent} (h : CT ps r) : (ps.filter fun e => decide (e ≠ zE)).Perm r := by
  refine (List.perm_ext_iff_of_nodup ?_ ?_).2 fun e => ?_
  · have : (ps.filter fun e => decide (e ≠ zE)).Pairwise (· ≠ ·) := by
      rw [List.pairwise_filter, List.pairwise_iff_getElem]
      intro i j hi hj hij h1 h2 e
      have h1 : ps[i] ≠ zE := by simpa using h1
      have h2 : ps[j] ≠ zE := by simpa using h2
      have := h.inj i j hi hj (by rw [pAt_eq hi]; exact h1) (by rw [pAt_eq hj]; exact h2) (by rw [pAt_eq hi, pAt_eq hj, e])
      omega
    exact this
  · exact List.Pairwise.imp (fun {a b} (hab : ltE a b) (e : a = b) => ltE_irr b (e ▸ hab)) h.srt.1
  · rw [h.mem, List.mem_filter, decide_eq_true_iff]
    constructor
    · rintro ⟨h1, h2⟩
      obtain ⟨i, hi, rfl⟩ := List.getElem_of_mem h1
      exact ⟨h2, i, hi, pAt_eq hi⟩
    · rintro ⟨h1, p, hp, rfl⟩
      rw [pAt_eq hp] at h1 ⊢
      exact ⟨List.getElem_mem hp, h1⟩
theorem CT.free {ps r : List Ent} (h : CT ps r) (hl : r.length < ps.length) : ∃ e, e < ps.length ∧ pAt ps e = zE := by
  refine Classical.byContradiction fun hn => ?_
  have hall : ∀ e ∈ ps, decide (e ≠ zE) = true := fun e he => by
    obtain ⟨i, hi, rfl⟩ := List.getElem_of_mem he
    refine decide_eq_true fun e => hn ⟨i, hi, ?_⟩
    rw [pAt_eq hi, e]
  have h1 := h.perm.length_eq
  rw [List.filter_eq_self.2 hall] at h1
  omega

/-- the first free place behind one -/
theorem first_free {ps : List Ent} {i e : Nat} (hi : i < n) (he : e < n) (hz : pAt ps e = zE) (hiz : pAt ps i ≠ zE) : ∃ M, 0 < M ∧ M < n ∧ pAt ps (wk n i M) = zE ∧ ∀ s, s < M → pAt ps (wk n i s) ≠ zE := by
  obtain ⟨s, hs, hse⟩ := wk_hits hi he
  have hex : ∃ M, pAt ps (wk n i M) = zE := ⟨s, by rw [hse]; exact hz⟩
  have key : ∀ k, (∃ M, M ≤ k ∧ pAt ps (wk n i M) = zE) → ∃ M, M ≤ k ∧ pAt ps (wk n i M) = zE ∧ ∀ s, s < M → pAt ps (wk n i s) ≠ zE := by
    intro k
    induction k with
    | zero =>
      rintro ⟨M, h1, h2⟩
      exact ⟨M, h1, h2, fun s hs => by omega⟩
    | succ k ih =>
      intro ⟨M, h1, h2⟩
      by_cases hq : ∃ M, M ≤ k ∧ pAt ps (wk n i M) = zE
      · obtain ⟨M', h3, h4⟩ := ih hq
        exact ⟨M', by omega, h4⟩
      · refine ⟨M, h1, h2, fun s hs e => hq ⟨s, by omega, e⟩⟩
  obtain ⟨M, h1, h2, h3⟩ := key s ⟨s, Nat.le_refl _, by rw [hse]; exact hz⟩
  refine ⟨M, Nat.pos_of_ne_zero fun e => ?_, by omega, h2, h3⟩
  subst e
  have : wk n i 0 = i := Nat.mod_eq_of_lt hi
  rw [this] at h2
  exact hiz h2
end

end Go.Gx
end

section
/- A table of stations: its places. -/
set_option linter.unusedVariables false
set_option linter.unusedSimpArgs false
set_option maxRecDepth 100000
namespace Go.Gx.S
open Go Go.Gx Go.Proofs
variable {K : Value → World → Prop} {w : World}

/-! ### Bits -/

def orU (a b : Int) : Int := IntKind.u64.wrap ((BitVec.ofInt 64 a ||| BitVec.ofInt 64 b).toNat : Int)
def xorU (a b : Int) : Int := IntKind.u64.wrap ((BitVec.ofInt 64 a ^^^ BitVec.ofInt 64 b).toNat : Int)
theorem s_orU (a b : Int) : opS Tryz.prog (S.binI .or (.int .u64 a) (.int .u64 b)) K w = K (.int .u64 (orU a b)) w := by
  unfold S.binI
  simp only []
  have : (binOp .or 0 (.int .u64 a) (.int .u64 b)).run Tryz.prog w = .ok (.int .u64 (orU a b)) w := id rfl
  rw [opS_bind, this]
theorem s_xorU (a b : Int) : opS Tryz.prog (S.binI .xor (.int .u64 a) (.int .u64 b)) K w = K (.int .u64 (xorU a b)) w := by
  unfold S.binI
  simp only []
  have : (binOp .xor 0 (.int .u64 a) (.int .u64 b)).run Tryz.prog w = .ok (.int .u64 (xorU a b)) w := id rfl
  rw [opS_bind, this]
theorem s_and1 {x : Int} (h : isB x) : opS Tryz.prog (S.binI .and (.int .u8 x) (.int .u8 1)) K w = K (.int .u8 (x % 2)) w := by
  unfold isB at h
  obtain ⟨a, rfl⟩ := Int.eq_ofNat_of_zero_le (show 0 ≤ x by omega)
  unfold S.binI
  simp only []
  have e : (BitVec.ofInt 8 (a : Int) &&& BitVec.ofInt 8 1).toNat = a % 2 := by
    rw [ofInt_nat (by omega), ofInt_nat (by omega), BitVec.toNat_and]
    simp only [Int.toNat_natCast, BitVec.toNat_ofNat]
    rw [Nat.mod_eq_of_lt (by omega)]
    exact Nat.and_one_is_mod a
  have : (binOp .and 0 (.int .u8 (a : Int)) (.int .u8 1)).run Tryz.prog w = .ok (.int .u8 ((a : Int) % 2)) w := by
    show (Op.intBits .and .u8 (a : Int) 1).run Tryz.prog w = _
    unfold Op.intBits
    show Result.ok (Value.int .u8 (IntKind.u8.wrap ((BitVec.ofInt 8 (a : Int) &&& BitVec.ofInt 8 1).toNat : Int))) w = _
    rw [e, wrap_u8]
    congr 2
    omega
  rw [opS_bind, this]

/-! ### The hash -/

def numP (l : List Int) : Int := l.foldl (fun n x => orU (IntKind.u64.wrap (n * 2 ^ 8)) (IntKind.u64.wrap x)) 0
theorem numP_snoc (l : List Int) (x : Int) : numP (l ++ [x]) = orU (IntKind.u64.wrap (numP l * 2 ^ 8)) (IntKind.u64.wrap x) := by unfold numP; rw [List.foldl_append]; rfl
theorem macL_get' (m : Mac) {k : Nat} (hk : k < 6) : m.cells[k]? = some (u8 ((macL m).getD k 0)) := by
  match k, hk with
  | 0, _ | 1, _ | 2, _ | 3, _ | 4, _ | 5, _ => rfl
theorem macL_take' {m : Mac} {k : Nat} (hk : k < 6) : (macL m).take (k + 1) = (macL m).take k ++ [(macL m).getD k 0] := by
  match k, hk with
  | 0, _ | 1, _ | 2, _ | 3, _ | 4, _ | 5, _ => rfl
theorem shl8 (x : Int) : opS Tryz.prog (S.binI .shl (.int .u64 x) (.int .u64 8)) K w = K (.int .u64 (IntKind.u64.wrap (x * 2 ^ 8))) w := opS_shl .u64 .u64 x 8 (by decide)
theorem shl48 (x : Int) : opS Tryz.prog (S.binI .shl (.int .u64 x) (.int .u64 48)) K w = K (.int .u64 (IntKind.u64.wrap (x * 2 ^ 48))) w := opS_shl .u64 .u64 x 48 (by decide)
theorem shr33 (x : Int) : opS Tryz.prog (S.binI .shr (.int .u64 x) (.int .u64 33)) K w = K (.int .u64 (x / 2 ^ 33)) w := opS_shr .u64 .u64 x 33 (by decide)

theorem pnum_spec {m : Mac} (h : ∀ w', Fr none_ w w' → K (.int .u64 (numP (macL m))) w') : CallsR Tryz.prog 99 #[.agg m.cells.toArray] K w := by
  apply c99
  unfold p99
  simp only [push_cast, Nat.reduceAdd, Nat.reduceLeDiff, Nat.reduceLT, Int.reduceToNat, Nat.left_eq_add, Nat.add_eq_left, Nat.add_left_cancel_iff, Nat.reduceEqDiff, Nat.add_assoc, Nat.succ_ne_zero]
  have h0 : (w.alloc (cellsO m.cells 24)).heap[w.heap.size]? = some (cellsO m.cells 24) := by simp only [push_cast, Nat.reduceAdd, Nat.reduceLeDiff, Nat.reduceLT, Int.reduceToNat, Nat.left_eq_add, Nat.add_eq_left, Nat.add_left_cancel_iff, Nat.reduceEqDiff, Nat.add_assoc, Nat.succ_ne_zero]
  have hF : Fr none_ w (w.alloc (cellsO m.cells 24)) := (by repeat' first | with_reducible exact Fr.refl _ _ | with_reducible refine Fr.step_alloc ?_ ?_ | with_reducible refine Fr.step_drew ?_ | with_reducible refine Fr.step_wr ?_ ?_ _ _ | exact rfl | exact Or.inr (by omega) | exact Or.inl rfl | exact Or.inl (Or.inl rfl) | exact Or.inl (Or.inr rfl))
  generalize w.alloc (cellsO m.cells 24) = W at *
  refine jn1 (fun v w' => v = .int .u64 (numP (macL m)) ∧ w' = W) (fun v w' ⟨e1, e2⟩ => by rw [e1, e2]; exact h _ hF) fun j hj => ?_
  refine loop2 (fun n x y w' => ∃ k : Nat, k ≤ 6 ∧ n = 6 - k ∧ y = i64 k ∧ x = .int .u64 (numP ((macL m).take k)) ∧ w' = W) ?_ 6 ⟨0, by omega, rfl, rfl, rfl, rfl⟩
  rintro n x y w' X ⟨k, hk, rfl, rfl, rfl, rfl⟩ hX
  simp only [push_cast, Nat.reduceAdd, Nat.reduceLeDiff, Nat.reduceLT, Int.reduceToNat, Nat.left_eq_add, Nat.add_eq_left, Nat.add_left_cancel_iff, Nat.reduceEqDiff, Nat.add_assoc, Nat.succ_ne_zero]
  refine br_dec (fun hlt => ?_) fun hge => ?_
  · have hk6 : k < 6 := by omega
    rw [shl8, opS_iaA w.heap.size 0 .i64 (k : Int) (by omega)]
    simp only [push_cast, Nat.reduceAdd, Nat.reduceLeDiff, Nat.reduceLT, Int.reduceToNat, Nat.left_eq_add, Nat.add_eq_left, Nat.add_left_cancel_iff, Nat.reduceEqDiff, Nat.add_assoc, Nat.succ_ne_zero, h0, Int.toNat_natCast, Nat.mul_one]
    rw [macL_get' m hk6]
    simp only [push_cast, Nat.reduceAdd, Nat.reduceLeDiff, Nat.reduceLT, Int.reduceToNat, Nat.left_eq_add, Nat.add_eq_left, Nat.add_left_cancel_iff, Nat.reduceEqDiff, Nat.add_assoc, Nat.succ_ne_zero]
    rw [s_orU]
    simp only [push_cast, Nat.reduceAdd, Nat.reduceLeDiff, Nat.reduceLT, Int.reduceToNat, Nat.left_eq_add, Nat.add_eq_left, Nat.add_left_cancel_iff, Nat.reduceEqDiff, Nat.add_assoc, Nat.succ_ne_zero]
    rw [wrap_i64 (by omega)]
    refine hX (6 - (k + 1)) _ _ _ (by omega) ⟨k + 1, by omega, rfl, by simp, ?_, rfl⟩
    rw [macL_take' hk6, numP_snoc]
  · have : k = 6 := by omega
    subst this
    exact hj _ _ ⟨rfl, rfl⟩

def hashI (k : Key) : Int := IntKind.u64.wrap (xorU (numP (macL k.2)) (IntKind.u64.wrap (IntKind.u64.wrap k.1 * 2 ^ 48)) * 11400714819323198485) / 2 ^ 33
theorem wrapU_range (x : Int) : 0 ≤ IntKind.u64.wrap x ∧ IntKind.u64.wrap x < 18446744073709551616 := by
  unfold IntKind.wrap
  have e1 : (2 : Int) ^ IntKind.u64.bits = 18446744073709551616 := rfl
  have e3 : IntKind.u64.signed = false := rfl
  simp only [e1, e3, Bool.false_and, Bool.false_eq_true, if_false]
  omega
theorem hashI_range (k : Key) : 0 ≤ hashI k ∧ hashI k < 2147483648 := by
  have h := wrapU_range (xorU (numP (macL k.2)) (IntKind.u64.wrap (IntKind.u64.wrap k.1 * 2 ^ 48)) * 11400714819323198485)
  unfold hashI
  generalize IntKind.u64.wrap _ = y at *
  omega
def hmF (n : Nat) (k : Key) : Nat := (hashI k).toNat % n

/-! ### The table -/

/-- a table's blocks: so many entries are said to be in these places -/
structure FB (w : World) (p pb o c : Nat) (ps : List Ent) (m : Nat) : Prop where
  blk : w.heap[p]? = some (cellsO [.slice (some ⟨pb, o, none⟩) ps.length c, i64 m] 87)
  own : OwnE 40 10 w (.slice (some ⟨pb, o, none⟩) ps.length c) (ps.map Ent.cells)
  ne : p ≠ pb
  ok : ∀ e ∈ ps, e.ok

theorem FB.fr {fp : Nat → Prop} {w w' : World} {p pb o c : Nat} {ps : List Ent} {m : Nat} (h : FB w p pb o c ps m) (hf : Fr fp w w') (h1 : ¬ fp p) (h2 : ¬ fp pb) : FB w' p pb o c ps m :=
  ⟨hf.heap h.blk h1, h.own.fr hf (fun b hb => by cases hb; exact h2), h.ne, h.ok⟩
theorem FB.fr0 {w w' : World} {p pb o c : Nat} {ps : List Ent} {m : Nat} (h : FB w p pb o c ps m) (hf : Fr none_ w w') : FB w' p pb o c ps m := h.fr hf (fun h => h) fun h => h
theorem FB.lt {w : World} {p pb o c : Nat} {ps : List Ent} {m : Nat} (h : FB w p pb o c ps m) : p < w.heap.size ∧ pb < w.heap.size := ⟨lt_of_heap h.blk, h.own.lt (b := pb) rfl⟩
theorem FB.rd {w : World} {p pb o c : Nat} {ps : List Ent} {m : Nat} (h : FB w p pb o c ps m) : RdE 10 w (.slice (some ⟨pb, o, none⟩) ps.length c) (ps.map Ent.cells) := h.own.rd

theorem home_spec {p pb o c : Nat} {ps : List Ent} {m : Nat} {k : Key} (hb : FB w p pb o c ps m) (hn : 0 < ps.length) (h : ∀ w', Fr none_ w w' → K (i64 (hmF ps.length k)) w') :
    CallsR Tryz.prog 74 #[pt p 0, i64 k.1, .agg k.2.cells.toArray] K w := by
  apply c74
  unfold p74
  simp only [push_cast, Nat.reduceAdd, Nat.reduceLeDiff, Nat.reduceLT, Int.reduceToNat, Nat.left_eq_add, Nat.add_eq_left, Nat.add_left_cancel_iff, Nat.reduceEqDiff, Nat.add_assoc, Nat.succ_ne_zero]
  have hF : Fr none_ w (w.alloc (cellsO k.2.cells 24)) := (by repeat' first | with_reducible exact Fr.refl _ _ | with_reducible refine Fr.step_alloc ?_ ?_ | with_reducible refine Fr.step_drew ?_ | with_reducible refine Fr.step_wr ?_ ?_ _ _ | exact rfl | exact Or.inr (by omega) | exact Or.inl rfl | exact Or.inl (Or.inl rfl) | exact Or.inl (Or.inr rfl))
  replace hb := hb.fr0 hF
  generalize w.alloc (cellsO k.2.cells 24) = W at *
  refine pnum_spec fun w2 hF2 => ?_
  replace hb := hb.fr0 hF2
  simp only [push_cast, Nat.reduceAdd, Nat.reduceLeDiff, Nat.reduceLT, Int.reduceToNat, Nat.left_eq_add, Nat.add_eq_left, Nat.add_left_cancel_iff, Nat.reduceEqDiff, Nat.add_assoc, Nat.succ_ne_zero]
  rw [shl48, s_xorU]
  simp only [push_cast, Nat.reduceAdd, Nat.reduceLeDiff, Nat.reduceLT, Int.reduceToNat, Nat.left_eq_add, Nat.add_eq_left, Nat.add_left_cancel_iff, Nat.reduceEqDiff, Nat.add_assoc, Nat.succ_ne_zero]
  rw [shr33]
  simp only [push_cast, Nat.reduceAdd, Nat.reduceLeDiff, Nat.reduceLT, Int.reduceToNat, Nat.left_eq_add, Nat.add_eq_left, Nat.add_left_cancel_iff, Nat.reduceEqDiff, Nat.add_assoc, Nat.succ_ne_zero, hb.blk]
  have hr := hashI_range k
  have he : hashI k = IntKind.u64.wrap (xorU (numP (macL k.2)) (IntKind.u64.wrap (IntKind.u64.wrap k.1 * 2 ^ 48)) * 11400714819323198485) / 2 ^ 33 := rfl
  rw [← he, wrap_i64 (by omega), opS_rem _ _ _ (by omega)]
  have hh : (hashI k).tmod (ps.length : Int) = (hmF ps.length k : Nat) := by
    obtain ⟨a, ha⟩ := Int.eq_ofNat_of_zero_le hr.1
    unfold hmF
    rw [ha]
    simp only [Int.toNat_natCast]
    rfl
  rw [hh]
  exact h _ (hF.trans hF2)

theorem next_spec {p pb o c : Nat} {ps : List Ent} {m i : Nat} (hb : FB w p pb o c ps m) (hn : 0 < ps.length) (hi : i < 2 ^ 30) (h : K (i64 ((i + 1) % ps.length : Nat)) w) :
    CallsR Tryz.prog 75 #[pt p 0, i64 i] K w := by
  apply c75
  unfold p75
  simp only [push_cast, Nat.reduceAdd, Nat.reduceLeDiff, Nat.reduceLT, Int.reduceToNat, Nat.left_eq_add, Nat.add_eq_left, Nat.add_left_cancel_iff, Nat.reduceEqDiff, Nat.add_assoc, Nat.succ_ne_zero, hb.blk]
  rw [wrap_i64 (by omega), opS_rem _ _ _ (by omega)]
  exact h

theorem full_spec {p pb o c : Nat} {ps : List Ent} {m : Nat} (hb : FB w p pb o c ps m) (hm : m < 2 ^ 30) (h : ∀ w', Fr none_ w w' → K (.bool (decide ((2 * m : Nat) ≥ ps.length))) w') :
    CallsR Tryz.prog 94 #[pt p 0] K w := by
  apply c94
  unfold p94
  simp only [push_cast, Nat.reduceAdd, Nat.reduceLeDiff, Nat.reduceLT, Int.reduceToNat, Nat.left_eq_add, Nat.add_eq_left, Nat.add_left_cancel_iff, Nat.reduceEqDiff, Nat.add_assoc, Nat.succ_ne_zero, hb.blk]
  rw [wrap_i64 (by omega)]
  have : decide ((2 : Int) * m ≥ ps.length) = decide ((2 * m : Nat) ≥ ps.length) := decide_eq_decide.2 (by omega)
  rw [this]
  exact h _ (Fr.drew _)

/-! ### What may be -/

def grp (m : Mac) : Bool := (macL m).getD 0 0 % 2 == 1
theorem pgroup_spec {m : Mac} (hm : m.ok) (h : ∀ w', Fr none_ w w' → K (.bool (grp m)) w') : CallsR Tryz.prog 72 #[.agg m.cells.toArray] K w := by
  apply c72
  unfold p72
  simp only [push_cast, Nat.reduceAdd, Nat.reduceLeDiff, Nat.reduceLT, Int.reduceToNat, Nat.left_eq_add, Nat.add_eq_left, Nat.add_left_cancel_iff, Nat.reduceEqDiff, Nat.add_assoc, Nat.succ_ne_zero]
  have h0 : (w.alloc (cellsO m.cells 24)).heap[w.heap.size]? = some (cellsO m.cells 24) := by simp only [push_cast, Nat.reduceAdd, Nat.reduceLeDiff, Nat.reduceLT, Int.reduceToNat, Nat.left_eq_add, Nat.add_eq_left, Nat.add_left_cancel_iff, Nat.reduceEqDiff, Nat.add_assoc, Nat.succ_ne_zero]
  rw [opS_iaA w.heap.size 0 .i64 0 (by decide)]
  simp only [push_cast, Nat.reduceAdd, Nat.reduceLeDiff, Nat.reduceLT, Int.reduceToNat, Nat.left_eq_add, Nat.add_eq_left, Nat.add_left_cancel_iff, Nat.reduceEqDiff, Nat.add_assoc, Nat.succ_ne_zero, h0, Int.toNat_zero, Nat.zero_mul]
  rw [macL_get' m (by decide)]
  simp only [push_cast, Nat.reduceAdd, Nat.reduceLeDiff, Nat.reduceLT, Int.reduceToNat, Nat.left_eq_add, Nat.add_eq_left, Nat.add_left_cancel_iff, Nat.reduceEqDiff, Nat.add_assoc, Nat.succ_ne_zero]
  rw [s_and1 (macL_ok hm _ (by simp [macL]))]
  simp only [push_cast, Nat.reduceAdd, Nat.reduceLeDiff, Nat.reduceLT, Int.reduceToNat, Nat.left_eq_add, Nat.add_eq_left, Nat.add_left_cancel_iff, Nat.reduceEqDiff, Nat.add_assoc, Nat.succ_ne_zero]
  exact h _ (by repeat' first | with_reducible exact Fr.refl _ _ | with_reducible refine Fr.step_alloc ?_ ?_ | with_reducible refine Fr.step_drew ?_ | with_reducible refine Fr.step_wr ?_ ?_ _ _ | exact rfl | exact Or.inr (by omega) | exact Or.inl rfl | exact Or.inl (Or.inl rfl) | exact Or.inl (Or.inr rfl))
def rightB (v : Int) (m : Mac) (p : Int) : Bool := decide (1 ≤ v) && (decide (v ≤ 4094) && (decide (0 ≤ p) && (decide (p ≤ 1000) && !(grp m))))
theorem right_spec {v p : Int} {m : Mac} (hm : m.ok) (h : ∀ w', Fr none_ w w' → K (.bool (rightB v m p)) w') : CallsR Tryz.prog 93 #[i64 v, .agg m.cells.toArray, i64 p] K w := by
  apply c93
  unfold p93
  have hF : Fr none_ w (w.alloc (cellsO m.cells 24)) := (by repeat' first | with_reducible exact Fr.refl _ _ | with_reducible refine Fr.step_alloc ?_ ?_ | with_reducible refine Fr.step_drew ?_ | with_reducible refine Fr.step_wr ?_ ?_ _ _ | exact rfl | exact Or.inr (by omega) | exact Or.inl rfl | exact Or.inl (Or.inl rfl) | exact Or.inl (Or.inr rfl))
  have h' := h _ hF
  simp only [push_cast, Nat.reduceAdd, Nat.reduceLeDiff, Nat.reduceLT, Int.reduceToNat, Nat.left_eq_add, Nat.add_eq_left, Nat.add_left_cancel_iff, Nat.reduceEqDiff, Nat.add_assoc, Nat.succ_ne_zero]
  unfold rightB at h'
  refine br_dec (fun h1 => ?_) fun h1 => ?_
  case refine_2 => rw [decide_eq_false (show ¬ 1 ≤ v from h1)] at h'; exact h'
  refine br_dec (fun h2 => ?_) fun h2 => ?_
  case refine_2 => rw [decide_eq_false (show ¬ v ≤ 4094 from h2), Bool.false_and, Bool.and_false] at h'; exact h'
  refine br_dec (fun h3 => ?_) fun h3 => ?_
  case refine_2 => rw [decide_eq_false (show ¬ 0 ≤ p from h3), Bool.false_and, Bool.and_false, Bool.and_false] at h'; exact h'
  refine br_dec (fun h4 => ?_) fun h4 => ?_
  case refine_2 => rw [decide_eq_false (show ¬ p ≤ 1000 from h4), Bool.false_and, Bool.and_false, Bool.and_false, Bool.and_false] at h'; exact h'
  refine pgroup_spec hm fun w2 hF2 => ?_
  simp only [push_cast, Nat.reduceAdd, Nat.reduceLeDiff, Nat.reduceLT, Int.reduceToNat, Nat.left_eq_add, Nat.add_eq_left, Nat.add_left_cancel_iff, Nat.reduceEqDiff, Nat.add_assoc, Nat.succ_ne_zero]
  have h2' := h _ (hF.trans hF2)
  unfold rightB at h2'
  rw [decide_eq_true (show 1 ≤ v from h1), decide_eq_true (show v ≤ 4094 from h2), decide_eq_true (show 0 ≤ p from h3), decide_eq_true (show p ≤ 1000 from h4), Bool.true_and, Bool.true_and, Bool.true_and, Bool.true_and] at h2'
  exact h2'
def timedB (t : Int) : Bool := decide (0 ≤ t) && decide (t ≤ 1099511627776)
theorem timed_spec {t : Int} (h : K (.bool (timedB t)) w) : CallsR Tryz.prog 89 #[i64 t] K w := by
  apply c89
  unfold p89
  unfold timedB at h
  simp only [push_cast, Nat.reduceAdd, Nat.reduceLeDiff, Nat.reduceLT, Int.reduceToNat, Nat.left_eq_add, Nat.add_eq_left, Nat.add_left_cancel_iff, Nat.reduceEqDiff, Nat.add_assoc, Nat.succ_ne_zero]
  refine br_dec (fun h1 => ?_) fun h1 => ?_
  · rw [decide_eq_true (show 0 ≤ t from h1), Bool.true_and] at h; exact h
  · rw [decide_eq_false (show ¬ 0 ≤ t from h1), Bool.false_and] at h; exact h

/-- what an entry of a table is like -/
def RngE (e : Ent) : Prop := rightB e.vlan e.mac e.port = true ∧ timedB e.at_ = true ∧ (e.static = true → e.at_ = 0)

end Go.Gx.S

namespace Go.Gx.S
open Go Go.Gx Go.Proofs
variable {K : Value → World → Prop} {w : World}

theorem zE_ok : zE.ok := ⟨isI_iff.2 (by decide), by simp [zE, zMac, Mac.ok, isB], isI_iff.2 (by decide), isI_iff.2 (by decide)⟩
theorem build_zE : opS Tryz.prog (S.build 40 []) K w = K (.agg zE.cells.toArray) w := by
  rw [opS_build _ rfl]; rfl
theorem build_lrn (v p t : Int) (m : Mac) : opS Tryz.prog (S.build 40 [(0, i64 v), (1, .agg m.cells.toArray), (2, i64 p), (3, i64 t)]) K w = K (.agg (Ent.cells ⟨v, m, p, t, false⟩).toArray) w := by
  rw [opS_build _ rfl]; rfl
theorem build_put (v p : Int) (m : Mac) : opS Tryz.prog (S.build 40 [(0, i64 v), (1, .agg m.cells.toArray), (2, i64 p), (4, .bool true)]) K w = K (.agg (Ent.cells ⟨v, m, p, 0, true⟩).toArray) w := by
  rw [opS_build _ rfl]; rfl
theorem zalloc_ent : opS Tryz.prog (S.alloc 40) K w = K (pt w.heap.size 0) (w.alloc (cellsO zE.cells 40)) := by
  rw [opS_alloc]; rfl
theorem ent_slot {g : Ent} {R : Value → Value → World → Prop} (h : ∀ u w', w'.heap[w.heap.size]? = some (cellsO g.cells 40) → Fr none_ w w' → R (pt w.heap.size 0) u w') :
    opS Tryz.prog (S.alloc 40) (fun x => opS Tryz.prog (S.st 40 x (.agg g.cells.toArray)) (R x)) w := by
  rw [zalloc_ent, s_stA _ _ _ (Ent.cells_length g) (Ent.cells_one g)]
  simp only [push_cast, Nat.reduceAdd, Nat.reduceLeDiff, Nat.reduceLT, Int.reduceToNat, Nat.left_eq_add, Nat.add_eq_left, Nat.add_left_cancel_iff, Nat.reduceEqDiff, Nat.add_assoc, Nat.succ_ne_zero]
  refine h _ _ ?_ (Fr.step_wr (Fr.step_alloc (Fr.refl _ _) rfl) (.inr (Nat.le_refl _)) _ _)
  simp only [push_cast, Nat.reduceAdd, Nat.reduceLeDiff, Nat.reduceLT, Int.reduceToNat, Nat.left_eq_add, Nat.add_eq_left, Nat.add_left_cancel_iff, Nat.reduceEqDiff, Nat.add_assoc, Nat.succ_ne_zero]

theorem FB.at {p pb o c : Nat} {ps : List Ent} {m i : Nat} (hb : FB w p pb o c ps m) (hi : i < ps.length) {R : Value → World → Prop} (h : ∀ b' o', El w b' o' (pAt ps i).cells → R (pt b' o') w) :
    opS Tryz.prog (S.ia 51 (.slice (some ⟨pb, o, none⟩) ps.length c) (i64 i)) R w := by
  have hl : (ps.map Ent.cells).length = ps.length := List.length_map _
  have hr := hb.rd
  refine s_iaE hr (by omega) (by rw [hl]; simpa using hi) fun b' o' c' _ he => ?_
  simp only [Int.toNat_natCast, List.getElem_map] at he ⊢
  rw [← pAt_eq hi] at he
  exact h _ _ he
theorem FB.okA {p pb o c : Nat} {ps : List Ent} {m : Nat} (hb : FB w p pb o c ps m) (i : Nat) : (pAt ps i).ok := by
  by_cases h : i < ps.length
  · rw [pAt_eq h]; exact hb.ok _ (List.getElem_mem h)
  · rw [pAt_ge (by omega)]; exact zE_ok

theorem s_put {p pb o c : Nat} {ps : List Ent} {m i : Nat} {x : Ent} {R : Value → World → Prop} (hb : FB w p pb o c ps m) (hi : i < ps.length) (hx : x.ok) (h : ∀ w', FB w' p pb o c (ps.set i x) m → Fr (fun b => b = pb) w w' → R undef w') :
    opS Tryz.prog (S.ia 51 (.slice (some ⟨pb, o, none⟩) ps.length c) (i64 i)) (fun y => opS Tryz.prog (S.st 40 y (.agg x.cells.toArray)) R) w := by
  have hl : (ps.map Ent.cells).length = ps.length := List.length_map _
  have ho := hb.own
  rw [← hl] at ho ⊢
  refine s_iaE ho.rd (by omega) (by rw [hl]; simpa using hi) fun b' o' c' hv _ => ?_
  simp only [Value.slice.injEq, Option.some.injEq, Addr.mk.injEq] at hv
  obtain ⟨⟨rfl, rfl, _⟩, _, rfl⟩ := hv
  rw [Int.toNat_natCast]
  obtain ⟨hok, hput⟩ := ho.put (Ent.cells_length x) (by rw [hl]; exact hi)
  rw [s_stA _ _ _ (Ent.cells_length x) (Ent.cells_one x), hok, onB_true]
  refine h _ ⟨?_, ?_, hb.ne, fun e he => ?_⟩ (Fr.step_wr (fp := fun b => b = pb) (Fr.refl _ _) (.inl rfl) _ _)
  · have hne := hb.ne
    rw [List.length_set]
    simp only [push_cast, Nat.reduceAdd, Nat.reduceLeDiff, Nat.reduceLT, Int.reduceToNat, Nat.left_eq_add, Nat.add_eq_left, Nat.add_left_cancel_iff, Nat.reduceEqDiff, Nat.add_assoc, Nat.succ_ne_zero, hne, hb.blk]
  · rw [List.length_set, List.map_set, ← hl]
    exact hput
  · rcases List.mem_or_eq_of_mem_set he with h1 | h1
    · exact hb.ok e h1
    · rw [h1]; exact hx

theorem FB.many {p pb o c : Nat} {ps : List Ent} {m m' : Nat} (hb : FB w p pb o c ps m) : FB (wr w p 1 [i64 m']) p pb o c ps m' := by
  have hne : ¬ pb = p := fun e => hb.ne e.symm
  refine ⟨?_, hb.own.frame fun b hb' => ?_, hb.ne, hb.ok⟩
  · simp only [push_cast, Nat.reduceAdd, Nat.reduceLeDiff, Nat.reduceLT, Int.reduceToNat, Nat.left_eq_add, Nat.add_eq_left, Nat.add_left_cancel_iff, Nat.reduceEqDiff, Nat.add_assoc, Nat.succ_ne_zero, hb.blk]
  · cases hb'
    simp only [push_cast, Nat.reduceAdd, Nat.reduceLeDiff, Nat.reduceLT, Int.reduceToNat, Nat.left_eq_add, Nat.add_eq_left, Nat.add_left_cancel_iff, Nat.reduceEqDiff, Nat.add_assoc, Nat.succ_ne_zero, hne]

theorem wk_zero {n h : Nat} (hh : h < n) : wk n h 0 = h := by
  unfold wk
  rw [Nat.add_zero]
  exact Nat.mod_eq_of_lt hh
theorem wk_succ (n h d : Nat) : wk n h (d + 1) = (wk n h d + 1) % n := by
  rw [← wk_wk]
  unfold wk
  rfl
theorem hmF_lt {n : Nat} (hn : 0 < n) (k : Key) : hmF n k < n := by
  unfold hmF
  exact Nat.mod_lt _ hn

theorem pfind_spec {p pb o c : Nat} {ps : List Ent} {m : Nat} {k : Key} (hb : FB w p pb o c ps m) (hn : 0 < ps.length) (hl : ps.length ≤ 4096) (hk : isI k.1 ∧ k.2.ok) (hfree : ∃ e, e < ps.length ∧ pAt ps e = zE)
    (h1 : ∀ d w', pAt ps (wk ps.length (hmF ps.length k) d) ≠ zE → eKey (pAt ps (wk ps.length (hmF ps.length k) d)) = k → Fr none_ w w' → K (.tuple #[i64 (wk ps.length (hmF ps.length k) d : Nat), .bool true]) w')
    (h0 : ∀ d w', Seen ps.length ps (hmF ps.length k) k d → pAt ps (wk ps.length (hmF ps.length k) d) = zE → Fr none_ w w' → K (.tuple #[i64 (wk ps.length (hmF ps.length k) d : Nat), .bool false]) w') :
    CallsR Tryz.prog 37 #[pt p 0, i64 k.1, .agg k.2.cells.toArray] K w := by
  apply c37
  unfold p37
  simp only [push_cast, Nat.reduceAdd, Nat.reduceLeDiff, Nat.reduceLT, Int.reduceToNat, Nat.left_eq_add, Nat.add_eq_left, Nat.add_left_cancel_iff, Nat.reduceEqDiff, Nat.add_assoc, Nat.succ_ne_zero]
  have hF : Fr none_ w (w.alloc (cellsO k.2.cells 24)) := (by repeat' first | with_reducible exact Fr.refl _ _ | with_reducible refine Fr.step_alloc ?_ ?_ | with_reducible refine Fr.step_drew ?_ | with_reducible refine Fr.step_wr ?_ ?_ _ _ | exact rfl | exact Or.inr (by omega) | exact Or.inl rfl | exact Or.inl (Or.inl rfl) | exact Or.inl (Or.inr rfl))
  have hx0 : (w.alloc (cellsO k.2.cells 24)).heap[w.heap.size]? = some (cellsO k.2.cells 24) := by simp only [push_cast, Nat.reduceAdd, Nat.reduceLeDiff, Nat.reduceLT, Int.reduceToNat, Nat.left_eq_add, Nat.add_eq_left, Nat.add_left_cancel_iff, Nat.reduceEqDiff, Nat.add_assoc, Nat.succ_ne_zero]
  replace hb := hb.fr0 hF
  generalize w.alloc (cellsO k.2.cells 24) = W at *
  refine home_spec (k := k) hb hn fun w2 hF2 => ?_
  replace hb := hb.fr0 hF2
  replace hx0 := hF2.heap hx0 fun h => h
  replace hF := hF.trans hF2
  have hhl : hmF ps.length k < ps.length := hmF_lt hn k
  generalize hmF ps.length k = hh at *
  refine jn2 (fun x y w' => ∃ d, x = i64 (wk ps.length hh d : Nat) ∧ Fr none_ w w' ∧ ((y = .bool true ∧ pAt ps (wk ps.length hh d) ≠ zE ∧ eKey (pAt ps (wk ps.length hh d)) = k) ∨ (y = .bool false ∧ Seen ps.length ps hh k d ∧ pAt ps (wk ps.length hh d) = zE))) ?_ fun j hj => ?_
  · rintro x y w' ⟨d, rfl, hF', ⟨rfl, g1, g2⟩ | ⟨rfl, g1, g2⟩⟩
    · exact h1 d w' g1 g2 hF'
    · exact h0 d w' g1 g2 hF'
  refine loop2 (fun n x y w' => ∃ d, x = i64 (wk ps.length hh d : Nat) ∧ y = .bool false ∧ n = ps.length - d ∧ Seen ps.length ps hh k d ∧ Fr none_ w2 w') ?_ ps.length ⟨0, ?_, rfl, rfl, fun s hs => by omega, Fr.refl _ _⟩
  case refine_2 =>
    rw [wk_zero hhl]
  rintro n x y w3 X ⟨d, rfl, rfl, rfl, hs, hF3⟩ hX
  have hb3 := hb.fr0 hF3
  have hx3 := hF3.heap hx0 fun h => h
  have hi : wk ps.length hh d < ps.length := wk_lt hn _ _
  have hdn := hs.lt hhl hfree
  have hnx := wk_succ ps.length hh d
  simp only [push_cast, Nat.reduceAdd, Nat.reduceLeDiff, Nat.reduceLT, Int.reduceToNat, Nat.left_eq_add, Nat.add_eq_left, Nat.add_left_cancel_iff, Nat.reduceEqDiff, Nat.add_assoc, Nat.succ_ne_zero, hb3.blk]
  refine hb3.at hi fun b1 o1 he => ?_
  rw [s_ldN (by decide), he.agg0 (Ent.cells_length _), onS_some, build_zE]
  have hok := hb3.okA (wk ps.length hh d)
  refine s_neqG (EntT.enc (d := 5) hok) (EntT.enc (d := 5) zE_ok) fun q hq => ?_
  rw [Ent.lits_inj] at hq
  simp only [push_cast, Nat.reduceAdd, Nat.reduceLeDiff, Nat.reduceLT, Int.reduceToNat, Nat.left_eq_add, Nat.add_eq_left, Nat.add_left_cancel_iff, Nat.reduceEqDiff, Nat.add_assoc, Nat.succ_ne_zero]
  refine br_intro (fun hd => ?_) fun hd => hj _ _ _ ⟨d, rfl, hF.trans hF3, .inr ⟨rfl, hs, hq.1 (by simpa using hd)⟩⟩
  have hocc : pAt ps (wk ps.length hh d) ≠ zE := fun e => by rw [hq.2 e] at hd; cases hd
  have hb4 := hb3.fr0 (Fr.drew w3)
  have hx4 := (Fr.drew (fp := none_) w3).heap hx3 fun h => h
  have hF4 : Fr none_ w2 w3.drew := hF3.step_drew
  simp only [push_cast, Nat.reduceAdd, Nat.reduceLeDiff, Nat.reduceLT, Int.reduceToNat, Nat.left_eq_add, Nat.add_eq_left, Nat.add_left_cancel_iff, Nat.reduceEqDiff, Nat.add_assoc, Nat.succ_ne_zero, hb3.blk]
  generalize w3.drew = w4 at *
  refine hb4.at hi fun b1 o1 he => ?_
  have hv := he.cell 0 (by simp [Ent.cells])
  rw [Nat.add_zero] at hv
  simp only [push_cast, Nat.reduceAdd, Nat.reduceLeDiff, Nat.reduceLT, Int.reduceToNat, Nat.left_eq_add, Nat.add_eq_left, Nat.add_left_cancel_iff, Nat.reduceEqDiff, Nat.add_assoc, Nat.succ_ne_zero, hv]
  refine br_intro (fun h2 => ?_) fun h2 => ?_
  case refine_2 =>
    have hne : eKey (pAt ps (wk ps.length hh d)) ≠ k := fun e => by
      rw [← e] at h2
      simp [eKey] at h2
    refine next_spec hb4 hn (by omega) ?_
    rw [← hnx]
    exact hX (ps.length - (d + 1)) _ _ _ (by omega) ⟨d + 1, rfl, rfl, rfl, hs.step hocc hne, hF4⟩
  have h2 : (pAt ps (wk ps.length hh d)).vlan = k.1 := by simpa using h2
  simp only [push_cast, Nat.reduceAdd, Nat.reduceLeDiff, Nat.reduceLT, Int.reduceToNat, Nat.left_eq_add, Nat.add_eq_left, Nat.add_left_cancel_iff, Nat.reduceEqDiff, Nat.add_assoc, Nat.succ_ne_zero, hb4.blk]
  refine hb4.at hi fun b1 o1 he => ?_
  have hm := he.agg 1 6 (by simp [Ent.cells])
  simp only [push_cast, Nat.reduceAdd, Nat.reduceLeDiff, Nat.reduceLT, Int.reduceToNat, Nat.left_eq_add, Nat.add_eq_left, Nat.add_left_cancel_iff, Nat.reduceEqDiff, Nat.add_assoc, Nat.succ_ne_zero, hm, hx4]
  refine s_eqG (MacT.enc (P := Tryz.prog) (T := 24) (d := 6) hok.2.1) (MacT.enc (P := Tryz.prog) (T := 24) (d := 6) hk.2) fun r hr => ?_
  rw [Mac.lits_inj] at hr
  simp only [push_cast, Nat.reduceAdd, Nat.reduceLeDiff, Nat.reduceLT, Int.reduceToNat, Nat.left_eq_add, Nat.add_eq_left, Nat.add_left_cancel_iff, Nat.reduceEqDiff, Nat.add_assoc, Nat.succ_ne_zero]
  refine br_intro (fun h3 => ?_) fun h3 => ?_
  · have h3' : (pAt ps (wk ps.length hh d)).mac = k.2 := hr.1 h3
    subst h3
    exact hj _ _ _ ⟨d, rfl, hF.trans hF4, .inl ⟨rfl, hocc, Prod.ext h2 h3'⟩⟩
  · have hne : eKey (pAt ps (wk ps.length hh d)) ≠ k := fun e => by
      have := hr.2 (congrArg Prod.snd e)
      rw [this] at h3
      cases h3
    subst h3
    refine next_spec hb4 hn (by omega) ?_
    rw [← hnx]
    exact hX (ps.length - (d + 1)) _ _ _ (by omega) ⟨d + 1, rfl, rfl, rfl, hs.step hocc hne, hF4⟩

end Go.Gx.S

namespace Go.Gx.S
open Go Go.Gx Go.Proofs
variable {K : Value → World → Prop} {w : World}

/-- a table: room, what it holds -/
structure FT (w : World) (p pb o c room : Nat) (ps r : List Ent) : Prop where
  fb : FB w p pb o c ps r.length
  len : ps.length = 2 * room
  pt : PT (2 * room) (hmF (2 * room)) ps
  ct : CT ps r
  cap : r.length ≤ room
  lo : 1 ≤ room
  hi : room ≤ 1024
  rng : ∀ e ∈ r, RngE e

theorem FT.fr {fp : Nat → Prop} {w w' : World} {p pb o c room : Nat} {ps r : List Ent} (h : FT w p pb o c room ps r) (hf : Fr fp w w') (h1 : ¬ fp p) (h2 : ¬ fp pb) : FT w' p pb o c room ps r :=
  ⟨h.fb.fr hf h1 h2, h.len, h.pt, h.ct, h.cap, h.lo, h.hi, h.rng⟩
theorem FT.fr0 {w w' : World} {p pb o c room : Nat} {ps r : List Ent} (h : FT w p pb o c room ps r) (hf : Fr none_ w w') : FT w' p pb o c room ps r := h.fr hf (fun h => h) fun h => h
theorem FT.free {p pb o c room : Nat} {ps r : List Ent} (h : FT w p pb o c room ps r) : ∃ e, e < 2 * room ∧ pAt ps e = zE := by
  have := h.ct.free (by have := h.cap; have := h.lo; have := h.len; omega)
  rw [h.len] at this
  exact this

theorem pfind' {n p pb o c : Nat} {ps : List Ent} {m : Nat} {k : Key} (hb : FB w p pb o c ps m) (hln : ps.length = n) (hn : 0 < n) (hl : n ≤ 4096) (hk : isI k.1 ∧ k.2.ok) (hfree : ∃ e, e < n ∧ pAt ps e = zE)
    (h1 : ∀ d w', pAt ps (wk n (hmF n k) d) ≠ zE → eKey (pAt ps (wk n (hmF n k) d)) = k → Fr none_ w w' → K (.tuple #[i64 (wk n (hmF n k) d : Nat), .bool true]) w')
    (h0 : ∀ d w', Seen n ps (hmF n k) k d → pAt ps (wk n (hmF n k) d) = zE → Fr none_ w w' → K (.tuple #[i64 (wk n (hmF n k) d : Nat), .bool false]) w') :
    CallsR Tryz.prog 37 #[pt p 0, i64 k.1, .agg k.2.cells.toArray] K w := by
  subst hln
  exact pfind_spec hb hn hl hk hfree h1 h0
theorem next' {n p pb o c : Nat} {ps : List Ent} {m i : Nat} (hb : FB w p pb o c ps m) (hln : ps.length = n) (hn : 0 < n) (hi : i < 2 ^ 30) (h : K (i64 ((i + 1) % n : Nat)) w) :
    CallsR Tryz.prog 75 #[pt p 0, i64 i] K w := by
  subst hln
  exact next_spec hb hn hi h

/-- an entry is found, or the place where it would be -/
theorem ft_find {p pb o c room : Nat} {ps r : List Ent} {k : Key} (ht : FT w p pb o c room ps r) (hk : isI k.1 ∧ k.2.ok)
    (h1 : ∀ i w', i < ps.length → pAt ps i ≠ zE → pAt ps i ∈ r → eKey (pAt ps i) = k → Fr none_ w w' → K (.tuple #[i64 (i : Nat), .bool true]) w')
    (h0 : ∀ i d w', i < ps.length → i = wk (2 * room) (hmF (2 * room) k) d → Seen (2 * room) ps (hmF (2 * room) k) k d → pAt ps i = zE → (∀ e ∈ r, eKey e ≠ k) → Fr none_ w w' → K (.tuple #[i64 (i : Nat), .bool false]) w') :
    CallsR Tryz.prog 37 #[pt p 0, i64 k.1, .agg k.2.cells.toArray] K w := by
  have hlo := ht.lo
  have hlt : ∀ d, wk (2 * room) (hmF (2 * room) k) d < ps.length := fun d => by rw [ht.len]; exact wk_lt (by omega) _ _
  refine pfind' ht.fb ht.len (by omega) (by have := ht.hi; omega) hk ht.free (fun d w' g1 g2 hF => h1 _ w' (hlt d) g1 ((ht.ct.mem _).2 ⟨g1, _, hlt d, rfl⟩) g2 hF) fun d w' g1 g2 hF => h0 _ d w' (hlt d) rfl g1 g2 (fun e he hk => ?_) hF
  obtain ⟨g3, q, g4, rfl⟩ := (ht.ct.mem e).1 he
  rw [ht.len] at g4
  exact ht.pt.absent g1 g2 q g4 g3 hk

theorem take_spec {p pb o c room : Nat} {ps r : List Ent} {i : Nat} (ht : FT w p pb o c room ps r) (hi : i < ps.length) (hz : pAt ps i ≠ zE)
    (h : ∀ w' ps', FT w' p pb o c room ps' (withoutL r (pAt ps i)) → Fr (fun b => b = p ∨ b = pb) w w' → K (.tuple #[]) w') : CallsR Tryz.prog 130 #[pt p 0, i64 i] K w := by
  apply c130
  unfold p130
  have hlo := ht.lo
  have hhi := ht.hi
  obtain ⟨e, he1, he2⟩ := ht.free
  obtain ⟨n, hn⟩ : ∃ n, n = 2 * room := ⟨_, rfl⟩
  have hln := ht.len
  have hpt := ht.pt
  rw [← hn] at hln hpt he1
  have hin : i < n := by omega
  obtain ⟨M, hM0, hMn, hMz, hMs⟩ := first_free hin he1 he2 hz
  have hw0 : wk n i 0 = i := wk_zero hin
  have htk := (hpt.tk hMn hMs hMz).remove hM0
  have hct := ht.ct.take hi hz
  have hxr : pAt ps i ∈ r := (ht.ct.mem _).2 ⟨hz, i, hi, rfl⟩
  have hrl := without_len_old ht.ct.srt hxr
  rw [hw0] at htk
  have hrng : ∀ e ∈ withoutL r (pAt ps i), RngE e := fun e he => ht.rng e (mem_without.1 he).1
  generalize withoutL r (pAt ps i) = r' at *
  simp only [push_cast, Nat.reduceAdd, Nat.reduceLeDiff, Nat.reduceLT, Int.reduceToNat, Nat.left_eq_add, Nat.add_eq_left, Nat.add_left_cancel_iff, Nat.reduceEqDiff, Nat.add_assoc, Nat.succ_ne_zero, ht.fb.blk]
  rw [build_zE]
  refine s_put ht.fb hi zE_ok fun w1 hb1 hF1 => ?_
  have hl1 : (ps.set i zE).length = n := by rw [List.length_set]; exact hln
  generalize ps.set i zE = ps1 at *
  simp only [push_cast, Nat.reduceAdd, Nat.reduceLeDiff, Nat.reduceLT, Int.reduceToNat, Nat.left_eq_add, Nat.add_eq_left, Nat.add_left_cancel_iff, Nat.reduceEqDiff, Nat.add_assoc, Nat.succ_ne_zero]
  refine next' hb1 hl1 (by omega) (by omega) ?_
  have hlt := ht.fb.lt
  have hF1' : Fr (fun b => b = p ∨ b = pb) w w1 := hF1.mono fun b _ e => .inr e
  refine jn0 (fun w' => ∃ ps', ps'.length = n ∧ FB w' p pb o c ps' r.length ∧ Tk n (hmF n) i M M ps' ∧ CT ps' r' ∧ Fr (fun b => b = p ∨ b = pb) w w') ?_ fun j hj => ?_
  · rintro w2 ⟨ps', hl', hb', htk', hct', hF'⟩
    simp only [push_cast, Nat.reduceAdd, Nat.reduceLeDiff, Nat.reduceLT, Int.reduceToNat, Nat.left_eq_add, Nat.add_eq_left, Nat.add_left_cancel_iff, Nat.reduceEqDiff, Nat.add_assoc, Nat.succ_ne_zero, hb'.blk]
    have hrw : IntKind.i64.wrap ((r.length : Int) - 1) = ((r'.length : Nat) : Int) := by
      rw [wrap_i64 (by have := ht.cap; omega)]
      omega
    rw [hrw]
    have hpt' := htk'.pt
    rw [hn] at hl' hpt'
    exact h _ ps' ⟨hb'.many, hl', hpt', hct', by have := ht.cap; omega, hlo, hhi, hrng⟩ (hF'.step_wr (.inl (.inl rfl)) _ _)
  refine loop1 (fun q v w' => ∃ m ps', v = i64 (wk n i m : Nat) ∧ m ≤ M ∧ q = M - m ∧ ps'.length = n ∧ FB w' p pb o c ps' r.length ∧ Tk n (hmF n) i M m ps' ∧ CT ps' r' ∧ Fr (fun b => b = p ∨ b = pb) w w') ?_ (M - 1) ⟨1, ps1, ?_, hM0, rfl, hl1, hb1, htk, hct, hF1'⟩
  case refine_2 =>
    rw [wk_succ, hw0]
  rintro q v w2 X ⟨m, ps2, rfl, hmM, rfl, hl2, hb2, htk2, hct2, hF2⟩ hX
  have hj2 : wk n i m < ps2.length := by rw [hl2]; exact wk_lt (by omega) _ _
  have hok := hb2.okA (wk n i m)
  simp only [push_cast, Nat.reduceAdd, Nat.reduceLeDiff, Nat.reduceLT, Int.reduceToNat, Nat.left_eq_add, Nat.add_eq_left, Nat.add_left_cancel_iff, Nat.reduceEqDiff, Nat.add_assoc, Nat.succ_ne_zero, hb2.blk]
  refine hb2.at hj2 fun b1 o1 he => ?_
  rw [s_ldN (by decide), he.agg0 (Ent.cells_length _), onS_some, build_zE]
  refine s_neqG (EntT.enc (d := 5) hok) (EntT.enc (d := 5) zE_ok) fun q hq => ?_
  rw [Ent.lits_inj] at hq
  simp only [push_cast, Nat.reduceAdd, Nat.reduceLeDiff, Nat.reduceLT, Int.reduceToNat, Nat.left_eq_add, Nat.add_eq_left, Nat.add_left_cancel_iff, Nat.reduceEqDiff, Nat.add_assoc, Nat.succ_ne_zero]
  refine br_intro (fun hd => ?_) fun hd => ?_
  case refine_2 =>
    have hzz := hq.1 (by simpa using hd)
    have : m = M := by
      rcases Nat.lt_or_ge m M with h1 | h1
      · exact absurd hzz (htk2.seg m (Nat.le_refl _) h1)
      · omega
    subst this
    exact hj _ ⟨ps2, hl2, hb2, htk2, hct2, hF2⟩
  have hocc : pAt ps2 (wk n i m) ≠ zE := fun e => by rw [hq.2 e] at hd; cases hd
  have hmlt : m < M := by
    rcases Nat.lt_or_ge m M with h1 | h1
    · exact h1
    · have : m = M := by omega
      subst this
      exact absurd htk2.free hocc
  have hagain := fun d => htk2.again hmlt (d := d)
  have hctt := hct2.take hj2 hocc
  have hxr2 : pAt ps2 (wk n i m) ∈ r' := (hct2.mem _).2 ⟨hocc, _, hj2, rfl⟩
  have hwj := wk_succ n i m
  have hinj : ∀ q, q < n → pAt (ps2.set (wk n i m) zE) q ≠ zE → eKey (pAt (ps2.set (wk n i m) zE) q) ≠ eKey (pAt ps2 (wk n i m)) := fun q hqn hqz hk => by
    rw [pAt_set hj2] at hqz hk
    split at hqz
    · exact hqz rfl
    · rename_i e
      rw [if_neg e] at hk
      exact e (htk2.inj q _ hqn (by omega) hqz hocc hk)
  have hjz : pAt (ps2.set (wk n i m) zE) (wk n i m) = zE := by rw [pAt_set hj2, if_pos rfl]
  generalize wk n i m = jj at *
  simp only [push_cast, Nat.reduceAdd, Nat.reduceLeDiff, Nat.reduceLT, Int.reduceToNat, Nat.left_eq_add, Nat.add_eq_left, Nat.add_left_cancel_iff, Nat.reduceEqDiff, Nat.add_assoc, Nat.succ_ne_zero, hb2.blk]
  refine hb2.at hj2 fun b1 o1 he => ?_
  rw [s_ldN (by decide), he.agg0 (Ent.cells_length _), onS_some]
  have hlt2 := hb2.lt
  generalize pAt ps2 jj = x at *
  refine ent_slot fun _ w3 hw3 hF3 => ?_
  have hb3 := hb2.fr0 hF3
  have hsl : w2.heap.size ≠ pb := by omega
  generalize w2.heap.size = sl at *
  simp only [push_cast, Nat.reduceAdd, Nat.reduceLeDiff, Nat.reduceLT, Int.reduceToNat, Nat.left_eq_add, Nat.add_eq_left, Nat.add_left_cancel_iff, Nat.reduceEqDiff, Nat.add_assoc, Nat.succ_ne_zero, hb3.blk]
  rw [build_zE]
  refine s_put hb3 hj2 zE_ok fun w4 hb4 hF4 => ?_
  have hl4 : (ps2.set jj zE).length = n := by rw [List.length_set]; exact hl2
  generalize ps2.set jj zE = ps4 at *
  have hw4 := hF4.heap hw3 hsl
  simp only [push_cast, Nat.reduceAdd, Nat.reduceLeDiff, Nat.reduceLT, Int.reduceToNat, Nat.left_eq_add, Nat.add_eq_left, Nat.add_left_cancel_iff, Nat.reduceEqDiff, Nat.add_assoc, Nat.succ_ne_zero, hw4]
  refine pfind' (k := eKey x) hb4 hl4 (by omega) (by omega) ⟨hok.1, hok.2.1⟩ ⟨jj, by omega, hjz⟩ (fun d w' g1 g2 _ => absurd g2 (hinj _ (wk_lt (by omega) _ _) g1)) fun d w5 g1 g2 hF5 => ?_
  have hag := hagain d g1 g2
  have hfl : wk n (hmF n (eKey x)) d < ps4.length := by rw [hl4]; exact wk_lt (by omega) _ _
  have hctp := hctt.put (x := x) hocc hok hfl (fun q hq hqf hqz => hinj q (by omega) hqz) (fun hne => absurd g2 hne)
  rw [with_without hct2.srt hxr2] at hctp
  generalize wk n (hmF n (eKey x)) d = f at *
  have hw5 := hF5.heap hw4 fun h => h
  have hb5 := hb4.fr0 hF5
  simp only [push_cast, Nat.reduceAdd, Nat.reduceLeDiff, Nat.reduceLT, Int.reduceToNat, Nat.left_eq_add, Nat.add_eq_left, Nat.add_left_cancel_iff, Nat.reduceEqDiff, Nat.add_assoc, Nat.succ_ne_zero, hb5.blk, hw5]
  refine s_put (hb5.fr0 (Fr.drew w5)) hfl hok fun w6 hb6 hF6 => ?_
  simp only [push_cast, Nat.reduceAdd, Nat.reduceLeDiff, Nat.reduceLT, Int.reduceToNat, Nat.left_eq_add, Nat.add_eq_left, Nat.add_left_cancel_iff, Nat.reduceEqDiff, Nat.add_assoc, Nat.succ_ne_zero]
  have hl6 : (ps4.set f x).length = n := by rw [List.length_set]; exact hl4
  refine next' hb6 hl6 (by omega) (by omega) ?_
  rw [← hwj]
  refine hX (M - (m + 1)) _ _ (by omega) ⟨m + 1, _, rfl, by omega, rfl, hl6, hb6, hag, hctp, ?_⟩
  have e3 := hF2.trans_new hF3 fun b hb e => e.elim
  have e4 := e3.trans_new hF4 fun b hb e => .inr e
  have e5 := (e4.trans_new hF5 fun b hb e => e.elim).step_drew
  exact e5.trans_new hF6 fun b hb e => .inr e

end Go.Gx.S

namespace Go.Gx.S
open Go Go.Gx Go.Proofs
variable {K : Value → World → Prop} {w : World}

theorem mac_dw (m : Mac) : (m.cells.drop 0).take 6 = m.cells := id rfl
attribute [push_cast] mac_dw

/-! ### The steps, plain -/

def atK (r : List Ent) (k : Key) : Option Ent := r.find? fun e => decide (eKey e = k)
theorem atK_some {r : List Ent} {k : Key} {e : Ent} (h : Srt r) (he : e ∈ r) (hk : eKey e = k) : atK r k = some e := by
  unfold atK
  cases hf : r.find? (fun e => decide (eKey e = k)) with
  | none =>
    have := List.find?_eq_none.1 hf e he
    simp [hk] at this
  | some f =>
    have h1 := List.mem_of_find?_eq_some hf
    have h2 := List.find?_some hf
    simp only [decide_eq_true_eq] at h2
    rw [h.key h1 he (h2.trans hk.symm)]
theorem atK_none {r : List Ent} {k : Key} (h : ∀ e ∈ r, eKey e ≠ k) : atK r k = none := by
  unfold atK
  exact List.find?_eq_none.2 fun e he => by simpa using h e he
theorem atK_mem {r : List Ent} {k : Key} {e : Ent} (h : atK r k = some e) : e ∈ r ∧ eKey e = k :=
  ⟨List.mem_of_find?_eq_some h, by have := List.find?_some h; simpa using this⟩
theorem atK_no {r : List Ent} {k : Key} (h : atK r k = none) : ∀ e ∈ r, eKey e ≠ k := fun e he => by
  have := List.find?_eq_none.1 h e he
  simpa using this

def learnL (room : Nat) (r : List Ent) (v : Int) (m : Mac) (p t : Int) : List Ent × Int × Int :=
  if rightB v m p && timedB t then
    match atK r (v, m) with
    | some e => if e.static then (r, 0, 0) else (withL r ⟨v, m, p, t, false⟩, if e.port = p then 0 else 2, 0)
    | none => if room ≤ r.length then (r, 0, 3) else (withL r ⟨v, m, p, t, false⟩, 1, 0)
  else (r, 0, 1)
def putL (room : Nat) (r : List Ent) (v : Int) (m : Mac) (p : Int) : List Ent × Int :=
  if rightB v m p then
    match atK r (v, m) with
    | some _ => (withL r ⟨v, m, p, 0, true⟩, 0)
    | none => if room ≤ r.length then (r, 3) else (withL r ⟨v, m, p, 0, true⟩, 0)
  else (r, 1)
def lookL (r : List Ent) (k : Key) : Ent × Bool := match atK r k with | some e => (e, true) | none => (zE, false)
def removeL (r : List Ent) (k : Key) : List Ent × Bool := match atK r k with | some e => (withoutL r e, true) | none => (r, false)

theorem right_nz {v p t : Int} {m : Mac} {g : Bool} (h : rightB v m p = true) : (⟨v, m, p, t, g⟩ : Ent) ≠ zE := fun e => by
  have h1 : v = 0 := congrArg Ent.vlan e
  unfold rightB at h
  rw [h1] at h
  simp at h

theorem rng_with {r : List Ent} {x : Ent} (h : ∀ e ∈ r, RngE e) (hx : RngE x) : ∀ e ∈ withL r x, RngE e := fun e he => by
  rcases mem_with.1 he with rfl | he
  · exact hx
  · exact h e he.1

theorem FT.upd {w' : World} {p pb o c room i : Nat} {ps r : List Ent} {x : Ent} (ht : FT w p pb o c room ps r) (hi : i < ps.length) (hz : pAt ps i ≠ zE) (hk : eKey (pAt ps i) = eKey x) (hx : x ≠ zE) (hok : x.ok) (hrg : RngE x) (hb : FB w' p pb o c (ps.set i x) r.length) :
    FT w' p pb o c room (ps.set i x) (withL r x) := by
  have hmem : pAt ps i ∈ r := (ht.ct.mem _).2 ⟨hz, i, hi, rfl⟩
  have hl := with_len_old ht.ct.srt hmem hk
  refine ⟨by rw [hl]; exact hb, by rw [List.length_set]; exact ht.len, ht.pt.update (by rw [← ht.len]; exact hi) hx hz hk, ht.ct.put hx hok hi (fun q hq hqi hqz hkk => hqi (ht.ct.inj q i hq hi hqz hz (hkk.trans hk.symm))) (fun _ => hk), by rw [hl]; exact ht.cap, ht.lo, ht.hi, rng_with ht.rng hrg⟩
theorem FT.ins {w' : World} {p pb o c room i d : Nat} {ps r : List Ent} {x : Ent} (ht : FT w p pb o c room ps r) (hi : i < ps.length) (hid : i = wk (2 * room) (hmF (2 * room) (eKey x)) d) (hs : Seen (2 * room) ps (hmF (2 * room) (eKey x)) (eKey x) d)
    (hz : pAt ps i = zE) (hno : ∀ e ∈ r, eKey e ≠ eKey x) (hx : x ≠ zE) (hok : x.ok) (hrg : RngE x) (hcap : r.length < room) (hb : FB w' p pb o c (ps.set i x) (r.length + 1)) : FT w' p pb o c room (ps.set i x) (withL r x) := by
  have hl := with_len_new hno
  have hpt : PT (2 * room) (hmF (2 * room)) (ps.set i x) := by
    subst hid
    exact ht.pt.insert hx hs hz
  exact ⟨by rw [hl]; exact hb, by rw [List.length_set]; exact ht.len, hpt, ht.ct.put hx hok hi (fun q hq _ hqz => hno _ ((ht.ct.mem _).2 ⟨hqz, q, hq, rfl⟩)) (fun hne => absurd hz hne), by rw [hl]; omega, ht.lo, ht.hi, rng_with ht.rng hrg⟩

def pp (p pb : Nat) : Nat → Prop := fun b => b = p ∨ b = pb

theorem learn_spec {p pb o c room : Nat} {ps r : List Ent} {v q t : Int} {m : Mac} (ht : FT w p pb o c room ps r) (hv : isI v) (hm : m.ok) (hq : isI q) (htt : isI t)
    (h : ∀ w' ps', FT w' p pb o c room ps' (learnL room r v m q t).1 → Fr (pp p pb) w w' → K (.tuple #[i64 (learnL room r v m q t).2.1, i64 (learnL room r v m q t).2.2]) w') :
    CallsR Tryz.prog 73 #[pt p 0, i64 v, .agg m.cells.toArray, i64 q, i64 t] K w := by
  apply c73
  unfold p73
  simp only [push_cast, Nat.reduceAdd, Nat.reduceLeDiff, Nat.reduceLT, Int.reduceToNat, Nat.left_eq_add, Nat.add_eq_left, Nat.add_left_cancel_iff, Nat.reduceEqDiff, Nat.add_assoc, Nat.succ_ne_zero]
  have hF : Fr none_ w (w.alloc (cellsO m.cells 24)) := (by repeat' first | with_reducible exact Fr.refl _ _ | with_reducible refine Fr.step_alloc ?_ ?_ | with_reducible refine Fr.step_drew ?_ | with_reducible refine Fr.step_wr ?_ ?_ _ _ | exact rfl | exact Or.inr (by omega) | exact Or.inl rfl | exact Or.inl (Or.inl rfl) | exact Or.inl (Or.inr rfl))
  have hm0 : (w.alloc (cellsO m.cells 24)).heap[w.heap.size]? = some (cellsO m.cells 24) := by simp only [push_cast, Nat.reduceAdd, Nat.reduceLeDiff, Nat.reduceLT, Int.reduceToNat, Nat.left_eq_add, Nat.add_eq_left, Nat.add_left_cancel_iff, Nat.reduceEqDiff, Nat.add_assoc, Nat.succ_ne_zero]
  have hlt := ht.fb.lt
  have hmp : w.heap.size ≠ p ∧ w.heap.size ≠ pb := by omega
  replace ht := ht.fr0 hF
  generalize w.alloc (cellsO m.cells 24) = W at *
  generalize w.heap.size = ms at *
  refine right_spec hm fun w2 hF2 => ?_
  replace ht := ht.fr0 hF2
  replace hm0 := hF2.heap hm0 fun h => h
  replace hF := hF.trans hF2
  unfold learnL at h
  simp only [push_cast, Nat.reduceAdd, Nat.reduceLeDiff, Nat.reduceLT, Int.reduceToNat, Nat.left_eq_add, Nat.add_eq_left, Nat.add_left_cancel_iff, Nat.reduceEqDiff, Nat.add_assoc, Nat.succ_ne_zero]
  cases hr : rightB v m q with
  | false =>
    rw [hr, Bool.false_and] at h
    simp only [push_cast, Nat.reduceAdd, Nat.reduceLeDiff, Nat.reduceLT, Int.reduceToNat, Nat.left_eq_add, Nat.add_eq_left, Nat.add_left_cancel_iff, Nat.reduceEqDiff, Nat.add_assoc, Nat.succ_ne_zero, Bool.not_false]
    exact h _ ps ht (hF.mono fun _ _ e => e.elim)
  | true =>
  rw [hr, Bool.true_and] at h
  simp only [push_cast, Nat.reduceAdd, Nat.reduceLeDiff, Nat.reduceLT, Int.reduceToNat, Nat.left_eq_add, Nat.add_eq_left, Nat.add_left_cancel_iff, Nat.reduceEqDiff, Nat.add_assoc, Nat.succ_ne_zero, Bool.not_true]
  refine timed_spec ?_
  simp only [push_cast, Nat.reduceAdd, Nat.reduceLeDiff, Nat.reduceLT, Int.reduceToNat, Nat.left_eq_add, Nat.add_eq_left, Nat.add_left_cancel_iff, Nat.reduceEqDiff, Nat.add_assoc, Nat.succ_ne_zero]
  cases htm : timedB t with
  | false =>
    rw [htm] at h
    simp only [push_cast, Nat.reduceAdd, Nat.reduceLeDiff, Nat.reduceLT, Int.reduceToNat, Nat.left_eq_add, Nat.add_eq_left, Nat.add_left_cancel_iff, Nat.reduceEqDiff, Nat.add_assoc, Nat.succ_ne_zero, Bool.not_false]
    exact h _ ps ht (hF.mono fun _ _ e => e.elim)
  | true =>
  rw [htm, if_pos rfl] at h
  simp only [push_cast, Nat.reduceAdd, Nat.reduceLeDiff, Nat.reduceLT, Int.reduceToNat, Nat.left_eq_add, Nat.add_eq_left, Nat.add_left_cancel_iff, Nat.reduceEqDiff, Nat.add_assoc, Nat.succ_ne_zero, Bool.not_true, hm0]
  have hx : (⟨v, m, q, t, false⟩ : Ent) ≠ zE := right_nz hr
  have hok : (⟨v, m, q, t, false⟩ : Ent).ok := ⟨hv, hm, hq, htt⟩
  have hrg : RngE ⟨v, m, q, t, false⟩ := ⟨hr, htm, fun e => by cases e⟩
  refine ft_find (k := (v, m)) ht ⟨hv, hm⟩ (fun i w3 hi hz hmem hk hF3 => ?_) fun i d w3 hi hid hs hz hno hF3 => ?_
  · rw [atK_some ht.ct.srt hmem hk] at h
    replace ht := ht.fr0 hF3
    replace hm0 := hF3.heap hm0 fun h => h
    replace hF := hF.trans hF3
    simp only [push_cast, Nat.reduceAdd, Nat.reduceLeDiff, Nat.reduceLT, Int.reduceToNat, Nat.left_eq_add, Nat.add_eq_left, Nat.add_left_cancel_iff, Nat.reduceEqDiff, Nat.add_assoc, Nat.succ_ne_zero, ht.fb.blk]
    refine ht.fb.at hi fun b1 o1 he => ?_
    rw [s_ldN (by decide), he.agg0 (Ent.cells_length _), onS_some]
    have hlt3 := ht.fb.lt
    refine ent_slot fun _ w4 hw4 hF4 => ?_
    have hsl : w3.heap.size ≠ pb := by omega
    generalize w3.heap.size = sl at *
    replace ht := ht.fr0 hF4
    replace hm0 := hF4.heap hm0 fun h => h
    replace hF := hF.trans hF4
    simp only [jn_0, push_cast, Nat.reduceAdd, Nat.reduceLeDiff, Nat.reduceLT, Int.reduceToNat, Nat.left_eq_add, Nat.add_eq_left, Nat.add_left_cancel_iff, Nat.reduceEqDiff, Nat.add_assoc, Nat.succ_ne_zero, hw4, ht.fb.blk, hm0]
    refine br_intro (fun hst => ?_) fun hst => ?_
    · simp only [hst, if_true] at h
      exact h _ ps ht (hF.mono fun _ _ e => e.elim)
    simp only [hst, Bool.false_eq_true, if_false] at h
    rw [build_lrn]
    refine s_put (ht.fb.fr0 (Fr.drew w4)) hi hok fun w5 hb5 hF5 => ?_
    have hw5 := hF5.heap ((Fr.drew (fp := none_) w4).heap hw4 fun h => h) hsl
    simp only [push_cast, Nat.reduceAdd, Nat.reduceLeDiff, Nat.reduceLT, Int.reduceToNat, Nat.left_eq_add, Nat.add_eq_left, Nat.add_left_cancel_iff, Nat.reduceEqDiff, Nat.add_assoc, Nat.succ_ne_zero, hw5]
    have ht5 := (ht.fr0 (Fr.drew w4)).upd hi hz (x := ⟨v, m, q, t, false⟩) hk hx hok hrg hb5
    have hF5' : Fr (pp p pb) w w5 := (hF.trans (Fr.drew w4)).mono (fun _ _ e => e.elim) |>.trans_new hF5 fun b _ e => .inr e
    have h' := h w5 _ ht5 hF5'
    refine br_intro (fun hne => ?_) fun hne => ?_
    · rw [if_neg (by simpa using hne)] at h'
      exact h'
    · rw [if_pos (by simpa using hne)] at h'
      exact h'
  · rw [atK_none hno] at h
    replace ht := ht.fr0 hF3
    replace hm0 := hF3.heap hm0 fun h => h
    replace hF := hF.trans hF3
    simp only [push_cast, Nat.reduceAdd, Nat.reduceLeDiff, Nat.reduceLT, Int.reduceToNat, Nat.left_eq_add, Nat.add_eq_left, Nat.add_left_cancel_iff, Nat.reduceEqDiff, Nat.add_assoc, Nat.succ_ne_zero, ht.fb.blk]
    refine ht.fb.at hi fun b1 o1 he => ?_
    rw [s_ldN (by decide), he.agg0 (Ent.cells_length _), onS_some]
    refine ent_slot fun _ w4 hw4 hF4 => ?_
    replace ht := ht.fr0 hF4
    replace hm0 := hF4.heap hm0 fun h => h
    replace hF := hF.trans hF4
    simp only [jn_0, push_cast, Nat.reduceAdd, Nat.reduceLeDiff, Nat.reduceLT, Int.reduceToNat, Nat.left_eq_add, Nat.add_eq_left, Nat.add_left_cancel_iff, Nat.reduceEqDiff, Nat.add_assoc, Nat.succ_ne_zero]
    refine full_spec ht.fb (by have := ht.cap; have := ht.hi; omega) fun w5 hF5 => ?_
    replace ht := ht.fr0 hF5
    replace hm0 := hF5.heap hm0 fun h => h
    replace hF := hF.trans hF5
    simp only [push_cast, Nat.reduceAdd, Nat.reduceLeDiff, Nat.reduceLT, Int.reduceToNat, Nat.left_eq_add, Nat.add_eq_left, Nat.add_left_cancel_iff, Nat.reduceEqDiff, Nat.add_assoc, Nat.succ_ne_zero]
    have hln := ht.len
    refine br_dec (fun hfull => ?_) fun hfull => ?_
    · simp only [if_pos (show room ≤ r.length by omega)] at h
      exact h _ ps ht (hF.mono fun _ _ e => e.elim)
    simp only [if_neg (show ¬ room ≤ r.length by omega)] at h
    simp only [push_cast, Nat.reduceAdd, Nat.reduceLeDiff, Nat.reduceLT, Int.reduceToNat, Nat.left_eq_add, Nat.add_eq_left, Nat.add_left_cancel_iff, Nat.reduceEqDiff, Nat.add_assoc, Nat.succ_ne_zero, ht.fb.blk, hm0]
    rw [build_lrn]
    refine s_put (ht.fb.fr0 (Fr.drew w5)) hi hok fun w6 hb6 hF6 => ?_
    simp only [push_cast, Nat.reduceAdd, Nat.reduceLeDiff, Nat.reduceLT, Int.reduceToNat, Nat.left_eq_add, Nat.add_eq_left, Nat.add_left_cancel_iff, Nat.reduceEqDiff, Nat.add_assoc, Nat.succ_ne_zero, hb6.blk]
    have hcap := ht.cap
    have hhi := ht.hi
    have hrw : IntKind.i64.wrap ((r.length : Int) + 1) = ((r.length + 1 : Nat) : Int) := by
      rw [wrap_i64 (by omega)]; simp
    rw [hrw]
    have ht7 := (ht.fr0 (Fr.drew w5)).ins hi (x := ⟨v, m, q, t, false⟩) hid hs hz hno hx hok hrg (by omega) (hb6.many (m' := r.length + 1))
    exact h _ _ ht7 (((hF.trans (Fr.drew w5)).mono (fun _ _ e => e.elim) |>.trans_new hF6 fun b _ e => .inr e).step_wr (.inl (.inl rfl)) _ _)

theorem look_spec {p pb o c room : Nat} {ps r : List Ent} {v : Int} {m : Mac} (ht : FT w p pb o c room ps r) (hv : isI v) (hm : m.ok)
    (h : ∀ w', Fr none_ w w' → K (.tuple #[.agg (lookL r (v, m)).1.cells.toArray, .bool (lookL r (v, m)).2]) w') :
    CallsR Tryz.prog 15 #[pt p 0, i64 v, .agg m.cells.toArray] K w := by
  apply c15
  unfold p15
  rw [opS_box]
  show opS Tryz.prog (S.alloc 40) _ (w.alloc (cellsO m.cells 24))
  have hF1 : Fr none_ w (w.alloc (cellsO m.cells 24)) := (by repeat' first | with_reducible exact Fr.refl _ _ | with_reducible refine Fr.step_alloc ?_ ?_ | with_reducible refine Fr.step_drew ?_ | with_reducible refine Fr.step_wr ?_ ?_ _ _ | exact rfl | exact Or.inr (by omega) | exact Or.inl rfl | exact Or.inl (Or.inl rfl) | exact Or.inl (Or.inr rfl))
  have hm0 : (w.alloc (cellsO m.cells 24)).heap[w.heap.size]? = some (cellsO m.cells 24) := by simp only [push_cast, Nat.reduceAdd, Nat.reduceLeDiff, Nat.reduceLT, Int.reduceToNat, Nat.left_eq_add, Nat.add_eq_left, Nat.add_left_cancel_iff, Nat.reduceEqDiff, Nat.add_assoc, Nat.succ_ne_zero]
  have hsz : w.heap.size < (w.alloc (cellsO m.cells 24)).heap.size := lt_of_heap hm0
  replace ht := ht.fr0 hF1
  generalize w.alloc (cellsO m.cells 24) = W at *
  rw [zalloc_ent]
  have hF2 : Fr none_ W (W.alloc (cellsO zE.cells 40)) := (by repeat' first | with_reducible exact Fr.refl _ _ | with_reducible refine Fr.step_alloc ?_ ?_ | with_reducible refine Fr.step_drew ?_ | with_reducible refine Fr.step_wr ?_ ?_ _ _ | exact rfl | exact Or.inr (by omega) | exact Or.inl rfl | exact Or.inl (Or.inl rfl) | exact Or.inl (Or.inr rfl))
  have hz0 : (W.alloc (cellsO zE.cells 40)).heap[W.heap.size]? = some (cellsO zE.cells 40) := by simp only [push_cast, Nat.reduceAdd, Nat.reduceLeDiff, Nat.reduceLT, Int.reduceToNat, Nat.left_eq_add, Nat.add_eq_left, Nat.add_left_cancel_iff, Nat.reduceEqDiff, Nat.add_assoc, Nat.succ_ne_zero]
  replace hm0 := hF2.heap hm0 fun h => h
  replace ht := ht.fr0 hF2
  have hF := hF1.trans hF2
  generalize W.alloc (cellsO zE.cells 40) = w1 at *
  have hwW := hF1.size
  generalize W.heap.size = sl at *
  simp only [push_cast, Nat.reduceAdd, Nat.reduceLeDiff, Nat.reduceLT, Int.reduceToNat, Nat.left_eq_add, Nat.add_eq_left, Nat.add_left_cancel_iff, Nat.reduceEqDiff, Nat.add_assoc, Nat.succ_ne_zero, hm0]
  unfold lookL at h
  have fin : ∀ {i : Nat} {w3 : World} {b : Bool}, i < ps.length → Fr none_ w1 w3 → (∀ w', Fr none_ w w' → K (.tuple #[.agg (pAt ps i).cells.toArray, .bool b]) w') → opS Tryz.prog (S.nc (pt p 0)) (fun x9 => opS Tryz.prog (S.fa 87 x9 0) fun x10 => opS Tryz.prog (S.ld 51 x10) fun x11 => opS Tryz.prog (S.ia 51 x11 (i64 (i : Nat))) fun x12 => opS Tryz.prog (S.ld 40 x12) fun x13 => opS Tryz.prog (S.st 40 (pt sl 0) x13) fun _ => opS Tryz.prog (S.ld 40 (pt sl 0)) fun x15 => K (.tuple #[x15, .bool b])) w3 := by
    intro i w3 b hi hF3 hk
    have ht3 := ht.fr0 hF3
    have hz3 := hF3.heap hz0 fun h => h
    simp only [push_cast, Nat.reduceAdd, Nat.reduceLeDiff, Nat.reduceLT, Int.reduceToNat, Nat.left_eq_add, Nat.add_eq_left, Nat.add_left_cancel_iff, Nat.reduceEqDiff, Nat.add_assoc, Nat.succ_ne_zero, ht3.fb.blk]
    refine ht3.fb.at hi fun b1 o1 he => ?_
    rw [s_ldN (by decide), he.agg0 (Ent.cells_length _), onS_some, s_stA _ _ _ (Ent.cells_length _) (Ent.cells_one _)]
    simp only [push_cast, Nat.reduceAdd, Nat.reduceLeDiff, Nat.reduceLT, Int.reduceToNat, Nat.left_eq_add, Nat.add_eq_left, Nat.add_left_cancel_iff, Nat.reduceEqDiff, Nat.add_assoc, Nat.succ_ne_zero, hz3]
    exact hk _ ((hF.trans hF3).step_wr (.inr (by omega)) _ _)
  refine ft_find (k := (v, m)) ht ⟨hv, hm⟩ (fun i w3 hi hz hmem hk hF3 => ?_) fun i d w3 hi hid hs hz hno hF3 => ?_
  · rw [atK_some ht.ct.srt hmem hk] at h
    simp only [s_ext, List.getElem?_toArray, List.getElem?_cons_zero, List.getElem?_cons_succ, onS_some]
    exact fin hi hF3 h
  · rw [atK_none hno] at h
    simp only [s_ext, List.getElem?_toArray, List.getElem?_cons_zero, List.getElem?_cons_succ, onS_some]
    rw [← hz] at h
    exact fin hi hF3 h

theorem remove_spec {p pb o c room : Nat} {ps r : List Ent} {v : Int} {m : Mac} (ht : FT w p pb o c room ps r) (hv : isI v) (hm : m.ok)
    (h : ∀ w' ps', FT w' p pb o c room ps' (removeL r (v, m)).1 → Fr (pp p pb) w w' → K (.bool (removeL r (v, m)).2) w') :
    CallsR Tryz.prog 119 #[pt p 0, i64 v, .agg m.cells.toArray] K w := by
  apply c119
  unfold p119
  simp only [push_cast, Nat.reduceAdd, Nat.reduceLeDiff, Nat.reduceLT, Int.reduceToNat, Nat.left_eq_add, Nat.add_eq_left, Nat.add_left_cancel_iff, Nat.reduceEqDiff, Nat.add_assoc, Nat.succ_ne_zero]
  have hF : Fr none_ w (w.alloc (cellsO m.cells 24)) := (by repeat' first | with_reducible exact Fr.refl _ _ | with_reducible refine Fr.step_alloc ?_ ?_ | with_reducible refine Fr.step_drew ?_ | with_reducible refine Fr.step_wr ?_ ?_ _ _ | exact rfl | exact Or.inr (by omega) | exact Or.inl rfl | exact Or.inl (Or.inl rfl) | exact Or.inl (Or.inr rfl))
  replace ht := ht.fr0 hF
  generalize w.alloc (cellsO m.cells 24) = W at *
  unfold removeL at h
  refine ft_find (k := (v, m)) ht ⟨hv, hm⟩ (fun i w3 hi hz hmem hk hF3 => ?_) fun i d w3 hi hid hs hz hno hF3 => ?_
  · rw [atK_some ht.ct.srt hmem hk] at h
    replace ht := ht.fr0 hF3
    simp only [push_cast, Nat.reduceAdd, Nat.reduceLeDiff, Nat.reduceLT, Int.reduceToNat, Nat.left_eq_add, Nat.add_eq_left, Nat.add_left_cancel_iff, Nat.reduceEqDiff, Nat.add_assoc, Nat.succ_ne_zero]
    refine take_spec ht hi hz fun w4 ps4 ht4 hF4 => ?_
    exact h _ ps4 ht4 ((hF.trans hF3).mono (fun _ _ e => e.elim) |>.trans_new hF4 fun b _ e => e)
  · rw [atK_none hno] at h
    simp only [push_cast, Nat.reduceAdd, Nat.reduceLeDiff, Nat.reduceLT, Int.reduceToNat, Nat.left_eq_add, Nat.add_eq_left, Nat.add_left_cancel_iff, Nat.reduceEqDiff, Nat.add_assoc, Nat.succ_ne_zero]
    exact h _ ps (ht.fr0 hF3) ((hF.trans hF3).mono fun _ _ e => e.elim)

theorem atK_with {r : List Ent} (h : Srt r) {x : Ent} (hx : x.ok) (k : Key) : atK (withL r x) k = if eKey x = k then some x else atK r k := by
  have hw := h.with hx
  by_cases e : eKey x = k
  · rw [if_pos e]
    exact atK_some hw (mem_with.2 (.inl rfl)) e
  · rw [if_neg e]
    cases ha : atK r k with
    | some y =>
      obtain ⟨h1, h2⟩ := atK_mem ha
      exact atK_some hw (mem_with.2 (.inr ⟨h1, fun h3 => e (h3.symm.trans h2)⟩)) h2
    | none =>
      refine atK_none fun y hy hk => ?_
      rcases mem_with.1 hy with rfl | hy
      · exact e hk
      · exact atK_no ha y hy.1 hk

theorem learn_at {room : Nat} {r : List Ent} {v p t : Int} {m : Mac} (h : Srt r) (hv : isI v) (hm : m.ok) (hp : isI p) (ht : isI t) {k : Key} (hk : k ≠ (v, m)) : atK (learnL room r v m p t).1 k = atK r k := by
  have hx : (⟨v, m, p, t, false⟩ : Ent).ok := ⟨hv, hm, hp, ht⟩
  have hw : atK (withL r ⟨v, m, p, t, false⟩) k = atK r k := by
    rw [atK_with h hx, if_neg]
    exact fun e => hk e.symm
  unfold learnL
  split
  · split
    · split
      · rfl
      · exact hw
    · split
      · rfl
      · exact hw
  · rfl

/-- what learning comes to, where it is taken -/
theorem learn_ok {room : Nat} {r : List Ent} {v p t : Int} {m : Mac} (h : Srt r) (hv : isI v) (hm : m.ok) (hp : isI p) (ht : isI t) (he : (learnL room r v m p t).2.2 = 0) :
    ∃ x, atK (learnL room r v m p t).1 (v, m) = some x ∧ ((x.static = true ∧ (learnL room r v m p t).2.1 = 0) ∨ (x.port = p ∧ x.at_ = t)) := by
  have hx : (⟨v, m, p, t, false⟩ : Ent).ok := ⟨hv, hm, hp, ht⟩
  have hw : atK (withL r ⟨v, m, p, t, false⟩) (v, m) = some ⟨v, m, p, t, false⟩ := by
    rw [atK_with h hx]
    exact if_pos rfl
  unfold learnL at he ⊢
  split at he
  · rename_i hc
    rw [if_pos hc]
    split at he
    · rename_i e ha
      split at he
      · rename_i hst
        simp only [ha, hst, if_true]
        exact ⟨e, rfl, .inl ⟨hst, by simp⟩⟩
      · rename_i hst
        simp only [ha, hst, if_false]
        exact ⟨_, hw, .inr ⟨rfl, rfl⟩⟩
    · rename_i ha
      split at he
      · cases he
      · rename_i hfull
        simp only [ha, if_neg hfull]
        exact ⟨_, hw, .inr ⟨rfl, rfl⟩⟩
  · cases he
theorem learn_no {room : Nat} {r : List Ent} {v p t : Int} {m : Mac} (he : (learnL room r v m p t).2.2 ≠ 0) :
    (learnL room r v m p t).1 = r ∧ (learnL room r v m p t).2.1 = 0 ∧ ((learnL room r v m p t).2.2 = 1 ∨ ((learnL room r v m p t).2.2 = 3 ∧ room ≤ r.length ∧ atK r (v, m) = none)) := by
  unfold learnL at he ⊢
  split at he
  · rename_i hc
    rw [if_pos hc]
    split at he
    · rename_i e ha
      split at he
      · exact absurd rfl he
      · exact absurd rfl he
    · rename_i ha
      split at he
      · rename_i hfull
        simp only [ha, if_pos hfull]
        simp [hfull]
      · exact absurd rfl he
  · rename_i hc
    rw [if_neg hc]
    simp

theorem pAt_rep (n i : Nat) : pAt (List.replicate n zE) i = zE := by
  by_cases h : i < n
  · rw [pAt_eq (by simpa using h), List.getElem_replicate]
  · rw [pAt_ge (by simpa using h)]

theorem pnew_spec (room : Int) (h0 : room < 1 ∨ 1024 < room → K (.tuple #[.pointer none, i64 1]) w)
    (h1 : 1 ≤ room → room ≤ 1024 → ∀ (p pb o c : Nat) (ps : List Ent) (w' : World), FT w' p pb o c room.toNat ps [] → Fr none_ w w' → w.heap.size ≤ p → w.heap.size ≤ pb → K (.tuple #[pt p 0, i64 0]) w') :
    CallsR Tryz.prog 51 #[i64 room] K w := by
  apply c51
  unfold p51
  simp only [push_cast, Nat.reduceAdd, Nat.reduceLeDiff, Nat.reduceLT, Int.reduceToNat, Nat.left_eq_add, Nat.add_eq_left, Nat.add_left_cancel_iff, Nat.reduceEqDiff, Nat.add_assoc, Nat.succ_ne_zero]
  refine br_dec (fun ha => h0 (.inl ha)) fun ha => ?_
  refine br_dec (fun hb => h0 (.inr hb)) fun hb => ?_
  obtain ⟨n, rfl⟩ : ∃ n : Nat, room = n := ⟨room.toNat, by omega⟩
  simp only [Int.toNat_natCast] at h1
  rw [wrap_i64 (by omega)]
  rw [opS_mks _ _ _ (by omega) (by omega) (by omega) (by rfl) (by decide)]
  have e2 : (2 * (n : Int)).toNat = 2 * n := by omega
  rw [e2]
  simp only [push_cast, Nat.reduceAdd, Nat.reduceLeDiff, Nat.reduceLT, Int.reduceToNat, Nat.left_eq_add, Nat.add_eq_left, Nat.add_left_cancel_iff, Nat.reduceEqDiff, Nat.add_assoc, Nat.succ_ne_zero]
  rw [opS_build _ rfl]
  simp only [push_cast, Nat.reduceAdd, Nat.reduceLeDiff, Nat.reduceLT, Int.reduceToNat, Nat.left_eq_add, Nat.add_eq_left, Nat.add_left_cancel_iff, Nat.reduceEqDiff, Nat.add_assoc, Nat.succ_ne_zero]
  refine h1 (by omega) (by omega) (w.heap.size + 1) w.heap.size 0 (2 * n) (List.replicate (2 * n) zE) ((w.alloc _).alloc _) ⟨⟨?_, ?_, by omega, fun e he => ?_⟩, List.length_replicate, ⟨List.length_replicate, by omega, fun k => hmF_lt (by omega) k, fun p _ hz => absurd (pAt_rep _ _) hz, fun p _ _ _ hz => absurd (pAt_rep _ _) hz⟩, ⟨Srt.nil, fun _ h => (by cases h), fun e => ⟨fun h => (by cases h), fun ⟨h1, p, _, h2⟩ => absurd ((pAt_rep (2 * n) p).symm.trans h2).symm h1⟩, fun p _ _ _ hz => absurd (pAt_rep _ _) hz⟩, Nat.zero_le _, by omega, by omega, fun _ h => by cases h⟩ ?_ (by omega) (by omega)
  · simp only [push_cast, Nat.reduceAdd, Nat.reduceLeDiff, Nat.reduceLT, Int.reduceToNat, Nat.left_eq_add, Nat.add_eq_left, Nat.add_left_cancel_iff, Nat.reduceEqDiff, Nat.add_assoc, Nat.succ_ne_zero, List.length_replicate]; rfl
  · have hzl : (zeros (2 * n) zE.cells).length = 2 * n * 10 := by rw [zeros_length]; rfl
    rw [List.length_replicate, List.map_replicate]
    refine ⟨.inr ⟨w.heap.size, 0, 2 * n, (zeros (2 * n) zE.cells).toArray, by rw [List.length_replicate], ?_, by rw [List.length_replicate]; exact Nat.le_refl _, ?_, ?_⟩, fun e he => ?_⟩
    · simp only [push_cast, Nat.reduceAdd, Nat.reduceLeDiff, Nat.reduceLT, Int.reduceToNat, Nat.left_eq_add, Nat.add_eq_left, Nat.add_left_cancel_iff, Nat.reduceEqDiff, Nat.add_assoc, Nat.succ_ne_zero]
      rfl
    · rw [List.size_toArray, hzl]; omega
    · rw [List.length_replicate, List.drop_zero, List.take_of_length_le (by rw [hzl]; exact Nat.le_refl _)]; rfl
    · rw [List.eq_of_mem_replicate he]; rfl
  · rw [List.eq_of_mem_replicate he]; exact zE_ok
  · exact ((Fr.refl _ _).step_alloc rfl).step_alloc rfl

end Go.Gx.S
end

section
/- A part of a slice is cleared; less of what one holds. -/
namespace Go.Gx
open Go
section
variable {P : Program} {K : Value → World → Prop} {w : World}

theorem OwnE.less {E sz b o c : Nat} {es : List (List Value)} (h : OwnE E sz w (.slice (some ⟨b, o, none⟩) es.length c) es) {m : Nat} (hm : m ≤ es.length) : OwnE E sz w (.slice (some ⟨b, o, none⟩) m c) (es.take m) := by
  obtain ⟨h1, h2⟩ := h
  have hlen : (es.take m).length = m := by rw [List.length_take]; omega
  refine ⟨?_, fun e he => h2 e (List.mem_of_mem_take he)⟩
  rcases h1 with ⟨h1, _⟩ | ⟨b', o', c', cs, hv, hb, hc, ho, hl⟩
  · cases h1
  · simp only [Value.slice.injEq, Option.some.injEq, Addr.mk.injEq, and_true, true_and] at hv
    obtain ⟨⟨rfl, rfl⟩, rfl⟩ := hv
    refine .inr ⟨b, o, c, cs, by rw [hlen], hb, by rw [hlen]; omega, ho, ?_⟩
    rw [hlen, ← flatten_take m h2, hl, List.take_take, Nat.min_eq_left (Nat.mul_le_mul_right _ hm)]

theorem splice_before {l k : List Value} {o a : Nat} (h : o + a ≤ l.length) : ((splice l (o + a) k).drop o).take a = (l.drop o).take a := by
  unfold splice
  have hlt : (l.take (o + a)).length = o + a := by rw [List.length_take]; omega
  rw [List.append_assoc, List.drop_append_of_le_length (by omega), List.take_append_of_le_length (by rw [List.length_drop]; omega), List.drop_take]
  have : o + a - o = a := by omega
  rw [this, List.take_take, Nat.min_self]

theorem s_slcClear {T E sz : Nat} {ag : Bool} {z : Value} {ty : TypeId} [hT : SlT P T E] [hs : Sz P E sz ag] [hz : ZV P E z] {b o c : Nat} {es : List (List Value)} {R : Value → World → Prop} (hzn : z.cells.size = sz) (hzo : z.cells.toList.all S.oneCell = true)
    (h : OwnE E sz w (.slice (some ⟨b, o, none⟩) es.length c) es) {i : Nat} (hi : i ≤ es.length) (hK : ∀ w', OwnE E sz w' (.slice (some ⟨b, o, none⟩) i c) (es.take i) → Fr (fun x => x = b) w w' → R (.tuple #[]) w') :
    opS P (S.slc T (.slice (some ⟨b, o, none⟩) es.length c) (some (.int .i64 i)) none none) (fun x => opS P (S.bi .clear #[T] ty [x]) R) w := by
  have hless := h.less hi
  obtain ⟨h1, h2⟩ := h
  rcases h1 with ⟨h1, _⟩ | ⟨b', o', c', cs, hv, hb, hc, ho, hl⟩
  · cases h1
  simp only [Value.slice.injEq, Option.some.injEq, Addr.mk.injEq, and_true, true_and] at hv
  obtain ⟨⟨rfl, rfl⟩, rfl⟩ := hv
  rw [opS_slice (run_boundsL (lo := (i : Int)) (by omega) (by omega)), Int.toNat_natCast]
  show opS P (do pure (Next.value (← Builtin.clear_ #[T] ty #[.slice _ (es.length - i) (c - i)]))) R w
  rw [opS_bind]
  unfold Builtin.clear_
  simp only [List.getElem?_toArray, List.getElem?_cons_zero]
  rw [Sem.run_bind, run_underlying_of hT.und, Result.andThen_ok]
  by_cases e : i = es.length
  · subst e
    have hF : R (.tuple #[]) w := hK w hless (Fr.refl _ _)
    have e0 : es.length - es.length = 0 := Nat.sub_self _
    rw [e0]
    generalize (if c = es.length then some (⟨b, o, none⟩ : Addr) else Option.map (fun x : Addr => x.add (es.length * sz)) (some ⟨b, o, none⟩)) = q
    cases q <;> exact hF
  · have hci : c ≠ i := by omega
    rw [if_neg hci]
    obtain ⟨k, hk⟩ : ∃ k, es.length - i = k + 1 := ⟨es.length - i - 1, by omega⟩
    rw [hk]
    simp only [Option.map_some, add_none]
    rw [Sem.run_bind, hz.zero w, Result.andThen_ok, run_zeroCells_ok, Sem.run_bind]
    have hzl : (zeros (k + 1) z.cells.toList).length = (k + 1) * sz := by rw [zeros_length]; congr 1
    have hzo' : (zeros (k + 1) z.cells.toList).all S.oneCell = true := by
      rw [List.all_eq_true] at hzo ⊢
      intro x hx
      unfold zeros at hx
      obtain ⟨y, hy, hx⟩ := List.mem_flatten.1 hx
      rw [List.eq_of_mem_replicate hy] at hx
      exact hzo x hx
    have hm1 : i * sz + (k + 1) * sz = es.length * sz := by rw [← Nat.add_mul]; congr 1; omega
    have hm2 : es.length * sz ≤ c * sz := Nat.mul_le_mul_right _ hc
    have hst := run_storeCells (P := P) (zeros (k + 1) z.cells.toList) w cs 0 (o + i * sz) hb hzo' (by rw [hzl]; omega) (fun j hj => by simp)
    simp only [Nat.add_zero] at hst
    rw [hst, Result.andThen_ok]
    have hlen : (es.take i).length = i := by rw [List.length_take]; omega
    have hsame : (upd w b (.cells (splice cs.toList (o + i * sz) (zeros (k + 1) z.cells.toList)).toArray E (0, 0))).heap[b]? = some (.cells (splice cs.toList (o + i * sz) (zeros (k + 1) z.cells.toList)).toArray E (0, 0)) := heap_upd_same (by rw [hb]; rfl)
    have hcl : cs.toList.length = cs.size := Array.length_toList
    refine hK _ ⟨.inr ⟨b, o, c, _, by rw [hlen], hsame, by rw [hlen]; omega, ?_, ?_⟩, fun e he => h2 e (List.mem_of_mem_take he)⟩ (Fr.upd hb _ _ rfl)
    · rw [List.size_toArray, splice_length (by rw [hzl]; omega)]; omega
    · rw [hlen]
      show _ = List.take _ (List.drop o (splice cs.toList (o + i * sz) _))
      rw [splice_before (by omega), ← flatten_take i h2, hl, List.take_take, Nat.min_eq_left (by omega)]

theorem opS_slcHo {T E sz : Nat} {ag : Bool} [hT : SlT P T E] [hs : Sz P E sz ag] {b o n c k : Nat} (hk : k ≤ c) : opS P (S.slc T (.slice (some ⟨b, o, none⟩) n c) none (some (.int .i64 k)) none) K w = K (.slice (some ⟨b, o, none⟩) k c) w := by
  rw [opS_slice (run_boundsH (hi := (k : Int)) (by omega) (by omega)), Int.toNat_natCast]
  have e : (if c = 0 then some (⟨b, o, none⟩ : Addr) else Option.map (fun x : Addr => x.add (0 * sz)) (some ⟨b, o, none⟩)) = some ⟨b, o, none⟩ := by
    split
    · rfl
    · show some (Addr.add _ _) = _
      rw [add_none, Nat.zero_mul, Nat.add_zero]
  rw [e]
  rfl
theorem OwnE.form' {E sz : Nat} {v : Value} {es : List (List Value)} (h : OwnE E sz w v es) (hn : 0 < es.length) : ∃ b o c, v = .slice (some ⟨b, o, none⟩) es.length c := by
  rcases h.1 with ⟨_, h1, _⟩ | ⟨b, o, c, cs, h1, _⟩
  · omega
  · exact ⟨b, o, c, h1⟩
end
end Go.Gx
end

section
/- Contracts of the library's functions, laid at this program. -/
namespace Go.Proofs
open Go.Shelf
def Tryz.sortE_ren : Go.Shelf.Ren := ⟨fun | 6 => 44 | 15 => 80 | 14 => 79 | 28 => 110 | 29 => 111 | 20 => 102 | 21 => 103 | 22 => 104 | 23 => 105 | 24 => 106 | 25 => 107 | 26 => 108 | 27 => 109 | 46 => 123 | 47 => 124 | 48 => 125 | 49 => 126 | 50 => 127 | 57 => 131 | n => n, fun | 22 => 51 | 24 => 40 | 25 => 100 | 3 => 3 | 39 => 137 | 0 => 0 | 53 => 161 | 55 => 149 | 4 => 4 | 46 => 155 | 45 => 154 | 50 => 84 | 5 => 5 | 9 => 9 | 66 => 164 | 70 => 168 | 76 => 171 | 77 => 77 | n => n, fun | n => n⟩
theorem Tryz.sortE : Go.Proofs.SlLaysF0.n6 Tryz.prog Tryz.sortE_ren := {
  mixed := by kernel_rfl
  f6 := ⟨Tryz.f44.name, by decide, Tryz.func44.trans (congrArg some (by kernel_rfl))⟩
  f14 := ⟨Tryz.f79.name, by decide, Tryz.func79.trans (congrArg some (by kernel_rfl))⟩
  f15 := Tryz.func80.trans (congrArg some (by kernel_rfl))
  f20 := ⟨Tryz.f102.name, by decide, Tryz.func102.trans (congrArg some (by kernel_rfl))⟩
  f21 := ⟨Tryz.f103.name, by decide, Tryz.func103.trans (congrArg some (by kernel_rfl))⟩
  f22 := ⟨Tryz.f104.name, by decide, Tryz.func104.trans (congrArg some (by kernel_rfl))⟩
  f23 := ⟨Tryz.f105.name, by decide, Tryz.func105.trans (congrArg some (by kernel_rfl))⟩
  f24 := ⟨Tryz.f106.name, by decide, Tryz.func106.trans (congrArg some (by kernel_rfl))⟩
  f25 := ⟨Tryz.f107.name, by decide, Tryz.func107.trans (congrArg some (by kernel_rfl))⟩
  f26 := ⟨Tryz.f108.name, by decide, Tryz.func108.trans (congrArg some (by kernel_rfl))⟩
  f27 := ⟨Tryz.f109.name, by decide, Tryz.func109.trans (congrArg some (by kernel_rfl))⟩
  f28 := Tryz.func110.trans (congrArg some (by kernel_rfl))
  f29 := Tryz.func111.trans (congrArg some (by kernel_rfl))
  f46 := ⟨Tryz.f123.name, by decide, Tryz.func123.trans (congrArg some (by kernel_rfl))⟩
  f47 := Tryz.func124.trans (congrArg some (by kernel_rfl))
  f48 := Tryz.func125.trans (congrArg some (by kernel_rfl))
  f49 := ⟨Tryz.f126.name, by decide, Tryz.func126.trans (congrArg some (by kernel_rfl))⟩
  f50 := ⟨Tryz.f127.name, by decide, Tryz.func127.trans (congrArg some (by kernel_rfl))⟩
  f57 := ⟨Tryz.f131.name, by decide, Tryz.func131.trans (congrArg some (by kernel_rfl))⟩
  t0 := Tryz.underlying0
  a0 := Tryz.isAgg0
  z0 := Tryz.sizeOf0
  v0 := Tryz.zeroValue0
  t3 := Tryz.underlying3
  a3 := Tryz.isAgg3
  z3 := Tryz.sizeOf3
  v3 := Tryz.zeroValue3
  t4 := Tryz.underlying4
  a4 := Tryz.isAgg4
  z4 := Tryz.sizeOf4
  v4 := Tryz.zeroValue4
  t5 := Tryz.underlying5
  a5 := Tryz.isAgg5
  z5 := Tryz.sizeOf5
  v5 := Tryz.zeroValue5
  t9 := Tryz.underlying9
  a9 := Tryz.isAgg9
  z9 := Tryz.sizeOf9
  v9 := Tryz.zeroValue9
  t22 := Tryz.underlying51
  a22 := Tryz.isAgg51
  z22 := Tryz.sizeOf51
  v22 := Tryz.zeroValue51
  t25 := Tryz.underlying100
  a25 := Tryz.isAgg100
  z25 := Tryz.sizeOf100
  v25 := Tryz.zeroValue100
  t39 := Tryz.underlying137
  a39 := Tryz.isAgg137
  z39 := Tryz.sizeOf137
  v39 := Tryz.zeroValue137
  t45 := Tryz.underlying154
  a45 := Tryz.isAgg154
  z45 := Tryz.sizeOf154
  v45 := Tryz.zeroValue154
  t46 := Tryz.underlying155
  a46 := Tryz.isAgg155
  z46 := Tryz.sizeOf155
  v46 := Tryz.zeroValue155
  t50 := Tryz.underlying84
  a50 := Tryz.isAgg84
  z50 := Tryz.sizeOf84
  v50 := Tryz.zeroValue84
  t53 := Tryz.underlying161
  a53 := Tryz.isAgg161
  z53 := Tryz.sizeOf161
  v53 := Tryz.zeroValue161
  t55 := Tryz.underlying149
  a55 := Tryz.isAgg149
  z55 := Tryz.sizeOf149
  v55 := Tryz.zeroValue149
  t66 := Tryz.underlying164
  a66 := Tryz.isAgg164
  z66 := Tryz.sizeOf164
  v66 := Tryz.zeroValue164
  t70 := Tryz.underlying168
  a70 := Tryz.isAgg168
  z70 := Tryz.sizeOf168
  v70 := Tryz.zeroValue168
  t76 := Tryz.underlying171
  a76 := Tryz.isAgg171
  z76 := Tryz.sizeOf171
  v76 := Tryz.zeroValue171
  t77 := Tryz.underlying77
  a77 := Tryz.isAgg77
  z77 := Tryz.sizeOf77
  v77 := Tryz.zeroValue77 }
end Go.Proofs
-- 18136676741377fc449b03e974bd7ed97709f6590364bc5831cbd88923beb8fe
end
