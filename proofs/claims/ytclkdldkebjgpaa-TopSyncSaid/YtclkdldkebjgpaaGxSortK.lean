/- Rows of structs that are sorted by a function. -/
import Derived.Test.YtclkdldkebjgpaaGxSort
import Derived.Shelf.SlSortCmp.WholeK
import Derived.Shelf.SlSortCmp.NoneTotal
namespace Go.Gx
open Go Go.Sort Go.Proofs
variable {P : Program} {K : Value → World → Prop} {w : World}

/-- draws, and new blocks: nothing else -/
def Gr (w w' : World) : Prop := ∃ q os, w' = grow (w.drewN q) os
theorem Gr.refl (w : World) : Gr w w := ⟨0, #[], by rw [grow_empty]; rfl⟩
theorem Gr.step_alloc {w w' : World} (h : Gr w w') (o : Obj) : Gr w (w'.alloc o) := by
  obtain ⟨q, os, rfl⟩ := h
  exact ⟨q, os ++ #[o], by rw [alloc_eq_grow, grow_grow]⟩
theorem Gr.step_drew {w w' : World} (h : Gr w w') : Gr w w'.drew := by
  obtain ⟨q, os, rfl⟩ := h
  exact ⟨q + 1, os, by rw [drew_grow]; rfl⟩
theorem Gr.trans {w w' w'' : World} (h : Gr w w') (h' : Gr w' w'') : Gr w w'' := by
  obtain ⟨q, os, rfl⟩ := h
  obtain ⟨q', os', rfl⟩ := h'
  refine ⟨q + q', os ++ os', ?_⟩
  show grow ((grow (w.drewN q) os).drewN q') os' = _
  rw [← grow_grow]
  have : (grow (w.drewN q) os).drewN q' = grow (w.drewN (q + q')) os := by
    unfold grow World.drewN
    simp [Nat.add_assoc]
  rw [this]
theorem Gr.heap {w w' : World} (h : Gr w w') {b : Nat} {o : Obj} (hb : w.heap[b]? = some o) : w'.heap[b]? = some o := by
  obtain ⟨q, os, rfl⟩ := h
  show (w.heap ++ os)[b]? = _
  rw [Array.getElem?_append_left (lt_of_heap hb)]
  exact hb
theorem Gr.fr {w w' : World} (h : Gr w w') : Fr none_ w w' := by
  obtain ⟨q, os, rfl⟩ := h
  refine ⟨?_, fun x hx hn => ?_, fun a ha => ?_, rfl, rfl, rfl⟩
  · show w.heap.size ≤ (w.heap ++ os).size
    rw [Array.size_append]; omega
  · show (w.heap ++ os)[x]? = _
    rw [Array.getElem?_append_left hx]
  · rw [frozen_eq, frozen_eq]
    show (match (w.heap ++ os)[a.block]? with | some (.cells _ _ fz) => (decide (fz.1 ≤ a.off) && decide (a.off < fz.2)) | _ => false) = _
    rw [Array.getElem?_append_left ha]
    rfl

theorem flatten_at {k : Nat} (hk0 : 0 < k) : ∀ {l : List (List Value)} (_ : ∀ x ∈ l, x.length = k) (t : Nat), l.flatten[t]? = (l[t / k]?).bind fun x => x[t % k]?
  | [], _, t => by simp
  | x :: l, h, t => by
    rw [List.flatten_cons]
    have hx := h x (List.mem_cons_self ..)
    by_cases ht : t < k
    · rw [List.getElem?_append_left (by omega), Nat.div_eq_of_lt ht, Nat.mod_eq_of_lt ht]
      rfl
    · rw [List.getElem?_append_right (by omega), hx, flatten_at hk0 (fun y hy => h y (List.mem_cons_of_mem _ hy)) (t - k)]
      have e1 : t / k = (t - k) / k + 1 := by
        have := Nat.add_div_right (t - k) hk0
        rw [Nat.sub_add_cancel (by omega)] at this
        omega
      have e2 : (t - k) % k = t % k := by
        have := Nat.add_mod_right (t - k) k
        rw [Nat.sub_add_cancel (by omega)] at this
        exact this.symm
      rw [e1, e2, List.getElem?_cons_succ]

theorem flatK_list {α : Type} [Inhabited α] {enc : α → List Value} {k : Nat} (hk0 : 0 < k) (hk : ∀ x, (enc x).length = k) (d : Array α) : (flatK enc k d).toList = (d.toList.map enc).flatten := by
  apply List.ext_getElem?
  intro t
  rw [flatten_at hk0 (fun x hx => by obtain ⟨y, _, rfl⟩ := List.mem_map.1 hx; exact hk y)]
  by_cases ht : t < d.size * k
  · have hs : t < (flatK enc k d).toList.length := by rw [Array.length_toList, size_flatK]; exact ht
    have hq : t / k < d.size := Nat.div_lt_of_lt_mul (by rw [Nat.mul_comm]; exact ht)
    have hr : t % k < k := Nat.mod_lt _ hk0
    rw [Array.getElem?_toList, List.getElem?_map, Array.getElem?_toList]
    have h1 := get_flatK enc k d t ht
    have hs' : t < (flatK enc k d).size := by rw [size_flatK]; exact ht
    rw [getElem!_pos _ t hs', getElem!_pos d (t / k) hq] at h1
    rw [Array.getElem?_eq_getElem hs', h1, Array.getElem?_eq_getElem hq]
    simp only [Option.map_some, Option.bind_some]
    rw [List.getElem?_eq_getElem (by rw [hk]; exact hr), getElem!_pos _ (t % k) (by rw [hk]; exact hr)]
  · have h1 : (flatK enc k d).toList[t]? = none := by rw [List.getElem?_eq_none]; rw [Array.length_toList, size_flatK]; omega
    have hq : d.size ≤ t / k := (Nat.le_div_iff_mul_le hk0).2 (by omega)
    rw [h1, List.getElem?_map, Array.getElem?_toList, Array.getElem?_eq_none hq]
    rfl

theorem ownK_holds {α : Type} [Inhabited α] {enc : α → List Value} {k : Nat} (hk0 : 0 < k) (hk : ∀ x, (enc x).length = k) {E b o c : Nat} {zs : List α} (h : OwnE E k w (.slice (some ⟨b, o, none⟩) zs.length c) (zs.map enc)) :
    HoldsK enc k w b o zs.toArray ∧ b < w.heap.size := by
  obtain ⟨h1, _⟩ := h
  rw [List.length_map] at h1
  rcases h1 with ⟨h1, _⟩ | ⟨b', o', c', cs, hv, hb, hc, ho, hl⟩
  · cases h1
  · simp only [Value.slice.injEq, Option.some.injEq, Addr.mk.injEq, and_true, true_and] at hv
    obtain ⟨⟨rfl, rfl⟩, rfl⟩ := hv
    have hle : zs.length * k ≤ c * k := Nat.mul_le_mul_right _ hc
    have hfl := flatK_list hk0 hk zs.toArray
    have hlen : zs.length * k = (flatK enc k zs.toArray).toList.length := by simp
    have := holds_row (enc := id) (o := o) (N := zs.length * k) (zs := (flatK enc k zs.toArray).toList) hb hlen (by omega) (by rw [List.map_id, hfl]; exact hl)
    rw [Array.toArray_toList] at this
    exact ⟨this, lt_of_heap hb⟩

theorem ownK_sorted {α : Type} [Inhabited α] {enc : α → List Value} {k : Nat} (hk0 : 0 < k) (hk : ∀ x, (enc x).length = k) {E b o c n : Nat} {os : Array Obj} {zs ys : List α} (h : OwnE E k w (.slice (some ⟨b, o, none⟩) zs.length c) (zs.map enc)) (hl : ys.length = zs.length) :
    OwnE E k (sortWorldK enc k w b o n ys.toArray os) (.slice (some ⟨b, o, none⟩) zs.length c) (ys.map enc) ∧ Fr (fun x => x = b) w (sortWorldK enc k w b o n ys.toArray os) := by
  refine ⟨?_, putRow_fr⟩
  obtain ⟨h1, _⟩ := h
  rw [List.length_map] at h1
  rcases h1 with ⟨h1, _⟩ | ⟨b', o', c', cs, hv, hb, hc, ho, _⟩
  · cases h1
  · simp only [Value.slice.injEq, Option.some.injEq, Addr.mk.injEq, and_true, true_and] at hv
    obtain ⟨⟨rfl, rfl⟩, rfl⟩ := hv
    have hcl : cs.toList.length = cs.size := Array.length_toList
    have hle : zs.length * k ≤ c * k := Nat.mul_le_mul_right _ hc
    have hfl := flatK_list hk0 hk ys.toArray
    have hlen : (flatK enc k ys.toArray).toList.length = zs.length * k := by rw [Array.length_toList, size_flatK, List.size_toArray, hl]
    refine ⟨?_, fun e he => by obtain ⟨y, _, rfl⟩ := List.mem_map.1 he; exact hk y⟩
    rw [List.length_map, hl]
    have hp := putRow_heap (enc := id) (o := o) (n := n) (os := os) (zs := (flatK enc k ys.toArray).toList) hb (by omega)
    rw [Array.toArray_toList, List.map_id] at hp
    refine .inr ⟨b, o, c, _, rfl, hp, hc, ?_, ?_⟩
    · rw [List.size_toArray, splice_length (by omega)]; omega
    · have := splice_window (l := cs.toList) (k := (flatK enc k ys.toArray).toList) (o := o) (a := 0) (by omega)
      rw [Nat.add_zero, Nat.zero_add, hlen] at this
      show _ = List.take _ (List.drop o (splice cs.toList o _))
      rw [this, hfl]; simp

/-- **slices.SortFunc, of structs** -/
theorem sortK_spec {ρ : Shelf.Ren} (L : SlLaysF0.n6 P ρ) {α : Type} [Inhabited α] {E k : Nat} {enc : α → List Value} (hk0 : 0 < k) (hk : ∀ x, (enc x).length = k) (h1 : ∀ x, ∀ v ∈ enc x, v.oneCell' = true)
    (aE : ∀ w, (isAgg (ρ.t 24)).run P w = .ok true w) (zE : ∀ w, (Go.sizeOf (ρ.t 24)).run P w = .ok k w) (cf : α → α → Int) (hO : SWO (ltOf cf)) (g : Nat) (cb : Array Value) (eg : ∀ args w, (callFunc g args).run P w = .ok (.enter g args) w)
    (hcmp : ∀ x y W, CallsR P g (#[.agg (enc x).toArray, .agg (enc y).toArray] ++ cb) (fun v w' => v = .int .i64 (cf x y) ∧ Gr W w') W)
    {v : Value} {zs : List α} (hv : OwnE E k w v (zs.map enc)) (hl : zs.length < 2 ^ 60)
    (h : ∀ (ys : List α) w', ys.Perm zs → ys.Pairwise (fun x y => ¬ cf y x < 0) → OwnE E k w' v (ys.map enc) → Fr (fun b => blkS v = some b) w w' → K (.tuple #[]) w') : CallsR P (ρ.f 6) #[v, .func (.func g) #[] cb] K w := by
  cases hb : blkS v with
  | none =>
    have he : v = .slice none 0 0 ∧ zs = [] := by
      obtain ⟨g1, _⟩ := hv
      rcases g1 with ⟨g1, g2, _⟩ | ⟨b, o, c, cs, g1, _⟩
      · exact ⟨g1, by rw [List.length_map] at g2; exact List.eq_nil_of_length_eq_zero g2⟩
      · rw [g1] at hb; cases hb
    obtain ⟨rfl, rfl⟩ := he
    refine Calls.mono (AnyF.slices_SortFunc_none L none 0 _ w) ?_
    rintro e w' ⟨rfl, rfl⟩
    exact ⟨_, rfl, h [] _ (List.Perm.refl _) List.Pairwise.nil hv (Fr.refl _ _)⟩
  | some b =>
    have he : ∃ o c, v = .slice (some ⟨b, o, none⟩) zs.length c := by
      obtain ⟨g1, _⟩ := hv
      rcases g1 with ⟨g1, g2, _⟩ | ⟨b', o, c, cs, g1, _⟩
      · rw [g1] at hb; cases hb
      · rw [g1] at hb; cases hb; rw [List.length_map] at g1; exact ⟨o, c, g1⟩
    obtain ⟨o, c, rfl⟩ := he
    obtain ⟨g1, g2⟩ := ownK_holds hk0 hk hv
    have hc : CmpLays P g cb enc k cf b o zs.toArray.size w := fun m os dk _ x y => Calls.mono (hcmp x y _) fun e w' ⟨v, he, hv, q, os', hg⟩ => ⟨by rw [he, hv], q, os', hg⟩
    refine Calls.mono (AnyQ.slices_SortFunc L k aE zE enc hk h1 cf hO g cb b o c zs.toArray w eg hc g1 g2 (by rw [List.size_toArray]; omega)) ?_
    rintro e w' ⟨rfl, d', n, os, ⟨hp1, _, hp2⟩, hs, rfl⟩
    have hsz : d'.size = zs.length := by rw [hp1, List.size_toArray]
    have e1 : (d'.extract 0 zs.toArray.size).toList = d'.toList := by
      rw [List.size_toArray, ← hsz]; simp
    have e2 : (zs.toArray.extract 0 zs.toArray.size).toList = zs := by simp
    rw [e1, e2] at hp2
    have hlen : d'.toList.length = zs.length := by rw [Array.length_toList, hsz]
    obtain ⟨o1, f1⟩ := ownK_sorted hk0 hk (n := n) (os := os) hv hlen
    rw [Array.toArray_toList] at o1 f1
    refine ⟨_, rfl, h d'.toList _ hp2 ?_ o1 (f1.mono fun x _ e => by rw [e]; rfl)⟩
    rw [List.pairwise_iff_getElem]
    intro i j hi hj hij
    have := hs i j (Nat.zero_le _) hij (by rw [List.size_toArray]; omega)
    unfold ltOf at this
    have hi' : i < d'.size := by omega
    have hj' : j < d'.size := by omega
    rw [getElem!_pos d' i hi', getElem!_pos d' j hj'] at this
    simpa using this

end Go.Gx
