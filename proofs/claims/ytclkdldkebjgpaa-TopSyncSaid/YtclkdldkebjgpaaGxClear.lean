/- A part of a slice is cleared; less of what one holds. -/
import Derived.Test.YtclkdldkebjgpaaGxBuf
namespace Go.Gx
open Go
section
variable {P : Program} {K : Value → World → Prop} {w : World}

theorem OwnE.less {E sz b o c : Nat} {es : List (List Value)} (h : OwnE E sz w (.slice (some ⟨b, o, none⟩) es.length c) es) {m : Nat} (hm : m ≤ es.length) : OwnE E sz w (.slice (some ⟨b, o, none⟩) m c) (es.take m) := by
  obtain ⟨h1, h2⟩ := h
  have hlen : (es.take m).length = m := by rw [List.length_take]; omega
  refine ⟨?_, fun e he => h2 e (List.mem_of_mem_take he)⟩
  rcases h1 with ⟨h1, _⟩ | ⟨b', o', c', cs, hv, hb, hc, ho, hl⟩
  · cases h1
  · simp only [Value.slice.injEq, Option.some.injEq, Addr.mk.injEq, and_true, true_and] at hv
    obtain ⟨⟨rfl, rfl⟩, rfl⟩ := hv
    refine .inr ⟨b, o, c, cs, by rw [hlen], hb, by rw [hlen]; omega, ho, ?_⟩
    rw [hlen, ← flatten_take m h2, hl, List.take_take, Nat.min_eq_left (Nat.mul_le_mul_right _ hm)]

theorem splice_before {l k : List Value} {o a : Nat} (h : o + a ≤ l.length) : ((splice l (o + a) k).drop o).take a = (l.drop o).take a := by
  unfold splice
  have hlt : (l.take (o + a)).length = o + a := by rw [List.length_take]; omega
  rw [List.append_assoc, List.drop_append_of_le_length (by omega), List.take_append_of_le_length (by rw [List.length_drop]; omega), List.drop_take]
  have : o + a - o = a := by omega
  rw [this, List.take_take, Nat.min_self]

theorem s_slcClear {T E sz : Nat} {ag : Bool} {z : Value} {ty : TypeId} [hT : SlT P T E] [hs : Sz P E sz ag] [hz : ZV P E z] {b o c : Nat} {es : List (List Value)} {R : Value → World → Prop} (hzn : z.cells.size = sz) (hzo : z.cells.toList.all S.oneCell = true)
    (h : OwnE E sz w (.slice (some ⟨b, o, none⟩) es.length c) es) {i : Nat} (hi : i ≤ es.length) (hK : ∀ w', OwnE E sz w' (.slice (some ⟨b, o, none⟩) i c) (es.take i) → Fr (fun x => x = b) w w' → R (.tuple #[]) w') :
    opS P (S.slc T (.slice (some ⟨b, o, none⟩) es.length c) (some (.int .i64 i)) none none) (fun x => opS P (S.bi .clear #[T] ty [x]) R) w := by
  have hless := h.less hi
  obtain ⟨h1, h2⟩ := h
  rcases h1 with ⟨h1, _⟩ | ⟨b', o', c', cs, hv, hb, hc, ho, hl⟩
  · cases h1
  simp only [Value.slice.injEq, Option.some.injEq, Addr.mk.injEq, and_true, true_and] at hv
  obtain ⟨⟨rfl, rfl⟩, rfl⟩ := hv
  rw [opS_slice (run_boundsL (lo := (i : Int)) (by omega) (by omega)), Int.toNat_natCast]
  show opS P (do pure (Next.value (← Builtin.clear_ #[T] ty #[.slice _ (es.length - i) (c - i)]))) R w
  rw [opS_bind]
  unfold Builtin.clear_
  simp only [List.getElem?_toArray, List.getElem?_cons_zero]
  rw [Sem.run_bind, run_underlying_of hT.und, Result.andThen_ok]
  by_cases e : i = es.length
  · subst e
    have hF : R (.tuple #[]) w := hK w hless (Fr.refl _ _)
    have e0 : es.length - es.length = 0 := Nat.sub_self _
    rw [e0]
    generalize (if c = es.length then some (⟨b, o, none⟩ : Addr) else Option.map (fun x : Addr => x.add (es.length * sz)) (some ⟨b, o, none⟩)) = q
    cases q <;> exact hF
  · have hci : c ≠ i := by omega
    rw [if_neg hci]
    obtain ⟨k, hk⟩ : ∃ k, es.length - i = k + 1 := ⟨es.length - i - 1, by omega⟩
    rw [hk]
    simp only [Option.map_some, add_none]
    rw [Sem.run_bind, hz.zero w, Result.andThen_ok, run_zeroCells_ok, Sem.run_bind]
    have hzl : (zeros (k + 1) z.cells.toList).length = (k + 1) * sz := by rw [zeros_length]; congr 1
    have hzo' : (zeros (k + 1) z.cells.toList).all S.oneCell = true := by
      rw [List.all_eq_true] at hzo ⊢
      intro x hx
      unfold zeros at hx
      obtain ⟨y, hy, hx⟩ := List.mem_flatten.1 hx
      rw [List.eq_of_mem_replicate hy] at hx
      exact hzo x hx
    have hm1 : i * sz + (k + 1) * sz = es.length * sz := by rw [← Nat.add_mul]; congr 1; omega
    have hm2 : es.length * sz ≤ c * sz := Nat.mul_le_mul_right _ hc
    have hst := run_storeCells (P := P) (zeros (k + 1) z.cells.toList) w cs 0 (o + i * sz) hb hzo' (by rw [hzl]; omega) (fun j hj => by simp)
    simp only [Nat.add_zero] at hst
    rw [hst, Result.andThen_ok]
    have hlen : (es.take i).length = i := by rw [List.length_take]; omega
    have hsame : (upd w b (.cells (splice cs.toList (o + i * sz) (zeros (k + 1) z.cells.toList)).toArray E (0, 0))).heap[b]? = some (.cells (splice cs.toList (o + i * sz) (zeros (k + 1) z.cells.toList)).toArray E (0, 0)) := heap_upd_same (by rw [hb]; rfl)
    have hcl : cs.toList.length = cs.size := Array.length_toList
    refine hK _ ⟨.inr ⟨b, o, c, _, by rw [hlen], hsame, by rw [hlen]; omega, ?_, ?_⟩, fun e he => h2 e (List.mem_of_mem_take he)⟩ (Fr.upd hb _ _ rfl)
    · rw [List.size_toArray, splice_length (by rw [hzl]; omega)]; omega
    · rw [hlen]
      show _ = List.take _ (List.drop o (splice cs.toList (o + i * sz) _))
      rw [splice_before (by omega), ← flatten_take i h2, hl, List.take_take, Nat.min_eq_left (by omega)]

theorem opS_slcHo {T E sz : Nat} {ag : Bool} [hT : SlT P T E] [hs : Sz P E sz ag] {b o n c k : Nat} (hk : k ≤ c) : opS P (S.slc T (.slice (some ⟨b, o, none⟩) n c) none (some (.int .i64 k)) none) K w = K (.slice (some ⟨b, o, none⟩) k c) w := by
  rw [opS_slice (run_boundsH (hi := (k : Int)) (by omega) (by omega)), Int.toNat_natCast]
  have e : (if c = 0 then some (⟨b, o, none⟩ : Addr) else Option.map (fun x : Addr => x.add (0 * sz)) (some ⟨b, o, none⟩)) = some ⟨b, o, none⟩ := by
    split
    · rfl
    · show some (Addr.add _ _) = _
      rw [add_none, Nat.zero_mul, Nat.add_zero]
  rw [e]
  rfl
theorem OwnE.form' {E sz : Nat} {v : Value} {es : List (List Value)} (h : OwnE E sz w v es) (hn : 0 < es.length) : ∃ b o c, v = .slice (some ⟨b, o, none⟩) es.length c := by
  rcases h.1 with ⟨_, h1, _⟩ | ⟨b, o, c, cs, h1, _⟩
  · omega
  · exact ⟨b, o, c, h1⟩
end
end Go.Gx
