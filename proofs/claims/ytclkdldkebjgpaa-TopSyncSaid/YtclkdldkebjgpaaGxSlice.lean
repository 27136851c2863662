/- Slices: what they hold, whose they are; appending. -/
import Derived.Test.YtclkdldkebjgpaaGxLib
namespace Go.Gx
open Go
variable {P : Program} {K : Value → World → Prop} {w : World}

/-- blocks outside 'fp' that lay in w lie in w' as they lay; nothing is frozen anew; nothing is told -/
structure Fr (fp : Nat → Prop) (w w' : World) : Prop where
  size : w.heap.size ≤ w'.heap.size
  old : ∀ b, b < w.heap.size → ¬ fp b → w'.heap[b]? = w.heap[b]?
  fz : ∀ a, a.block < w.heap.size → w'.frozen? a = w.frozen? a
  os : w'.os = w.os
  tape : w'.tape = w.tape
  out : w'.output = w.output

theorem Fr.refl (fp : Nat → Prop) (w : World) : Fr fp w w := ⟨Nat.le_refl _, fun _ _ _ => rfl, fun _ _ => rfl, rfl, rfl, rfl⟩
/-- blocks that are new may be touched -/
theorem Fr.trans_new {fp fp' : Nat → Prop} {w w' w'' : World} (h : Fr fp w w') (h' : Fr fp' w' w'') (hs : ∀ b, b < w.heap.size → fp' b → fp b) : Fr fp w w'' :=
  ⟨Nat.le_trans h.size h'.size, fun b hb hn => (h'.old b (Nat.lt_of_lt_of_le hb h.size) (fun hf => hn (hs b hb hf))).trans (h.old b hb hn),
    fun a ha => (h'.fz a (Nat.lt_of_lt_of_le ha h.size)).trans (h.fz a ha), h'.os.trans h.os, h'.tape.trans h.tape, h'.out.trans h.out⟩
theorem Fr.trans {fp : Nat → Prop} {w w' w'' : World} (h : Fr fp w w') (h' : Fr fp w' w'') : Fr fp w w'' := h.trans_new h' fun _ _ h => h
theorem Fr.mono {fp fp' : Nat → Prop} {w w' : World} (h : Fr fp w w') (hs : ∀ b, b < w.heap.size → fp b → fp' b) : Fr fp' w w' :=
  ⟨h.size, fun b hb hn => h.old b hb fun hf => hn (hs b hb hf), h.fz, h.os, h.tape, h.out⟩
theorem frozen_eq (w : World) (a : Addr) : w.frozen? a = match w.heap[a.block]? with | some (.cells _ _ fz) => (decide (fz.1 ≤ a.off) && decide (a.off < fz.2)) | _ => false := by
  unfold World.frozen?
  cases w.heap[a.block]? with
  | none => rfl
  | some x => cases x <;> rfl
/-- an object of which nothing is frozen -/
def loose : Obj → Bool
  | .cells _ _ (lo, hi) => decide (hi ≤ lo)
  | _ => true
theorem Fr.alloc {fp : Nat → Prop} (w : World) (o : Obj) (ho : loose o = true) : Fr fp w (w.alloc o) := by
  refine ⟨by rw [size_alloc]; omega, fun b hb _ => heap_alloc_lt hb, fun a ha => ?_, rfl, rfl, rfl⟩
  rw [frozen_eq, frozen_eq, heap_alloc_lt ha]
theorem Fr.drew {fp : Nat → Prop} (w : World) : Fr fp w w.drew := ⟨Nat.le_refl _, fun _ _ _ => rfl, fun _ _ => rfl, rfl, rfl, rfl⟩
theorem Fr.upd {fp : Nat → Prop} {w : World} {b : Nat} {c : Array Value} {T : TypeId} {fz : Nat × Nat} (hb : w.heap[b]? = some (.cells c T fz)) (c' : Array Value) (T' : TypeId) (h : fp b) : Fr fp w (upd w b (.cells c' T' fz)) := by
  refine ⟨by rw [size_upd]; omega, fun b' _ hn => heap_upd_ne fun e => hn (e ▸ h), fun a _ => ?_, rfl, rfl, rfl⟩
  rw [frozen_eq, frozen_eq]
  by_cases e : b = a.block
  · rw [← e, hb, heap_upd_same (by rw [hb]; rfl)]
  · rw [heap_upd_ne e]
theorem Fr.wr {fp : Nat → Prop} (w : World) (b o : Nat) (vs : List Value) (h : fp b) : Fr fp w (wr w b o vs) := by
  unfold Gx.wr
  split
  · rename_i hb; exact Fr.upd hb _ _ h
  · exact Fr.refl _ _
theorem Fr.heap {fp : Nat → Prop} {w w' : World} (h : Fr fp w w') {b : Nat} {o : Obj} (hb : w.heap[b]? = some o) (hn : ¬ fp b) : w'.heap[b]? = some o :=
  (h.old b (lt_of_heap hb) hn).trans hb

def none_ : Nat → Prop := fun _ => False

/-- the block of a slice -/
def blkS : Value → Option Nat
  | .slice (some a) _ _ => some a.block
  | _ => none

/-- a slice of n elements of type E, of sz cells each, whose cells are l, and that may be written and appended to -/
def Own (E sz : Nat) (w : World) (v : Value) (n : Nat) (l : List Value) : Prop :=
  (v = .slice none 0 0 ∧ n = 0 ∧ l = []) ∨
  ∃ b o c cs, v = .slice (some ⟨b, o, none⟩) n c ∧ w.heap[b]? = some (.cells cs E (0, 0)) ∧ n ≤ c ∧ o + c * sz ≤ cs.size ∧ l = (cs.toList.drop o).take (n * sz)

/-- a slice that can be read -/
def Rd (sz : Nat) (w : World) (v : Value) (n : Nat) (l : List Value) : Prop :=
  ((∃ a c, v = .slice a 0 c) ∧ n = 0 ∧ l = []) ∨
  ∃ b o c cs T fz, v = .slice (some ⟨b, o, none⟩) n c ∧ w.heap[b]? = some (.cells cs T fz) ∧ n ≤ c ∧ o + n * sz ≤ cs.size ∧ l = (cs.toList.drop o).take (n * sz)

theorem Own.rd {E sz : Nat} {v : Value} {n : Nat} {l : List Value} (h : Own E sz w v n l) : Rd sz w v n l := by
  rcases h with ⟨rfl, h1, h2⟩ | ⟨b, o, c, cs, rfl, hb, hc, ho, rfl⟩
  · exact .inl ⟨⟨_, _, rfl⟩, h1, h2⟩
  · refine .inr ⟨b, o, c, cs, E, (0, 0), rfl, hb, hc, ?_, rfl⟩
    have := Nat.mul_le_mul_right sz hc
    omega

theorem Rd.len {sz : Nat} {v : Value} {n : Nat} {l : List Value} (h : Rd sz w v n l) : l.length = n * sz := by
  rcases h with ⟨⟨a0, c0, rfl⟩, rfl, rfl⟩ | ⟨b, o, c, cs, T, fz, rfl, hb, hc, ho, rfl⟩
  · simp
  · rw [List.length_take, List.length_drop, Array.length_toList]; omega

theorem Rd.form {sz : Nat} {v : Value} {n : Nat} {l : List Value} (h : Rd sz w v n l) : ∃ a c, v = .slice a n c := by
  rcases h with ⟨⟨a0, c0, rfl⟩, rfl, rfl⟩ | ⟨b, o, c, cs, T, fz, rfl, _⟩
  · exact ⟨_, _, rfl⟩
  · exact ⟨_, _, rfl⟩

theorem Rd.frame {sz : Nat} {w w' : World} {v : Value} {n : Nat} {l : List Value} (h : Rd sz w v n l) (hf : ∀ b, blkS v = some b → w'.heap[b]? = w.heap[b]?) : Rd sz w' v n l := by
  rcases h with h | ⟨b, o, c, cs, T, fz, rfl, hb, hc, ho, rfl⟩
  · exact .inl h
  · exact .inr ⟨b, o, c, cs, T, fz, rfl, (hf b rfl).trans hb, hc, ho, rfl⟩

theorem Own.frame {E sz : Nat} {w w' : World} {v : Value} {n : Nat} {l : List Value} (h : Own E sz w v n l) (hf : ∀ b, blkS v = some b → w'.heap[b]? = w.heap[b]?) : Own E sz w' v n l := by
  rcases h with h | ⟨b, o, c, cs, rfl, hb, hc, ho, rfl⟩
  · exact .inl h
  · exact .inr ⟨b, o, c, cs, rfl, (hf b rfl).trans hb, hc, ho, rfl⟩

theorem Own.lt {E sz : Nat} {w : World} {v : Value} {n : Nat} {l : List Value} (h : Own E sz w v n l) {b : Nat} (hb : blkS v = some b) : b < w.heap.size := by
  rcases h with ⟨rfl, _⟩ | ⟨b', o, c, cs, rfl, hb', _⟩
  · cases hb
  · cases hb; exact lt_of_heap hb'

/-! ### append -/

theorem run_choose {q : Question} (h : q.forced = false) : (choose q).run P w = .ok (q.cut (w.tape w.drawn q)) w.drew := by
  unfold choose
  simp only [Sem.run, h, Bool.false_eq_true, if_false]
  rfl

theorem run_firstCells {sz : Nat} {v : Value} {n : Nat} {l : List Value} (h : Rd sz w v n l) : (Builtin.firstCells sz n v).run P w = .ok l.toArray w := by
  rcases h with ⟨⟨a0, c0, rfl⟩, rfl, rfl⟩ | ⟨b, o, c, cs, T, fz, rfl, hb, hc, ho, rfl⟩
  · cases a0 with
    | none => rfl
    | some a0 =>
      show (loadCells a0 (0 * sz)).run P w = _
      rw [Nat.zero_mul]; rfl
  · show (loadCellsFrom ⟨b, o, none⟩ 0 (n * sz) #[]).run P w = _
    rw [run_loadCellsFrom hb _ 0 o #[] (by omega)]
    simp

theorem growBy_le (n : Nat) : ∀ (r c : Nat), c ≤ n + (n + 768) / 4 → Builtin.growBy n r c ≤ n + (n + 768) / 4
  | 0, c, h => h
  | r + 1, c, h => by
    unfold Builtin.growBy
    split
    · exact h
    · exact growBy_le n r _ (by omega)

theorem nextcap_le {n c : Nat} (h : c < n) : Builtin.nextslicecap n c ≤ 2 * n + 192 := by
  unfold Builtin.nextslicecap
  split
  · omega
  · split
    · omega
    · have := growBy_le n 4 c (by omega)
      omega

theorem run_zeroCells_ok (z : Array Value) (n : Nat) : Builtin.zeroCells z n = (zeros n z.toList).toArray := range_zeros n z

theorem splice_window {l k : List Value} {o a : Nat} (h : o + a ≤ l.length) : ((splice l (o + a) k).drop o).take (a + k.length) = (l.drop o).take a ++ k := by
  unfold splice
  have hlt : (l.take (o + a)).length = o + a := by rw [List.length_take]; omega
  have e1 : (l.take (o + a)).drop o = (l.drop o).take a := by rw [List.drop_take]; congr 1; omega
  rw [List.append_assoc, List.drop_append_of_le_length (by omega), e1]
  have e2 : ((l.drop o).take a).length = a := by rw [List.length_take, List.length_drop]; omega
  rw [← List.append_assoc, List.take_append_of_le_length (by rw [List.length_append, e2]; exact Nat.le_refl _), List.take_of_length_le (by rw [List.length_append, e2]; exact Nat.le_refl _)]

/-- what one append does to the world: the block that was written, or a new one -/
theorem opS_append {T T2 E sz by_ : Nat} {ag : Bool} {z : Value} [hT : SlT P T E] [hT2 : SlT P T2 E] [hs : Sz P E sz ag] [hb : By P E by_] [hz : ZV P E z] {ty : TypeId} {v u : Value} {n m : Nat} {l k : List Value} (hzn : z.cells.size = sz) (hby : 0 < by_)
    (hv : Own E sz w v n l) (hu : Rd sz w u m k) (hk : k.all S.oneCell = true) (hroom : (2 * (n + m) + 192) * by_ ≤ 2 ^ 48)
    (h : ∀ v' w', Own E sz w' v' (n + m) (l ++ k) → (blkS v' = blkS v ∨ ∃ b, blkS v' = some b ∧ w.heap.size ≤ b) → Fr (fun b => blkS v = some b) w w' → (v' = .slice none 0 0 ↔ v = .slice none 0 0 ∧ m = 0) → K v' w') :
    opS P (S.bi .append #[T, T2] ty [v, u]) K w := by
  obtain ⟨inf, hi, hib⟩ := hb.bytes
  show opS P (do pure (Next.value (← Builtin.append_ #[T, T2] ty #[v, u]))) K w
  rw [opS_bind]
  obtain ⟨a, c, rfl⟩ := hv.rd.form
  obtain ⟨ua, uc, rfl⟩ := hu.form
  have hll := hv.rd.len
  have hkl := hu.len
  unfold Builtin.append_
  simp only [List.getElem?_toArray, List.getElem?_cons_zero, List.getElem?_cons_succ]
  rw [Sem.run_bind, run_underlying_of hT.und, Result.andThen_ok]
  simp only []
  rw [Sem.run_bind, hs.size w, Result.andThen_ok, Sem.run_bind, run_underlying_of hT2.und, Result.andThen_ok]
  simp only [pure_bind, Bool.false_eq_true, if_false, Bool.not_false, if_true]
  have hlen : (Builtin.lenOf (.slice ua m uc)).run P w = .ok m w := rfl
  rw [Sem.run_bind, hlen, Result.andThen_ok]
  by_cases hfit : n + m ≤ c
  · -- there is room
    rw [if_pos hfit, Sem.run_bind, run_firstCells hu, Result.andThen_ok]
    rcases hv with ⟨hv, rfl, rfl⟩ | ⟨b, o, c', cs, hv, hbb, hc, ho, rfl⟩
    · simp only [Value.slice.injEq] at hv
      obtain ⟨rfl, _, rfl⟩ := hv
      obtain rfl : m = 0 := by omega
      have hk0 : k = [] := List.eq_nil_of_length_eq_zero (by omega)
      subst hk0
      simp only [Sem.run_pure]
      exact h _ w (.inl ⟨rfl, rfl, rfl⟩) (.inl rfl) (Fr.refl _ _) ⟨fun _ => ⟨rfl, rfl⟩, fun _ => rfl⟩
    · simp only [Value.slice.injEq] at hv
      obtain ⟨rfl, _, rfl⟩ := hv
      have hmul : (n + m) * sz ≤ c * sz := Nat.mul_le_mul_right sz hfit
      rw [Nat.add_mul] at hmul
      have hst := run_storeCells (P := P) k w cs 0 (o + n * sz) hbb hk (by omega) (fun j hj => by simp)
      simp only [add_none]
      rw [Sem.run_bind, hst, Result.andThen_ok]
      simp only [Sem.run_pure, Nat.add_zero]
      have hsame : (upd w b (.cells (splice cs.toList (o + n * sz) k).toArray E (0, 0))).heap[b]? = some (.cells (splice cs.toList (o + n * sz) k).toArray E (0, 0)) := heap_upd_same (by rw [hbb]; rfl)
      refine h _ _ (.inr ⟨b, o, c, _, rfl, hsame, hfit, ?_, ?_⟩) (.inl rfl) (Fr.upd hbb _ _ rfl) ⟨fun e => (by cases e), fun e => (by cases e.1)⟩
      · have hsl : (splice cs.toList (o + n * sz) k).length = cs.toList.length := splice_length (by rw [hkl, Array.length_toList]; omega)
        rw [List.size_toArray, hsl]
        simpa using ho
      · show _ = List.take _ (List.drop o (splice cs.toList (o + n * sz) k))
        rw [Nat.add_mul, ← hkl, splice_window (by rw [Array.length_toList]; omega)]
  · -- a new block
    rw [if_neg hfit]
    have hcap := nextcap_le (n := n + m) (c := c) (by omega)
    have hnm : (2 * (n + m) + 192) ≤ 2 ^ 48 := Nat.le_trans (Nat.le_mul_of_pos_right _ hby) hroom
    have hg : ¬ (((n + m : Nat) : Int) > IntKind.i64.max ∧ (inf.bytes = 0)) := by
      rw [hib]; omega
    have hg2 : ¬ (Builtin.nextslicecap (n + m) c * inf.bytes > 2 ^ 48) := by
      rw [hib]
      have := Nat.mul_le_mul_right by_ hcap
      omega
    have har : ∀ x w', (askRoom x).run P w' = .ok () w' := by
      intro x w'; unfold askRoom; split <;> rfl
    have hcells : ∀ w', (typeInfo E).run P w' = .ok inf w' := hi
    rw [Sem.run_bind, hi w, Result.andThen_ok, if_neg (by simpa using hg), Sem.run_bind, hi w, Result.andThen_ok, if_neg hg2]
    rw [Sem.run_bind, run_choose rfl, Result.andThen_ok, Sem.run_bind, hi _, Result.andThen_ok, Sem.run_bind, har, Result.andThen_ok]
    have hvd := hv.rd.frame (w' := w.drew) (fun _ _ => rfl)
    have hud := hu.frame (w' := w.drew) (fun _ _ => rfl)
    rw [Sem.run_bind, run_firstCells hvd, Result.andThen_ok, Sem.run_bind, run_firstCells hud, Result.andThen_ok, Sem.run_bind, hz.zero, Result.andThen_ok, run_zeroCells_ok]
    have hq : ∀ q : Nat, (Question.appendCap (n + m) c E).cut q = n + m + q % (2 ^ 63 - (n + m)) := fun _ => rfl
    rw [hq]
    generalize w.tape w.drawn (Question.appendCap (n + m) c E) % (2 ^ 63 - (n + m)) = x
    have hx : n + m + x - (n + m) = x := by omega
    rw [hx]
    have hnew : ∀ (cs : Array Value) (w' : World), (newRow E cs).run P w' = .ok ⟨w'.heap.size, 0, none⟩ (w'.alloc (.cells cs E)) := fun _ _ => rfl
    rw [Sem.run_bind, hnew, Result.andThen_ok]
    simp only [Sem.run_pure]
    have hcs : (l.toArray ++ k.toArray ++ (zeros x z.cells.toList).toArray).toList = l ++ k ++ zeros x z.cells.toList := by simp
    have hzl : (zeros x z.cells.toList).length = x * sz := by rw [zeros_length]; simp [hzn]
    refine h _ _ (.inr ⟨w.heap.size, 0, n + m + x, _, rfl, heap_alloc_new w.drew _, by omega, ?_, ?_⟩) (.inr ⟨_, rfl, Nat.le_refl _⟩) ((Fr.drew w).trans (Fr.alloc _ _ rfl)) ⟨fun e => (by cases e), fun e => (by cases e.1; omega)⟩
    · rw [← Array.length_toList, hcs, List.length_append, List.length_append, hll, hkl, hzl, Nat.add_mul, Nat.add_mul]; omega
    · rw [hcs, List.drop_zero, List.take_append_of_le_length (by rw [List.length_append, hll, hkl, Nat.add_mul]; exact Nat.le_refl _), List.take_of_length_le (by rw [List.length_append, hll, hkl, Nat.add_mul]; exact Nat.le_refl _)]

end Go.Gx
