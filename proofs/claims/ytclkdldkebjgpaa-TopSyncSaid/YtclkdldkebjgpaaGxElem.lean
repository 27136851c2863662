/- Slices as lists of elements. -/
import Derived.Test.YtclkdldkebjgpaaGxAuto
namespace Go.Gx
open Go
variable {P : Program} {K : Value → World → Prop} {w : World}

theorem flatten_len {sz : Nat} : ∀ {es : List (List Value)}, (∀ e ∈ es, e.length = sz) → es.flatten.length = es.length * sz
  | [], _ => by simp
  | e :: es, h => by
    rw [List.flatten_cons, List.length_append, flatten_len (fun e he => h e (List.mem_cons_of_mem _ he)), h e List.mem_cons_self, List.length_cons, Nat.add_mul]
    omega

theorem flatten_drop {sz : Nat} : ∀ {es : List (List Value)} (i : Nat), (∀ e ∈ es, e.length = sz) → es.flatten.drop (i * sz) = (es.drop i).flatten
  | es, 0, _ => by simp
  | [], i + 1, _ => by simp
  | e :: es, i + 1, h => by
    rw [List.flatten_cons, List.drop_succ_cons, ← flatten_drop i (fun e he => h e (List.mem_cons_of_mem _ he))]
    have := h e List.mem_cons_self
    rw [List.drop_append, List.drop_eq_nil_of_le (by rw [this, Nat.add_mul]; omega), List.nil_append]
    congr 1
    rw [this, Nat.add_mul]; omega

theorem flatten_take {sz : Nat} : ∀ {es : List (List Value)} (i : Nat), (∀ e ∈ es, e.length = sz) → es.flatten.take (i * sz) = (es.take i).flatten
  | es, 0, _ => by simp
  | [], i + 1, _ => by simp
  | e :: es, i + 1, h => by
    have := h e List.mem_cons_self
    rw [List.flatten_cons, List.take_succ_cons, List.flatten_cons, ← flatten_take i (fun e he => h e (List.mem_cons_of_mem _ he))]
    rw [List.take_append, List.take_of_length_le (by rw [this, Nat.add_mul]; omega)]
    congr 2
    rw [this, Nat.add_mul]; omega

/-- the cells of one element -/
theorem flatten_elem {sz : Nat} {es : List (List Value)} (h : ∀ e ∈ es, e.length = sz) {i : Nat} (hi : i < es.length) (f k : Nat) (hk : f + k ≤ sz) : (es.flatten.drop (i * sz + f)).take k = ((es[i]).drop f).take k := by
  rw [← List.drop_drop, flatten_drop i h, List.drop_eq_getElem_cons hi, List.flatten_cons]
  have he : (es[i]).length = sz := h _ (List.getElem_mem hi)
  rw [List.drop_append_of_le_length (by omega), List.take_append_of_le_length (by rw [List.length_drop]; omega)]

theorem splice_flatten {sz : Nat} {es : List (List Value)} (h : ∀ e ∈ es, e.length = sz) {i : Nat} (hi : i < es.length) {e : List Value} (he : e.length = sz) : splice es.flatten (i * sz) e = (es.set i e).flatten := by
  unfold splice
  rw [flatten_take i h, he, ← Nat.succ_mul, flatten_drop (i + 1) h, List.set_eq_take_append_cons_drop, if_pos hi]
  simp

theorem splice_sub {l e : List Value} {o m a : Nat} (h : o + m ≤ l.length) (h2 : a + e.length ≤ m) : splice ((l.drop o).take m) a e = ((splice l (o + a) e).drop o).take m := by
  unfold splice
  have hlt : (l.take (o + a)).length = o + a := by rw [List.length_take]; omega
  have e1 : (l.take (o + a)).drop o = (l.drop o).take a := by rw [List.drop_take]; congr 1; omega
  have e2 : ((l.drop o).take a).length = a := by rw [List.length_take, List.length_drop]; omega
  rw [List.append_assoc (l.take (o + a)), List.drop_append_of_le_length (by omega), e1, List.take_append, e2, List.take_append, List.take_take, Nat.min_eq_left (by omega), List.drop_take, List.drop_drop]
  rw [List.take_of_length_le (by omega : ((l.drop o).take a).length ≤ m), List.take_of_length_le (by omega : e.length ≤ m - a), List.append_assoc]
  congr 3
  · omega
  · congr 1; omega

/-- the elements of a slice that can be read -/
def RdE (sz : Nat) (w : World) (v : Value) (es : List (List Value)) : Prop := Rd sz w v es.length es.flatten ∧ ∀ e ∈ es, e.length = sz
/-- the elements of a slice that is its holder's own -/
def OwnE (E sz : Nat) (w : World) (v : Value) (es : List (List Value)) : Prop := Own E sz w v es.length es.flatten ∧ ∀ e ∈ es, e.length = sz

theorem OwnE.rd {E sz : Nat} {v : Value} {es : List (List Value)} (h : OwnE E sz w v es) : RdE sz w v es := ⟨h.1.rd, h.2⟩
theorem RdE.frame {sz : Nat} {w w' : World} {v : Value} {es : List (List Value)} (h : RdE sz w v es) (hf : ∀ b, blkS v = some b → w'.heap[b]? = w.heap[b]?) : RdE sz w' v es := ⟨h.1.frame hf, h.2⟩
theorem OwnE.frame {E sz : Nat} {w w' : World} {v : Value} {es : List (List Value)} (h : OwnE E sz w v es) (hf : ∀ b, blkS v = some b → w'.heap[b]? = w.heap[b]?) : OwnE E sz w' v es := ⟨h.1.frame hf, h.2⟩
theorem OwnE.lt {E sz : Nat} {v : Value} {es : List (List Value)} (h : OwnE E sz w v es) {b : Nat} (hb : blkS v = some b) : b < w.heap.size := h.1.lt hb
theorem RdE.fr {fp : Nat → Prop} {sz : Nat} {w w' : World} {v : Value} {es : List (List Value)} (h : RdE sz w v es) (hf : Fr fp w w') (hn : ∀ b, blkS v = some b → ¬ fp b) : RdE sz w' v es := by
  obtain ⟨h1, h2⟩ := h
  refine ⟨?_, h2⟩
  rcases h1 with h1 | ⟨b, o, c, cs, T, fz, rfl, hb, hc, ho, hl⟩
  · exact .inl h1
  · exact .inr ⟨b, o, c, cs, T, fz, rfl, hf.heap hb (hn b rfl), hc, ho, hl⟩
theorem OwnE.fr {fp : Nat → Prop} {E sz : Nat} {w w' : World} {v : Value} {es : List (List Value)} (h : OwnE E sz w v es) (hf : Fr fp w w') (hn : ∀ b, blkS v = some b → ¬ fp b) : OwnE E sz w' v es :=
  h.frame fun b hb => hf.old b (h.lt hb) (hn b hb)

theorem RdE.form {sz : Nat} {v : Value} {es : List (List Value)} (h : RdE sz w v es) : ∃ a c, v = .slice a es.length c := h.1.form

/-- an element's cells, in a block -/
def El (w : World) (b p : Nat) (e : List Value) : Prop := ∃ cs T fz, w.heap[b]? = some (.cells cs T fz) ∧ p + e.length ≤ cs.size ∧ (cs.toList.drop p).take e.length = e

theorem El.cell {b p : Nat} {e : List Value} (h : El w b p e) (f : Nat) (hf : f < e.length) : cellAt w.heap[b]? (p + f) = e[f]? := by
  obtain ⟨cs, T, fz, hb, hs, he⟩ := h
  rw [hb]
  show cs[p + f]? = e[f]?
  rw [← he, List.getElem?_take_of_lt hf, List.getElem?_drop, Array.getElem?_toList]

theorem El.agg {b p : Nat} {e : List Value} (h : El w b p e) (f k : Nat) (hf : f + k ≤ e.length) : aggAt w.heap[b]? (p + f) k = some (.agg ((e.drop f).take k).toArray) := by
  obtain ⟨cs, T, fz, hb, hs, he⟩ := h
  rw [hb]
  show (if p + f + k ≤ cs.size then _ else _) = _
  rw [if_pos (by omega)]
  congr 3
  rw [← List.drop_drop]
  conv => rhs; rw [← he]
  rw [List.drop_take, List.take_take]
  congr 1
  omega

theorem El.agg0 {b p : Nat} {e : List Value} {n : Nat} (h : El w b p e) (hn : e.length = n) : aggAt w.heap[b]? p n = some (.agg e.toArray) := by
  have := h.agg 0 n (by omega)
  rw [Nat.add_zero, List.drop_zero, List.take_of_length_le (by omega)] at this
  exact this

theorem El.cell0 {b p : Nat} {e : List Value} (h : El w b p e) (hf : 0 < e.length) : cellAt w.heap[b]? p = e[0]? := by
  have := h.cell 0 hf
  rwa [Nat.add_zero] at this

/-- a place in a slice -/
theorem s_iaE {T E sz : Nat} {ag : Bool} [hT : SlT P T E] [hs : Sz P E sz ag] {v : Value} {es : List (List Value)} (h : RdE sz w v es) {k : IntKind} {i : Int} (h0 : 0 ≤ i) (hi : i.toNat < es.length)
    (hk : ∀ b o c, v = .slice (some ⟨b, o, none⟩) es.length c → El w b (o + i.toNat * sz) (es[i.toNat]) → K (pt b (o + i.toNat * sz)) w) : opS P (S.ia T v (.int k i)) K w := by
  obtain ⟨h1, h2⟩ := h
  rcases h1 with ⟨_, h1, _⟩ | ⟨b, o, c, cs, Tc, fz, rfl, hb, hc, ho, hl⟩
  · omega
  · rw [opS_iaS, if_pos (by omega)]
    have hlen := h2 _ (List.getElem_mem hi)
    have hm : i.toNat * sz + sz ≤ es.length * sz := by
      rw [← Nat.succ_mul]; exact Nat.mul_le_mul_right _ hi
    refine hk b o c rfl ⟨cs, Tc, fz, hb, by rw [hlen]; omega, ?_⟩
    have := flatten_elem h2 hi 0 sz (by omega)
    rw [hl, Nat.add_zero, List.drop_zero, List.drop_take, List.drop_drop, List.take_take, Nat.min_eq_left (by omega)] at this
    rw [hlen, this, List.take_of_length_le (by omega)]

/-- an element is written -/
theorem OwnE.put {E sz : Nat} {b o c i : Nat} {es : List (List Value)} (h : OwnE E sz w (.slice (some ⟨b, o, none⟩) es.length c) es) {e : List Value} (he : e.length = sz) (hi : i < es.length) :
    okAt w.heap[b]? (o + i * sz) sz = true ∧ OwnE E sz (wr w b (o + i * sz) e) (.slice (some ⟨b, o, none⟩) es.length c) (es.set i e) := by
  obtain ⟨h1, h2⟩ := h
  rcases h1 with ⟨h1, _⟩ | ⟨b', o', c', cs, hv, hb, hc, ho, hl⟩
  · cases h1
  · simp only [Value.slice.injEq, Option.some.injEq, Addr.mk.injEq] at hv
    obtain ⟨⟨rfl, rfl, _⟩, _, rfl⟩ := hv
    have hm : i * sz + sz ≤ es.length * sz := by
      rw [← Nat.succ_mul]; exact Nat.mul_le_mul_right _ hi
    have hm2 : es.length * sz ≤ c * sz := Nat.mul_le_mul_right _ hc
    have hset : ∀ x ∈ es.set i e, x.length = sz := fun x hx => by
      rcases List.mem_or_eq_of_mem_set hx with hx | rfl
      · exact h2 x hx
      · exact he
    refine ⟨?_, ⟨.inr ⟨b, o, c, (splice cs.toList (o + i * sz) e).toArray, by rw [List.length_set], ?_, by rw [List.length_set]; exact hc, ?_, ?_⟩, hset⟩⟩
    · rw [hb]
      show (decide (o + i * sz + sz ≤ cs.size) && _) = true
      simp only [Bool.and_eq_true, decide_eq_true_eq, List.all_eq_true]
      exact ⟨by omega, fun x _ => by simp⟩
    · rw [heap_wr, if_pos rfl, hb]; rfl
    · rw [List.size_toArray, splice_length (by have : cs.toList.length = cs.size := Array.length_toList; omega)]; simpa using ho
    · rw [← splice_flatten h2 hi he, hl, List.length_set]
      show _ = List.take _ (List.drop o (splice cs.toList (o + i * sz) e))
      have hsz : o + es.length * sz ≤ cs.toList.length := by have : cs.toList.length = cs.size := Array.length_toList; omega
      rw [splice_sub hsz (by omega)]

/-! ### Parts of slices -/

def optI (n : Option Int) : Option Value := n.map fun i => .int .i64 i

theorem run_sliceBound {k : IntKind} {i : Int} {y : Nat} {code : BoundsCode} (h : 0 ≤ i ∧ i ≤ y) : (Instr.sliceBound (.int k i) y code).run P w = .ok i.toNat w := by
  unfold Instr.sliceBound
  simp only [asIntOf, pure_bind]
  rw [if_pos h]; rfl

theorem opS_slice {T E sz : Nat} {ag : Bool} [hT : SlT P T E] [hs : Sz P E sz ag] {a : Option Addr} {n c l h : Nat} {lo hi : Option Value} (hb : (Instr.sliceBounds true n c lo hi none).run P w = .ok (l, h, c) w) :
    opS P (S.slc T (.slice a n c) lo hi none) K w = K (.slice (if c = l then a else a.map (·.add (l * sz))) (h - l) (c - l)) w := by
  unfold S.slc
  rw [opS_bind]
  unfold Instr.sliceAt
  rw [Sem.run_bind, run_underlying_of hT.und, Result.andThen_ok]
  simp only []
  unfold Instr.slice
  rw [Sem.run_bind, run_underlying_of hT.und, Result.andThen_ok]
  simp only []
  rw [Sem.run_bind, hb, Result.andThen_ok]
  simp only []
  rw [Sem.run_bind, hs.size w, Result.andThen_ok]
  rfl

theorem run_boundsLH {n c : Nat} {k k' : IntKind} {lo hi : Int} (h0 : 0 ≤ lo) (h1 : lo ≤ hi) (h2 : hi ≤ c) : (Instr.sliceBounds true n c (some (.int k lo)) (some (.int k' hi)) none).run P w = .ok (lo.toNat, hi.toNat, c) w := by
  unfold Instr.sliceBounds
  simp only [pure_bind]
  rw [Sem.run_bind, run_sliceBound (by omega), Result.andThen_ok, Sem.run_bind, run_sliceBound (by omega), Result.andThen_ok]
  rfl
theorem run_boundsL {n c : Nat} {k : IntKind} {lo : Int} (h0 : 0 ≤ lo) (h1 : lo ≤ n) : (Instr.sliceBounds true n c (some (.int k lo)) none none).run P w = .ok (lo.toNat, n, c) w := by
  unfold Instr.sliceBounds
  simp only [pure_bind]
  rw [Sem.run_bind, run_sliceBound (by omega), Result.andThen_ok]
  rfl
theorem run_boundsH {n c : Nat} {k : IntKind} {hi : Int} (h0 : 0 ≤ hi) (h1 : hi ≤ c) : (Instr.sliceBounds true n c none (some (.int k hi)) none).run P w = .ok (0, hi.toNat, c) w := by
  unfold Instr.sliceBounds
  simp only [pure_bind]
  rw [Sem.run_bind, run_sliceBound (by omega), Result.andThen_ok]
  rfl

/-- elements of a part of a slice -/
theorem RdE.part {sz : Nat} {a : Option Addr} {c : Nat} {es : List (List Value)} (h : RdE sz w (.slice a es.length c) es) {l m : Nat} (h1 : l ≤ m) (h2 : m ≤ es.length) :
    RdE sz w (.slice (if c = l then a else a.map (·.add (l * sz))) (m - l) (c - l)) ((es.take m).drop l) := by
  obtain ⟨h, he⟩ := h
  have hlen : ((es.take m).drop l).length = m - l := by rw [List.length_drop, List.length_take]; omega
  refine ⟨?_, fun e hx => he e (List.mem_of_mem_take (List.mem_of_mem_drop hx))⟩
  rw [hlen]
  rcases h with ⟨h, hn, hf⟩ | ⟨b, o, c', cs, T, fz, hv, hb, hc, ho, hl⟩
  · obtain rfl : m = 0 := by omega
    obtain rfl : l = 0 := by omega
    exact .inl ⟨⟨_, _, rfl⟩, by omega, by simp⟩
  · simp only [Value.slice.injEq] at hv
    obtain ⟨rfl, _, rfl⟩ := hv
    have hm : m * sz ≤ es.length * sz := Nat.mul_le_mul_right _ h2
    have hlm : l * sz + (m - l) * sz = m * sz := by rw [← Nat.add_mul]; congr 1; omega
    have hfl : ((es.take m).drop l).flatten = (cs.toList.drop (o + l * sz)).take ((m - l) * sz) := by
      rw [← flatten_drop l (sz := sz) (fun e hx => he e (List.mem_of_mem_take hx)), ← flatten_take m he, hl, List.take_take, Nat.min_eq_left hm, List.drop_take, List.drop_drop]
      congr 1
      omega
    by_cases e : c = l
    · subst e
      have e0 : m - c = 0 := by omega
      refine .inr ⟨b, o, 0, cs, T, fz, by simp [e0], hb, by omega, by rw [e0]; omega, ?_⟩
      rw [hfl, e0]; simp
    · refine .inr ⟨b, o + l * sz, c - l, cs, T, fz, ?_, hb, by omega, by omega, hfl⟩
      rw [if_neg e]
      show Value.slice (some (Addr.add _ _)) _ _ = _
      rw [add_none]

theorem RdE.one {sz : Nat} {v : Value} {es : List (List Value)} (h : RdE sz w v es) : S.oneCell v = true := by
  obtain ⟨a, c, rfl⟩ := h.form
  rfl
theorem OwnE.one {E sz : Nat} {v : Value} {es : List (List Value)} (h : OwnE E sz w v es) : S.oneCell v = true := h.rd.one

/-- where ways meet: what holds there -/
theorem jn0 {k : World → Prop} {m : (World → Prop) → World → Prop} (Q : World → Prop) (h1 : ∀ w', Q w' → k w') (h2 : ∀ j : World → Prop, (∀ w', Q w' → j w') → m j w) : jnJ 0 k m w := h2 k h1
theorem jn1 {k : Value → World → Prop} {m : (Value → World → Prop) → World → Prop} (Q : Value → World → Prop) (h1 : ∀ v w', Q v w' → k v w') (h2 : ∀ j : Value → World → Prop, (∀ v w', Q v w' → j v w') → m j w) : jnJ 1 k m w := h2 k h1

/-- a loop without values: what holds at its head, and how far it is from its end -/
theorem loop0 {B : (World → Prop) → World → Prop} (I : Nat → World → Prop) (h : ∀ n w X, I n w → (∀ m w', m < n → I m w' → X w') → B X w) (n : Nat) (h0 : I n w) : loopJ 0 B w := by
  intro X hX
  have key : ∀ n w, (∃ m, m ≤ n ∧ I m w) → X w := by
    intro n
    induction n with
    | zero =>
      rintro w ⟨m, hm, hi⟩
      obtain rfl : m = 0 := by omega
      exact hX w (h 0 w X hi fun m w' hm _ => by omega)
    | succ n ih =>
      rintro w ⟨m, hm, hi⟩
      exact hX w (h m w X hi fun k w' hk hi' => ih w' ⟨k, by omega, hi'⟩)
  exact key n w ⟨n, Nat.le_refl _, h0⟩

theorem loop1 {B : (Value → World → Prop) → Value → World → Prop} (I : Nat → Value → World → Prop) (h : ∀ n v w X, I n v w → (∀ m v' w', m < n → I m v' w' → X v' w') → B X v w) (n : Nat) {v : Value} (h0 : I n v w) : loopJ 1 B v w := by
  intro X hX
  have key : ∀ n v w, (∃ m, m ≤ n ∧ I m v w) → X v w := by
    intro n
    induction n with
    | zero =>
      rintro v w ⟨m, hm, hi⟩
      obtain rfl : m = 0 := by omega
      exact hX v w (h 0 v w X hi fun m v' w' hm _ => by omega)
    | succ n ih =>
      rintro v w ⟨m, hm, hi⟩
      exact hX v w (h m v w X hi fun k v' w' hk hi' => ih v' w' ⟨k, by omega, hi'⟩)
  exact key n v w ⟨n, Nat.le_refl _, h0⟩

/-- what was made since -/
def New (w : World) (v : Value) : Prop := ∀ b, blkS v = some b → w.heap.size ≤ b

theorem s_bs0 {T E sz : Nat} {ag : Bool} [hT : SlT P T E] [hs : Sz P E sz ag] (h : ∀ v' w', OwnE E sz w' v' [] → Fr none_ w w' → New w v' → K v' w') : opS P (S.buildS T 0 []) K w := by
  rw [opS_buildS0]
  refine h _ _ ⟨.inr ⟨w.heap.size, 0, 0, #[], rfl, heap_alloc_new _ _, by simp, by simp, by simp⟩, by simp⟩ (Fr.alloc _ _ rfl) fun b hb => ?_
  cases hb; exact Nat.le_refl _

theorem s_bs1 {T E sz : Nat} {ag : Bool} {z : Value} [hT : SlT P T E] [hs : Sz P E sz ag] [hz : ZV P E z] {x : List Value} (hx : x.length = sz) (hzn : z.cells.size = sz) (hn : 0 < sz) (hn2 : sz ≤ 2 ^ 24)
    (h : ∀ v' w', OwnE E sz w' v' [x] → Fr none_ w w' → New w v' → K v' w') : opS P (S.buildS T 1 [(0, .agg x.toArray)]) K w := by
  rw [opS_buildS1 _ (by simpa [Value.cells] using hx) hzn hn hn2]
  refine h _ _ ⟨.inr ⟨w.heap.size, 0, 1, x.toArray, rfl, heap_alloc_new _ _, by simp, by simp [hx], ?_⟩, fun e he => ?_⟩ (Fr.alloc _ _ rfl) fun b hb => ?_
  · simp [← hx]
  · simp at he; rw [he]; exact hx
  · cases hb; exact Nat.le_refl _

theorem s_app {T T2 E sz by_ : Nat} {ag : Bool} {z : Value} [hT : SlT P T E] [hT2 : SlT P T2 E] [hs : Sz P E sz ag] [hb : By P E by_] [hz : ZV P E z] {ty : TypeId} {v u : Value} {es fs : List (List Value)} (hzn : z.cells.size = sz) (hby : 0 < by_)
    (hv : OwnE E sz w v es) (hu : RdE sz w u fs) (hk : fs.flatten.all S.oneCell = true) (hroom : (2 * (es.length + fs.length) + 192) * by_ ≤ 2 ^ 48)
    (h : ∀ v' w', OwnE E sz w' v' (es ++ fs) → (blkS v' = blkS v ∨ New w v') → Fr (fun b => blkS v = some b) w w' → K v' w') :
    opS P (S.bi .append #[T, T2] ty [v, u]) K w := by
  refine opS_append hzn hby hv.1 hu.1 hk hroom fun v' w' h1 h2 h3 _ => h v' w' ⟨?_, ?_⟩ ?_ h3
  · rw [List.length_append, List.flatten_append]; exact h1
  · intro e he
    rcases List.mem_append.1 he with he | he
    · exact hv.2 e he
    · exact hu.2 e he
  · rcases h2 with h2 | ⟨b, hb, hle⟩
    · exact .inl h2
    · exact .inr fun b' hb' => by rw [hb] at hb'; cases hb'; exact hle

theorem blkS_part (a : Option Addr) (n c n' c' l sz : Nat) : blkS (.slice (if c = l then a else a.map (·.add (l * sz))) n' c') = blkS (.slice a n c) := by
  split
  · cases a <;> rfl
  · cases a with
    | none => rfl
    | some a =>
      show some (a.add _).block = some a.block
      unfold Addr.add
      split <;> rfl

end Go.Gx
