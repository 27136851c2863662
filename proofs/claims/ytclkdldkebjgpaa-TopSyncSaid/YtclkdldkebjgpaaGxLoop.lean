/- Loops with more values, slices of one cell an element. -/
import Derived.Test.YtclkdldkebjgpaaGxVlan
namespace Go.Gx
open Go
variable {P : Program} {K : Value → World → Prop} {w : World}

theorem loop2 {B : (Value → Value → World → Prop) → Value → Value → World → Prop} (I : Nat → Value → Value → World → Prop) (h : ∀ n v u w X, I n v u w → (∀ m v' u' w', m < n → I m v' u' w' → X v' u' w') → B X v u w) (n : Nat) {v u : Value} (h0 : I n v u w) : loopJ 2 B v u w := by
  intro X hX
  have key : ∀ n v u w, (∃ m, m ≤ n ∧ I m v u w) → X v u w := by
    intro n
    induction n with
    | zero =>
      rintro v u w ⟨m, hm, hi⟩
      obtain rfl : m = 0 := by omega
      exact hX v u w (h 0 v u w X hi fun m v' u' w' hm _ => by omega)
    | succ n ih =>
      rintro v u w ⟨m, hm, hi⟩
      exact hX v u w (h m v u w X hi fun k v' u' w' hk hi' => ih v' u' w' ⟨k, by omega, hi'⟩)
  exact key n v u w ⟨n, Nat.le_refl _, h0⟩

theorem loop3 {B : (Value → Value → Value → World → Prop) → Value → Value → Value → World → Prop} (I : Nat → Value → Value → Value → World → Prop) (h : ∀ n v u x w X, I n v u x w → (∀ m v' u' x' w', m < n → I m v' u' x' w' → X v' u' x' w') → B X v u x w) (n : Nat) {v u x : Value} (h0 : I n v u x w) : loopJ 3 B v u x w := by
  intro X hX
  have key : ∀ n v u x w, (∃ m, m ≤ n ∧ I m v u x w) → X v u x w := by
    intro n
    induction n with
    | zero =>
      rintro v u x w ⟨m, hm, hi⟩
      obtain rfl : m = 0 := by omega
      exact hX v u x w (h 0 v u x w X hi fun m v' u' x' w' hm _ => by omega)
    | succ n ih =>
      rintro v u x w ⟨m, hm, hi⟩
      exact hX v u x w (h m v u x w X hi fun k v' u' x' w' hk hi' => ih v' u' x' w' ⟨k, by omega, hi'⟩)
  exact key n v u x w ⟨n, Nat.le_refl _, h0⟩

theorem jn2 {k : Value → Value → World → Prop} {m : (Value → Value → World → Prop) → World → Prop} (Q : Value → Value → World → Prop) (h1 : ∀ v u w', Q v u w' → k v u w') (h2 : ∀ j : Value → Value → World → Prop, (∀ v u w', Q v u w' → j v u w') → m j w) : jnJ 2 k m w := h2 k h1
theorem jn3 {k : Value → Value → Value → World → Prop} {m : (Value → Value → Value → World → Prop) → World → Prop} (Q : Value → Value → Value → World → Prop) (h1 : ∀ v u x w', Q v u x w' → k v u x w') (h2 : ∀ j : Value → Value → Value → World → Prop, (∀ v u x w', Q v u x w' → j v u x w') → m j w) : jnJ 3 k m w := h2 k h1

theorem s_bs1c {T E : TypeId} {ag : Bool} {z : Value} [hT : SlT P T E] [hs : Sz P E 1 ag] [hz : ZV P E z] {x : Value} (hx : S.oneCell x = true) (hzn : z.cells.size = 1)
    (h : ∀ v' w', OwnE E 1 w' v' [[x]] → Fr none_ w w' → New w v' → K v' w') : opS P (S.buildS T 1 [(0, x)]) K w := by
  have hc : x.cells = #[x] := by cases x <;> first | rfl | cases hx
  rw [opS_buildS1 (n := 1) _ (by rw [hc]; rfl) hzn (by decide) (by decide), hc]
  refine h _ _ ⟨.inr ⟨w.heap.size, 0, 1, #[x], rfl, heap_alloc_new _ _, by simp, by simp, by simp⟩, by simp⟩ (Fr.alloc _ _ rfl) fun b hb => ?_
  cases hb; exact Nat.le_refl _

/-- what is known of a world is all that counts -/
theorem at_w (Q : World → Prop) {G : World → Prop} {W : World} (hQ : Q W) (h : ∀ W, Q W → G W) : G W := h W hQ

/-- whole numbers as elements -/
def cellI (n : Int) : List Value := [i64 n]
theorem flat_cellI (l : List Int) : (l.map cellI).flatten = l.map i64 := by
  induction l with
  | nil => rfl
  | cons b bs ih => simp [cellI, ih]
theorem flat_cellI_one (l : List Int) : (l.map cellI).flatten.all S.oneCell = true := by
  rw [flat_cellI, List.all_map, List.all_eq_true]
  intro x _
  rfl

/-- the empty slice -/
theorem own_nil (E sz : Nat) (w : World) : OwnE E sz w (.slice none 0 0) [] := ⟨.inl ⟨rfl, rfl, rfl⟩, by simp⟩

/-- 'append(v, x)': x has one cell -/
theorem s_app1 {T T2 T3 E by_ : TypeId} {ag : Bool} {z : Value} [hT : SlT P T E] [hT2 : SlT P T2 E] [hT3 : SlT P T3 E] [hs : Sz P E 1 ag] [hb : By P E by_] [hz : ZV P E z] {ty : TypeId} {v : Value} {es : List (List Value)} {x : Value}
    (hx : S.oneCell x = true) (hzn : z.cells.size = 1) (hby : 0 < by_) (hv : OwnE E 1 w v es) (hroom : (2 * (es.length + 1) + 192) * by_ ≤ 2 ^ 48)
    (h : ∀ v' w', OwnE E 1 w' v' (es ++ [[x]]) → (blkS v' = blkS v ∨ New w v') → Fr (fun b => blkS v = some b) w w' → K v' w') :
    opS P (S.buildS T3 1 [(0, x)]) (fun y => opS P (S.bi .append #[T, T2] ty [v, y]) K) w := by
  refine s_bs1c hx hzn fun y w1 hy hF1 hN => ?_
  have hv1 := hv.fr hF1 (fun _ _ h => h)
  refine s_app hzn hby hv1 hy.rd (by simp [hx]) (by simpa using hroom) fun v' w' h1 h2 h3 => h v' w' h1 ?_ (Fr.trans (hF1.mono fun _ _ h => h.elim) h3)
  rcases h2 with h2 | h2
  · exact .inl h2
  · exact .inr fun b hb => Nat.le_trans hF1.size (h2 b hb)

theorem splice_get {l vs : List Value} {o : Nat} (h : o + vs.length ≤ l.length) (j : Nat) : (splice l o vs)[j]? = if j < o then l[j]? else if j < o + vs.length then vs[j - o]? else l[j]? := by
  unfold splice
  have ht : (l.take o).length = o := by rw [List.length_take]; omega
  by_cases h1 : j < o
  · rw [if_pos h1, List.append_assoc, List.getElem?_append_left (by omega), List.getElem?_take_of_lt h1]
  · rw [if_neg h1]
    by_cases h2 : j < o + vs.length
    · rw [if_pos h2, List.append_assoc, List.getElem?_append_right (by omega), ht, List.getElem?_append_left (by omega)]
    · rw [if_neg h2, List.getElem?_append_right (by rw [List.length_append]; omega), List.length_append, ht, List.getElem?_drop]
      congr 1
      omega

/-- one cell of an element -/
theorem splice_field {l e : List Value} {p f : Nat} {v : Value} (h : p + e.length ≤ l.length) (he : (l.drop p).take e.length = e) (hf : f < e.length) : splice l (p + f) [v] = splice l p (e.set f v) := by
  apply List.ext_getElem?
  intro j
  rw [splice_get (by simp; omega), splice_get (by simp; omega)]
  simp only [List.length_singleton, List.length_set]
  by_cases h1 : j < p
  · rw [if_pos (by omega), if_pos h1]
  · rw [if_neg h1]
    by_cases h2 : j < p + e.length
    · rw [if_pos h2, List.getElem?_set]
      have hj : l[j]? = e[j - p]? := by
        have : ((l.drop p).take e.length)[j - p]? = e[j - p]? := by rw [he]
        rw [List.getElem?_take_of_lt (by omega), List.getElem?_drop] at this
        rw [← this]; congr 1; omega
      by_cases h3 : j < p + f
      · rw [if_pos h3, if_neg (by omega), hj]
      · rw [if_neg h3]
        by_cases h4 : j = p + f
        · subst h4
          rw [if_pos (by omega), if_pos (by omega), if_pos hf]
          simp
        · rw [if_neg (by omega), if_neg (by omega), hj]
    · rw [if_neg (by omega), if_neg (by omega), if_neg h2]

/-- one cell of an element is written -/
theorem OwnE.putF {E sz : Nat} {b o c i f : Nat} {es : List (List Value)} (h : OwnE E sz w (.slice (some ⟨b, o, none⟩) es.length c) es) (hi : i < es.length) (hf : f < sz) (v : Value) :
    okAt w.heap[b]? (o + i * sz + f) 1 = true ∧ OwnE E sz (wr w b (o + i * sz + f) [v]) (.slice (some ⟨b, o, none⟩) es.length c) (es.set i (es[i].set f v)) := by
  have hlen := h.2 _ (List.getElem_mem hi)
  obtain ⟨h1, h2⟩ := h.put (i := i) (e := es[i].set f v) (by rw [List.length_set, hlen]) hi
  obtain ⟨g1, g2⟩ := h
  rcases g1 with ⟨g1, _⟩ | ⟨b', o', c', cs, hv, hb, hc, ho, hl⟩
  · cases g1
  · simp only [Value.slice.injEq, Option.some.injEq, Addr.mk.injEq] at hv
    obtain ⟨⟨rfl, rfl, _⟩, _, rfl⟩ := hv
    have hm : i * sz + sz ≤ es.length * sz := by rw [← Nat.succ_mul]; exact Nat.mul_le_mul_right _ hi
    have hm2 : es.length * sz ≤ c * sz := Nat.mul_le_mul_right _ hc
    have hel : (cs.toList.drop (o + i * sz)).take es[i].length = es[i] := by
      have := flatten_elem g2 hi 0 sz (by omega)
      rw [hl, Nat.add_zero, List.drop_zero, List.drop_take, List.drop_drop, List.take_take, Nat.min_eq_left (by omega)] at this
      rw [hlen, this, List.take_of_length_le (by omega)]
    refine ⟨?_, ?_⟩
    · rw [hb]
      show (decide (o + i * sz + f + 1 ≤ cs.size) && _) = true
      simp only [Bool.and_eq_true, decide_eq_true_eq, List.all_eq_true]
      exact ⟨by omega, fun x _ => by simp⟩
    · have hw : wr w b (o + i * sz + f) [v] = wr w b (o + i * sz) (es[i].set f v) := by
        unfold wr
        rw [hb]
        simp only []
        have hle : o + i * sz + es[i].length ≤ cs.toList.length := by have e2 : cs.toList.length = cs.size := Array.length_toList; omega
        rw [splice_field hle hel (by omega)]
      rw [hw]
      exact h2

end Go.Gx
