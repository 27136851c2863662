/- What comes in: keys, structs. -/
import Derived.Test.YtclkdldkebjgpaaGxVlan2
namespace Go.Gx
open Go Go.ChangeShapes Go.WideShapes Go.ChangeAt Go.RowKit
section
variable {H : Type} {enc : TypeId × Value → H} {P : Program} {w : World} {base : Nat} {spare : Nat → Bool} {held : Bool}

/-- a struct, or an array, that comes in -/
theorem arg_agg {t base' : Nat} {v : Value} {d : DataW H} {ps : List MemPlace} {r : Reach} (hu : (∃ fs, P.underlying t = some (.struct fs)) ∨ ∃ n e, P.underlying t = some (.array n e)) (hok : Value.okWide P w r base' t v) (h : DataW.Trod enc P w base spare held t v d ps) :
    ∃ cs : List Value, v = .agg cs.toArray ∧ ∃ n, DataW.trod enc P w base spare held n t cs = some (d, ps) := by
  obtain ⟨fuel, h⟩ := h
  unfold Value.okWide at hok
  rcases hu with ⟨fs, hu⟩ | ⟨n, e, hu⟩
  · simp only [hu] at hok
    obtain ⟨cs, rfl, _⟩ := hok
    exact ⟨cs.toList, by simp, fuel, h⟩
  · simp only [hu] at hok
    obtain ⟨cs, rfl, _⟩ := hok
    exact ⟨cs.toList, by simp, fuel, h⟩

/-- .. that may be a key -/
theorem arg_key {t base' : Nat} {v : Value} {d : DataW H} {ps : List MemPlace} {r : Reach} (hu : (∃ fs, P.underlying t = some (.struct fs)) ∨ ∃ n e, P.underlying t = some (.array n e)) (hk : P.keyTypeAt 8 t = true) (hok : Value.okWide P w r base' t v) (h : DataW.Trod enc P w base spare held t v d ps) :
    ∃ cs : List Value, v = .agg cs.toArray ∧ ∃ l, P.keyLits 8 t cs = some l := by
  obtain ⟨cs, h1, n, h2⟩ := arg_agg hu hok h
  exact ⟨cs, h1, _, (keyLits_of_trod 8 t hk n cs _ h2).1⟩

/-- bytes that come in -/
theorem trod_bytes {t e n : Nat} {v : Value} {x : DataW H × List MemPlace} (ht : P.underlying t = some (.slice e)) (he : P.underlying e = some (.int .u8)) (hc : P.cellsOf e = 1) (h : DataW.trod enc P w base spare held n t [v] = some x) :
    ∃ bs, ByR w v bs ∧ bs.length ≤ maxLen := by
  obtain ⟨es, h1, h2, h3⟩ := open_rd ht hc (by decide) h
  have key : ∃ bs : List Int, es = bs.map cell1 ∧ ∀ b ∈ bs, isB b := by
    clear h1 h2
    induction es with
    | nil => exact ⟨[], rfl, by simp⟩
    | cons c es ih =>
      obtain ⟨bs, hb, hbs⟩ := ih fun c hc => h3 c (List.mem_cons_of_mem _ hc)
      obtain ⟨m, y, hy⟩ := h3 c (List.mem_cons_self ..)
      obtain ⟨z, rfl, _, hw⟩ := DataW.trod_int he hy
      refine ⟨z :: bs, by rw [hb]; rfl, fun b hb => ?_⟩
      rcases List.mem_cons.1 hb with rfl | hb
      · simp only [Lit.wf, Bool.and_eq_true, decide_eq_true_eq] at hw
        exact hw
      · exact hbs b hb
  obtain ⟨bs, rfl, hbs⟩ := key
  exact ⟨bs, ⟨h1, hbs⟩, by simpa using h2⟩

theorem arg_bytes {t e base' : Nat} {v : Value} {d : DataW H} {ps : List MemPlace} {r : Reach} (ht : P.underlying t = some (.slice e)) (he : P.underlying e = some (.int .u8)) (hc : P.cellsOf e = 1) (hok : Value.okWide P w r base' t v) (h : DataW.Trod enc P w base spare held t v d ps) :
    ∃ bs, ByR w v bs ∧ bs.length ≤ maxLen := by
  obtain ⟨fuel, h⟩ := h
  rw [okWide_slice ht hok] at h
  exact trod_bytes ht he hc h

end
end Go.Gx
