/- Steps that come in. -/
import Derived.Test.YtclkdldkebjgpaaRows
import Derived.Test.YtclkdldkebjgpaaTopS
import Derived.Test.YtclkdldkebjgpaaGxArg
set_option linter.unusedVariables false
set_option maxRecDepth 100000
namespace Go.Gx.S
open Go Go.Gx Go.Proofs

theorem ctStep : Try.prog.cellsOf 36 = 11 := by kernel_rfl
theorem ktStep : Try.prog.keyTypeAt 8 36 = true := by kernel_rfl

theorem step_dec {cs : List Value} {l : List Lit} (h : Try.prog.keyLits 8 36 cs = some l) : ∃ s : FStp, s.ok ∧ cs = s.cells := by
  obtain ⟨hl, ls, h1, rfl⟩ := kl_struct Try.underlying36 h
  rw [ctStep] at hl
  match cs, hl with
  | [c0, c1, c2, c3, c4, c5, c6, c7, c8, c9, c10], _ =>
  simp only [List.mapM_cons, List.mapM_nil, ctInt, ctMac, bind, Option.bind_eq_some_iff, pure, Option.some.injEq, List.drop_succ_cons, List.drop_zero, List.take_succ_cons, List.take_zero] at h1
  obtain ⟨y0, g0, _, ⟨y1, g1, _, ⟨y2, g2, _, ⟨y3, g3, _, ⟨y4, g4, _, ⟨y5, g5, _, rfl, rfl⟩, rfl⟩, rfl⟩, rfl⟩, rfl⟩, rfl⟩ := h1
  obtain ⟨k0, e0, rfl, b0⟩ := kl_int uInt g0
  obtain ⟨k1, e1, rfl, b1⟩ := kl_int uInt g1
  obtain ⟨m, hm, e2, _⟩ := MacT.dec (d := 5) g2
  obtain ⟨k3, e3, rfl, b3⟩ := kl_int uInt g3
  obtain ⟨k4, e4, rfl, b4⟩ := kl_int uInt g4
  obtain ⟨k5, e5, rfl, b5⟩ := kl_int uInt g5
  simp only [List.cons.injEq, and_true] at e0 e1 e3 e4 e5
  subst e0 e1 e3 e4 e5
  refine ⟨⟨k0, k1, m, k3, k4, k5⟩, ⟨b0, b1, hm, b3, b4, b5⟩, ?_⟩
  simp only [Mac.cells, List.cons.injEq, and_true] at e2
  obtain ⟨rfl, rfl, rfl, rfl, rfl, rfl⟩ := e2
  rfl

theorem stps_dec {es : List (List Value)} (h : ∀ c ∈ es, ∃ l, Try.prog.keyLits 8 36 c = some l) : ∃ st : List FStp, (∀ s ∈ st, s.ok) ∧ es = st.map FStp.cells := by
  induction es with
  | nil => exact ⟨[], by simp, rfl⟩
  | cons c es ih =>
    obtain ⟨st, h1, h2⟩ := ih fun c hc => h c (List.mem_cons_of_mem _ hc)
    obtain ⟨l, hl⟩ := h c (List.mem_cons_self ..)
    obtain ⟨s, hs, rfl⟩ := step_dec hl
    refine ⟨s :: st, fun x hx => ?_, by rw [h2]; rfl⟩
    rcases List.mem_cons.1 hx with rfl | hx
    · exact hs
    · exact h1 x hx

section
variable {H : Type} {enc : TypeId × Value → H} {w : World} {base : Nat} {spare : Nat → Bool} {held : Bool}
theorem arg_steps {base' : Nat} {v : Value} {d : DataW H} {ps : List MemPlace} {r : Reach} (hok : Value.okWide Try.prog w r base' 22 v) (h : DataW.Trod enc Try.prog w base spare held 22 v d ps) : ∃ st : List FStp, (∀ s ∈ st, s.ok) ∧ RdE 11 w v (st.map FStp.cells) := by
  obtain ⟨es, hes, _, hk⟩ := arg_keys Try.underlying22 ktStep ctStep (by decide) hok h
  obtain ⟨st, h1, rfl⟩ := stps_dec hk
  exact ⟨st, h1, hes⟩
theorem arg_step {base' : Nat} {v : Value} {d : DataW H} {ps : List MemPlace} {r : Reach} (hok : Value.okWide Try.prog w r base' 36 v) (h : DataW.Trod enc Try.prog w base spare held 36 v d ps) : ∃ s : FStp, s.ok ∧ v = .agg s.cells.toArray := by
  obtain ⟨cs, rfl, l, hk⟩ := arg_key (.inl ⟨_, Try.underlying36⟩) ktStep hok h
  obtain ⟨s, hs, rfl⟩ := step_dec hk
  exact ⟨s, hs, rfl⟩
end
end Go.Gx.S
