/- Entries, steps that come in. -/
import Derived.Test.YtogbkljoganbhaaRows
import Derived.Test.YtogbkljoganbhaaRep5
import Derived.Test.YtogbkljoganbhaaGxArg
set_option linter.unusedVariables false
set_option maxRecDepth 100000
namespace Go.Gx.S
open Go Go.Gx Go.Proofs

theorem ctStep : Try.prog.cellsOf 38 = 11 := by kernel_rfl
theorem ktStep : Try.prog.keyTypeAt 8 38 = true := by kernel_rfl
theorem ktEnt : Try.prog.keyTypeAt 8 36 = true := by kernel_rfl
theorem ktTwo : Try.prog.keyTypeAt 8 54 = true := by kernel_rfl
theorem ctTwo : Try.prog.cellsOf 54 = 2 := by kernel_rfl

theorem step_dec {cs : List Value} {l : List Lit} (h : Try.prog.keyLits 8 38 cs = some l) : ∃ s : Ent × Bool, s.1.ok ∧ cs = stE s := by
  obtain ⟨hl, ls, h1, rfl⟩ := kl_struct Try.underlying38 h
  rw [ctStep] at hl
  match cs, hl with
  | [c0, c1, c2, c3, c4, c5, c6, c7, c8, c9, c10], _ =>
  simp only [List.mapM_cons, List.mapM_nil, ctEnt, ctBool, bind, Option.bind_eq_some_iff, pure, Option.some.injEq, List.drop_succ_cons, List.drop_zero, List.take_succ_cons, List.take_zero] at h1
  obtain ⟨y0, g0, _, ⟨y1, g1, _, rfl, rfl⟩, rfl⟩ := h1
  obtain ⟨e, he, h0, rfl⟩ := EntT.dec (d := 4) g0
  obtain ⟨b, h2, rfl⟩ := kl_bool uBool g1
  simp only [Ent.cells, Mac.cells, List.cons_append, List.nil_append, List.cons.injEq, and_true] at h0 h2
  obtain ⟨rfl, rfl, rfl, rfl, rfl, rfl, rfl, rfl, rfl, rfl⟩ := h0
  subst h2
  exact ⟨(e, b), he, rfl⟩

theorem two_dec {cs : List Value} {l : List Lit} (h : Try.prog.keyLits 8 54 cs = some l) : ∃ a b : Int, isI a ∧ isI b ∧ cs = [i64 a, i64 b] := by
  obtain ⟨hl, ls, h1, rfl⟩ := kl_array Try.underlying54 h
  rw [ctTwo] at hl
  match cs, hl with
  | [c0, c1], _ =>
  simp only [show List.range 2 = [0, 1] from rfl, List.mapM_cons, List.mapM_nil, ctInt, bind, Option.bind_eq_some_iff, pure, Option.some.injEq, Nat.mul_one, List.drop_succ_cons, List.drop_zero, List.take_succ_cons, List.take_zero] at h1
  obtain ⟨y0, g0, _, ⟨y1, g1, _, rfl, rfl⟩, rfl⟩ := h1
  obtain ⟨k0, e0, rfl, b0⟩ := kl_int uInt g0
  obtain ⟨k1, e1, rfl, b1⟩ := kl_int uInt g1
  simp only [List.cons.injEq, and_true] at e0 e1
  subst e0 e1
  exact ⟨k0, k1, b0, b1, rfl⟩

theorem steps_dec {es : List (List Value)} (h : ∀ c ∈ es, ∃ l, Try.prog.keyLits 8 38 c = some l) : ∃ st : List (Ent × Bool), (∀ s ∈ st, s.1.ok) ∧ es = st.map stE := by
  induction es with
  | nil => exact ⟨[], by simp, rfl⟩
  | cons c es ih =>
    obtain ⟨st, h1, h2⟩ := ih fun c hc => h c (List.mem_cons_of_mem _ hc)
    obtain ⟨l, hl⟩ := h c (List.mem_cons_self ..)
    obtain ⟨s, hs, rfl⟩ := step_dec hl
    refine ⟨s :: st, fun x hx => ?_, by rw [h2]; rfl⟩
    rcases List.mem_cons.1 hx with rfl | hx
    · exact hs
    · exact h1 x hx

theorem ents_dec {es : List (List Value)} (h : ∀ c ∈ es, ∃ l, Try.prog.keyLits 8 36 c = some l) : ∃ l : List Ent, (∀ e ∈ l, e.ok) ∧ es = l.map Ent.cells := by
  induction es with
  | nil => exact ⟨[], by simp, rfl⟩
  | cons c es ih =>
    obtain ⟨st, h1, h2⟩ := ih fun c hc => h c (List.mem_cons_of_mem _ hc)
    obtain ⟨l, hl⟩ := h c (List.mem_cons_self ..)
    obtain ⟨e, he, rfl, _⟩ := EntT.dec (d := 5) hl
    refine ⟨e :: st, fun x hx => ?_, by rw [h2]; rfl⟩
    rcases List.mem_cons.1 hx with rfl | hx
    · exact he
    · exact h1 x hx

section
variable {H : Type} {enc : TypeId × Value → H} {w : World} {base : Nat} {spare : Nat → Bool} {held : Bool}
theorem arg_steps {base' : Nat} {v : Value} {d : DataW H} {ps : List MemPlace} {r : Reach} (hok : Value.okWide Try.prog w r base' 22 v) (h : DataW.Trod enc Try.prog w base spare held 22 v d ps) : ∃ st : List (Ent × Bool), (∀ s ∈ st, s.1.ok) ∧ RdE 11 w v (st.map stE) := by
  obtain ⟨es, hes, _, hk⟩ := arg_keys Try.underlying22 ktStep ctStep (by decide) hok h
  obtain ⟨st, h1, rfl⟩ := steps_dec hk
  exact ⟨st, h1, hes⟩
theorem arg_ents {base' : Nat} {v : Value} {d : DataW H} {ps : List MemPlace} {r : Reach} (hok : Value.okWide Try.prog w r base' 49 v) (h : DataW.Trod enc Try.prog w base spare held 49 v d ps) : ∃ l : List Ent, (∀ e ∈ l, e.ok) ∧ RdE 10 w v (l.map Ent.cells) := by
  obtain ⟨es, hes, _, hk⟩ := arg_keys Try.underlying49 ktEnt ctEnt (by decide) hok h
  obtain ⟨st, h1, rfl⟩ := ents_dec hk
  exact ⟨st, h1, hes⟩
theorem arg_two {base' : Nat} {v : Value} {d : DataW H} {ps : List MemPlace} {r : Reach} (hok : Value.okWide Try.prog w r base' 54 v) (h : DataW.Trod enc Try.prog w base spare held 54 v d ps) : ∃ a b : Int, isI a ∧ isI b ∧ v = .agg #[i64 a, i64 b] := by
  obtain ⟨cs, rfl, l, hk⟩ := arg_key (.inr ⟨_, _, Try.underlying54⟩) ktTwo hok h
  obtain ⟨a, b, h1, h2, rfl⟩ := two_dec hk
  exact ⟨a, b, h1, h2, rfl⟩
end
end Go.Gx.S
