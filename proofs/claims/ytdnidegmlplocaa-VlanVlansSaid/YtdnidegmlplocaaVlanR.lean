/- Steps that come in. -/
import Derived.Test.YtdnidegmlplocaaRows
import Derived.Test.YtdnidegmlplocaaVlan5
import Derived.Test.YtdnidegmlplocaaBaseFrm
set_option linter.unusedVariables false
set_option maxRecDepth 100000
namespace Go.Gx.S
open Go Go.Gx Go.Proofs

theorem ctStep : Try.prog.cellsOf 46 = 4 := by kernel_rfl
theorem ktStep : Try.prog.keyTypeAt 8 46 = true := by kernel_rfl
theorem ktTwo : Try.prog.keyTypeAt 8 28 = true := by kernel_rfl
theorem ctTwo : Try.prog.cellsOf 28 = 2 := by kernel_rfl

theorem stp_dec {cs : List Value} {l : List Lit} (h : Try.prog.keyLits 8 46 cs = some l) : ∃ s : Stp, s.ok ∧ cs = s.cells := by
  obtain ⟨hl, ls, h1, rfl⟩ := kl_struct Try.underlying46 h
  rw [ctStep] at hl
  match cs, hl with
  | [c0, c1, c2, c3], _ =>
  simp only [List.mapM_cons, List.mapM_nil, ctInt, ctBool, bind, Option.bind_eq_some_iff, pure, Option.some.injEq, List.drop_succ_cons, List.drop_zero, List.take_succ_cons, List.take_zero] at h1
  obtain ⟨y0, g0, _, ⟨y1, g1, _, ⟨y2, g2, _, ⟨y3, g3, _, rfl, rfl⟩, rfl⟩, rfl⟩, rfl⟩ := h1
  obtain ⟨k0, e0, rfl, b0⟩ := kl_int uInt g0
  obtain ⟨k1, e1, rfl, b1⟩ := kl_int uInt g1
  obtain ⟨k2, e2, rfl, b2⟩ := kl_int uInt g2
  obtain ⟨k3, e3, rfl⟩ := kl_bool uBool g3
  simp only [List.cons.injEq, and_true] at e0 e1 e2 e3
  subst e0 e1 e2 e3
  exact ⟨⟨k0, k1, k2, k3⟩, ⟨b0, b1, b2⟩, rfl⟩

theorem two_dec {cs : List Value} {l : List Lit} (h : Try.prog.keyLits 8 28 cs = some l) : ∃ a b : Int, isI a ∧ isI b ∧ cs = [i64 a, i64 b] := by
  obtain ⟨hl, ls, h1, rfl⟩ := kl_array Try.underlying28 h
  rw [ctTwo] at hl
  match cs, hl with
  | [c0, c1], _ =>
  simp only [show List.range 2 = [0, 1] from rfl, List.mapM_cons, List.mapM_nil, ctInt, bind, Option.bind_eq_some_iff, pure, Option.some.injEq, Nat.mul_one, List.drop_succ_cons, List.drop_zero, List.take_succ_cons, List.take_zero] at h1
  obtain ⟨y0, g0, _, ⟨y1, g1, _, rfl, rfl⟩, rfl⟩ := h1
  obtain ⟨k0, e0, rfl, b0⟩ := kl_int uInt g0
  obtain ⟨k1, e1, rfl, b1⟩ := kl_int uInt g1
  simp only [List.cons.injEq, and_true] at e0 e1
  subst e0 e1
  exact ⟨k0, k1, b0, b1, rfl⟩

theorem stps_dec {es : List (List Value)} (h : ∀ c ∈ es, ∃ l, Try.prog.keyLits 8 46 c = some l) : ∃ st : List Stp, es = st.map Stp.cells := by
  induction es with
  | nil => exact ⟨[], rfl⟩
  | cons c es ih =>
    obtain ⟨st, h2⟩ := ih fun c hc => h c (List.mem_cons_of_mem _ hc)
    obtain ⟨l, hl⟩ := h c (List.mem_cons_self ..)
    obtain ⟨s, _, rfl⟩ := stp_dec hl
    exact ⟨s :: st, by rw [h2]; rfl⟩

section
variable {H : Type} {enc : TypeId × Value → H} {w : World} {base : Nat} {spare : Nat → Bool} {held : Bool}
theorem arg_steps {base' : Nat} {v : Value} {d : DataW H} {ps : List MemPlace} {r : Reach} (hok : Value.okWide Try.prog w r base' 22 v) (h : DataW.Trod enc Try.prog w base spare held 22 v d ps) : ∃ st : List Stp, RdE 4 w v (st.map Stp.cells) := by
  obtain ⟨es, hes, _, hk⟩ := arg_keys Try.underlying22 ktStep ctStep (by decide) hok h
  obtain ⟨st, rfl⟩ := stps_dec hk
  exact ⟨st, hes⟩
theorem arg_step {base' : Nat} {v : Value} {d : DataW H} {ps : List MemPlace} {r : Reach} (hok : Value.okWide Try.prog w r base' 46 v) (h : DataW.Trod enc Try.prog w base spare held 46 v d ps) : ∃ s : Stp, s.ok ∧ v = .agg s.cells.toArray := by
  obtain ⟨cs, rfl, l, hk⟩ := arg_key (.inl ⟨_, Try.underlying46⟩) ktStep hok h
  obtain ⟨s, hs, rfl⟩ := stp_dec hk
  exact ⟨s, hs, rfl⟩
theorem arg_two {base' : Nat} {v : Value} {d : DataW H} {ps : List MemPlace} {r : Reach} (hok : Value.okWide Try.prog w r base' 28 v) (h : DataW.Trod enc Try.prog w base spare held 28 v d ps) : ∃ a b : Int, isI a ∧ isI b ∧ v = .agg #[i64 a, i64 b] := by
  obtain ⟨cs, rfl, l, hk⟩ := arg_key (.inr ⟨_, _, Try.underlying28⟩) ktTwo hok h
  obtain ⟨a, b, h1, h2, rfl⟩ := two_dec hk
  exact ⟨a, b, h1, h2, rfl⟩
end
end Go.Gx.S
