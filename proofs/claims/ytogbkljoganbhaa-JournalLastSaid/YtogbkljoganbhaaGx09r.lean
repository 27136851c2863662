/- What steps and changes are as cells. -/
import Derived.Test.YtogbkljoganbhaaRows
import Derived.Test.YtogbkljoganbhaaGxTypes
import Derived.Test.YtogbkljoganbhaaGx09h
set_option maxRecDepth 100000
namespace Go.Proofs.Ytogbkljoganbhaa
open Go.ChangeShapes Go.WideShapes Go.ChangeAt Go.RowKit Go.Gx Go.Gx.S09

theorem own : ownKnob Try.prog.godebug = none := by kernel_rfl
theorem laidOut : laidOutB Try.prog = true := by kernel_rfl
theorem cells3 : Try.prog.cellsOf 3 = 1 := by kernel_rfl
theorem cells4 : Try.prog.cellsOf 4 = 1 := by kernel_rfl
theorem cells5 : Try.prog.cellsOf 5 = 1 := by kernel_rfl
theorem cells34 : Try.prog.cellsOf 34 = 6 := by kernel_rfl
theorem cells36 : Try.prog.cellsOf 36 = 10 := by kernel_rfl
theorem cells38 : Try.prog.cellsOf 38 = 11 := by kernel_rfl
theorem cells48 : Try.prog.cellsOf 48 = 12 := by kernel_rfl
instance : MacT Try.prog 34 5 := ⟨Try.underlying34, Try.underlying5, cells5, cells34⟩
instance : EntT Try.prog 36 3 34 4 := ⟨⟨_, _, _, _, _, _, _, _, _, _, _, _, _, _, _, Try.underlying36, by decide, by decide, by decide, by decide, by decide⟩, Try.underlying3, Try.underlying4, cells3, cells4, cells36⟩

theorem step_dec {cs : List Value} {l : List Lit} (h : Try.prog.keyLits 8 38 cs = some l) : ∃ (e : Ent) (g : Bool), e.ok ∧ cs = stepC (e.cells, g) := by
  obtain ⟨hl, ls, h1, rfl⟩ := kl_struct Try.underlying38 h
  rw [cells38] at hl
  match cs, hl with
  | [c0, c1, c2, c3, c4, c5, c6, c7, c8, c9, c10], _ =>
  simp only [List.mapM_cons, List.mapM_nil, cells36, cells4, bind, Option.bind_eq_some_iff, pure, Option.some.injEq, List.drop_succ_cons, List.drop_zero, List.take_succ_cons, List.take_zero] at h1
  obtain ⟨y0, g0, _, ⟨y1, g1, _, rfl, rfl⟩, rfl⟩ := h1
  obtain ⟨e, he, h0, rfl⟩ := EntT.dec (d := 4) g0
  obtain ⟨b, h2, rfl⟩ := kl_bool Try.underlying4 g1
  simp only [Ent.cells, List.cons.injEq, and_true] at h0 h2
  obtain ⟨rfl, rfl, rfl, rfl, rfl, rfl, rfl, rfl, rfl, rfl⟩ := h0
  subst h2
  exact ⟨e, b, he, rfl⟩

theorem chg_enc {i : Nat} {e : Ent} {g : Bool} (he : e.ok) (hi : i < 2 ^ 62) : Try.prog.keyLits 8 48 (chg i e.cells g) = some ([[.int .i64 i], e.lits, [.bool g]] : List (List Lit)).flatten := by
  refine kl_struct_mk (ls := [[_], e.lits, [_]]) Try.underlying48 (by simp) (by rw [cells48]; rfl) ?_
  simp only [List.mapM_cons, List.mapM_nil, cells36, cells3, cells4, chg, Ent.cells, bind, Option.bind_eq_some_iff, pure, Option.some.injEq, List.cons_append, List.nil_append, List.drop_succ_cons, List.drop_zero, List.take_succ_cons, List.take_zero]
  have hb : isI (i : Int) := isI_iff.2 (by omega)
  exact ⟨_, kl_int_mk Try.underlying3 hb, _, ⟨_, EntT.enc (d := 4) he, _, ⟨_, kl_bool_mk Try.underlying4, _, rfl, rfl⟩, rfl⟩, rfl⟩

theorem steps_dec {es : List (List Value)} (h : ∀ c ∈ es, ∃ l, Try.prog.keyLits 8 38 c = some l) : ∃ st : List (Ent × Bool), (∀ x ∈ st, x.1.ok) ∧ es = (st.map fun x => (x.1.cells, x.2)).map stepC := by
  induction es with
  | nil => exact ⟨[], by simp, rfl⟩
  | cons c es ih =>
    obtain ⟨st, h1, h2⟩ := ih fun c hc => h c (List.mem_cons_of_mem _ hc)
    obtain ⟨l, hl⟩ := h c (List.mem_cons_self ..)
    obtain ⟨e, g, he, rfl⟩ := step_dec hl
    refine ⟨(e, g) :: st, fun x hx => ?_, by rw [h2]; rfl⟩
    rcases List.mem_cons.1 hx with rfl | hx
    · exact he
    · exact h1 x hx

end Go.Proofs.Ytogbkljoganbhaa
