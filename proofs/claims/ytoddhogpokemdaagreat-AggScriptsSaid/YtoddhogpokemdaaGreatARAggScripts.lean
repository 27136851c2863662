import Derived.Test.YtoddhogpokemdaaGreatA6
/- AggScripts: a group of any ports does any steps, as the document says. It is proved for every input. -/
set_option linter.unusedVariables false
set_option maxRecDepth 100000
namespace Go.Proofs.YtoddhogpokemdaaGreat
open Go.ChangeShapes Go.WideShapes Go.ChangeAt Go.RowKit Go.Gx Go.Gx.S

theorem aggScripts_readable : ∀ t ∈ Tryz.f4.params.toList, Tryz.prog.readableRec t = true ∧ t < Tryz.prog.types.size := by
  rw [Tryz.params4]
  intro t ht
  simp at ht
  rcases ht with rfl | rfl | rfl <;> exact ⟨by kernel_rfl, of_decide_eq_true (by kernel_rfl)⟩

theorem aggScripts_lifted (os : Os) (started : os.Started) (H : Type) (enc : TypeId × Value → H) :
    ReturnsInHanded {} Tryz.checked os 4 .any (Rows.aggScriptsSpec.pre6 enc Tryz.prog Tryz.f4 Rows.aggScriptsRow.domain false) (Rows.aggScriptsSpec.post enc Tryz.prog Tryz.f4 false true false false) := by
  refine law_lifted (C := Tryz.checked) (tb := 4) (n := 3) own started (by kernel_rfl) Tryz.func4
    (ChangeSpec.witness6 (enc := enc) (C := Tryz.checked) false ⟨#[], #[.agg #[.int .i64 0, .int .i64 0, .int .i64 0], .slice none 0 0, .slice none 0 0], []⟩ 8 (by kernel_rfl) (by kernel_rfl) (by kernel_rfl) (by kernel_rfl))
    laidOut aggScripts_readable (by kernel_rfl) uBool rfl (by rw [Tryz.params4]; rfl) (fun ds h => ?_) ?_
  · match ds, h with
    | [a, b, c], _ => rfl
  · intro W base args ds ps hval hA
    have hval : ∀ (j : Nat) t v, Tryz.f4.params[j]? = some t → args[j]? = some v → Value.okWide Tryz.prog W .any base t v := hval
    have hA : DataW.TrodAll enc Tryz.prog W 0 (fun _ => true) true Tryz.f4.params.toList args.toList ds ps := hA
    rw [Tryz.params4] at hA hval
    obtain ⟨v0, v1, v2, d0, d1, d2, p0, p1, p2, rfl, rfl, rfl, h0, h1, h2⟩ := trodAll_three hA
    obtain ⟨a, b, c, ha, _, _, rfl⟩ := arg_int3 (hval 0 _ v0 rfl rfl) h0
    obtain ⟨ports, _, hc⟩ := arg_ints (hval 1 _ v1 rfl rfl) h1
    obtain ⟨st, hso, hst⟩ := arg_asts (hval 2 _ v2 rfl rfl) h2
    exact scripts_law ha hc hst hso fun W' hF => ⟨rfl, hF⟩


theorem aggScripts_holds : Rows.AggScriptsSaid :=
  OpenClaim.holds_of_wide 4 Tryz.f4 rfl rfl rfl rfl rfl rfl rfl ⟨rfl, rfl, rfl, rfl, rfl⟩ rfl rfl rfl rfl rfl (by kernel_rfl) Tryz.func4 (by kernel_rfl)
    (of_decide_eq_true (by kernel_rfl)) (by unfold Func.isWrapper; first | (rw [if_pos (by decide +kernel)]; kernel_rfl) | (rw [if_neg (by decide +kernel)]; exact ⟨rfl, rfl⟩))
    (fun os started H enc _ => aggScripts_lifted os started H enc)

end Go.Proofs.YtoddhogpokemdaaGreat
