import Derived.Test.YtijpdcidhbkmmaaGreatP7
/- FlowShut: ports that are shut. It is proved for every input. -/
set_option linter.unusedVariables false
set_option maxRecDepth 100000
namespace Go.Proofs.YtijpdcidhbkmmaaGreat
open Go.ChangeShapes Go.WideShapes Go.ChangeAt Go.RowKit Go.Gx Go.Gx.S

theorem flowShut_readable : ∀ t ∈ Tryz.f6.params.toList, Tryz.prog.readableRec t = true ∧ t < Tryz.prog.types.size := by
  rw [Tryz.params6]
  intro t ht
  simp at ht
  rcases ht with rfl | rfl | rfl <;> exact ⟨by kernel_rfl, of_decide_eq_true (by kernel_rfl)⟩

theorem flowShut_lifted (os : Os) (started : os.Started) (H : Type) (enc : TypeId × Value → H) :
    ReturnsInHanded {} Tryz.checked os 6 .any (Rows.flowShutSpec.pre6 enc Tryz.prog Tryz.f6 Rows.flowShutRow.domain false) (Rows.flowShutSpec.post enc Tryz.prog Tryz.f6 false true false false) := by
  refine law_lifted (C := Tryz.checked) (tb := 4) (n := 3) own started (by kernel_rfl) Tryz.func6
    (ChangeSpec.witness6 (enc := enc) (C := Tryz.checked) false ⟨#[], #[.slice none 0 0, .agg #[.int .i64 0, .int .i64 0, .int .i64 0, .int .i64 0, .bool false, .int .u8 0, .int .u8 0, .int .u8 0, .int .u8 0, .int .u8 0, .int .u8 0, .int .u8 0, .int .u8 0, .int .u8 0, .int .u8 0, .int .u8 0, .int .u8 0, .bool false, .int .i64 0, .int .i64 0, .int .i64 0, .slice none 0 0, .int .i64 0], .int .i64 0], []⟩ 8 (by kernel_rfl) (by kernel_rfl) (by kernel_rfl) (by kernel_rfl))
    laidOut flowShut_readable (by kernel_rfl) uBool rfl (by rw [Tryz.params6]; rfl) (fun ds h => ?_) ?_
  · match ds, h with
    | [a, b, c], _ => rfl
  · intro W base args ds ps hval hA
    have hval : ∀ (j : Nat) t v, Tryz.f6.params[j]? = some t → args[j]? = some v → Value.okWide Tryz.prog W .any base t v := hval
    have hA : DataW.TrodAll enc Tryz.prog W 0 (fun _ => true) true Tryz.f6.params.toList args.toList ds ps := hA
    rw [Tryz.params6] at hA hval
    obtain ⟨v0, v1, v2, d0, d1, d2, p0, p1, p2, rfl, rfl, rfl, h0, h1, h2⟩ := trodAll_three hA
    obtain ⟨st, hso, hst⟩ := arg_wsteps (hval 0 _ v0 rfl rfl) h0
    obtain ⟨s, bs, hs, rfl⟩ := arg_wstep (hval 1 _ v1 rfl rfl) h1
    obtain ⟨q, rfl, _⟩ := arg_int uInt (hval 2 _ v2 rfl rfl) h2
    exact shut_law hst hso hs fun W' hF => ⟨rfl, hF⟩


theorem flowShut_holds : Rows.FlowShutSaid :=
  OpenClaim.holds_of_wide 6 Tryz.f6 rfl rfl rfl rfl rfl rfl rfl ⟨rfl, rfl, rfl, rfl, rfl⟩ rfl rfl rfl rfl rfl (by kernel_rfl) Tryz.func6 (by kernel_rfl)
    (of_decide_eq_true (by kernel_rfl)) (by unfold Func.isWrapper; first | (rw [if_pos (by decide +kernel)]; kernel_rfl) | (rw [if_neg (by decide +kernel)]; exact ⟨rfl, rfl⟩))
    (fun os started H enc _ => flowShut_lifted os started H enc)

end Go.Proofs.YtijpdcidhbkmmaaGreat
