import Derived.Test.YtoddhogpokemdaaGreatA6
/- AggPicks: behind a Tick selected ports are no more than most; only selected ones send. It is proved for every input. -/
set_option linter.unusedVariables false
set_option maxRecDepth 100000
namespace Go.Proofs.YtoddhogpokemdaaGreat
open Go.ChangeShapes Go.WideShapes Go.ChangeAt Go.RowKit Go.Gx Go.Gx.S

theorem aggPicks_readable : ∀ t ∈ Tryz.f3.params.toList, Tryz.prog.readableRec t = true ∧ t < Tryz.prog.types.size := by
  rw [Tryz.params3]
  intro t ht
  simp at ht
  rcases ht with rfl | rfl | rfl <;> exact ⟨by kernel_rfl, of_decide_eq_true (by kernel_rfl)⟩

theorem aggPicks_lifted (os : Os) (started : os.Started) (H : Type) (enc : TypeId × Value → H) :
    ReturnsInHanded {} Tryz.checked os 3 .any (Rows.aggPicksSpec.pre6 enc Tryz.prog Tryz.f3 Rows.aggPicksRow.domain false) (Rows.aggPicksSpec.post enc Tryz.prog Tryz.f3 false true false false) := by
  refine law_lifted (C := Tryz.checked) (tb := 4) (n := 3) own started (by kernel_rfl) Tryz.func3
    (ChangeSpec.witness6 (enc := enc) (C := Tryz.checked) false ⟨#[], #[.slice none 0 0, .int .i64 0, .slice none 0 0], []⟩ 8 (by kernel_rfl) (by kernel_rfl) (by kernel_rfl) (by kernel_rfl))
    laidOut aggPicks_readable (by kernel_rfl) uBool rfl (by rw [Tryz.params3]; rfl) (fun ds h => ?_) ?_
  · match ds, h with
    | [a, b, c], _ => rfl
  · intro W base args ds ps hval hA
    have hval : ∀ (j : Nat) t v, Tryz.f3.params[j]? = some t → args[j]? = some v → Value.okWide Tryz.prog W .any base t v := hval
    have hA : DataW.TrodAll enc Tryz.prog W 0 (fun _ => true) true Tryz.f3.params.toList args.toList ds ps := hA
    rw [Tryz.params3] at hA hval
    obtain ⟨v0, v1, v2, d0, d1, d2, p0, p1, p2, rfl, rfl, rfl, h0, h1, h2⟩ := trodAll_three hA
    obtain ⟨ports, _, hc⟩ := arg_ints (hval 0 _ v0 rfl rfl) h0
    obtain ⟨m, rfl, _⟩ := arg_int uInt (hval 1 _ v1 rfl rfl) h1
    obtain ⟨st, hso, hst⟩ := arg_asts (hval 2 _ v2 rfl rfl) h2
    exact picks_law hc hst hso fun W' hF => ⟨rfl, hF⟩


theorem aggPicks_holds : Rows.AggPicksSaid :=
  OpenClaim.holds_of_wide 3 Tryz.f3 rfl rfl rfl rfl rfl rfl rfl ⟨rfl, rfl, rfl, rfl, rfl⟩ rfl rfl rfl rfl rfl (by kernel_rfl) Tryz.func3 (by kernel_rfl)
    (of_decide_eq_true (by kernel_rfl)) (by unfold Func.isWrapper; first | (rw [if_pos (by decide +kernel)]; kernel_rfl) | (rw [if_neg (by decide +kernel)]; exact ⟨rfl, rfl⟩))
    (fun os started H enc _ => aggPicks_lifted os started H enc)

end Go.Proofs.YtoddhogpokemdaaGreat
