/- JournalLast: numbers rise by one; a journal knows just its room's last ones. It is proved for every input. -/
import Derived.Test.YtogbkljoganbhaaGx09r
import Derived.Test.YtogbkljoganbhaaGx09j
set_option maxRecDepth 100000
namespace Go.Proofs.Ytogbkljoganbhaa
open Go.ChangeShapes Go.WideShapes Go.ChangeAt Go.RowKit Go.Gx Go.Gx.S09

theorem readable4 : ∀ t ∈ Try.f4.params.toList, Try.prog.readableRec t = true ∧ t < Try.prog.types.size := by
  rw [Try.params4]
  intro t ht
  simp at ht
  rcases ht with rfl | rfl | rfl <;> exact ⟨by kernel_rfl, of_decide_eq_true (by kernel_rfl)⟩

theorem journalLast_lifted (os : Os) (started : os.Started) (H : Type) (enc : TypeId × Value → H) :
    ReturnsInHanded {} Try.checked os 4 .any (Rows.journalLastSpec.pre6 enc Try.prog Try.f4 Rows.journalLastRow.domain false) (Rows.journalLastSpec.post enc Try.prog Try.f4 false true false false) := by
  refine law_lifted (C := Try.checked) (tb := 4) (n := 3) own started (by kernel_rfl) Try.func4
    (ChangeSpec.witness6 (enc := enc) (C := Try.checked) false ⟨#[], #[.int .i64 0, .slice none 0 0, .int .i64 0], []⟩ 8 (by kernel_rfl) (by kernel_rfl) (by kernel_rfl) (by kernel_rfl))
    laidOut readable4 (by kernel_rfl) Try.underlying4 rfl (by rw [Try.params4]; rfl) (fun ds h => ?_) ?_
  · match ds, h with
    | [a, b, c], _ => rfl
  · intro W base args ds ps hval hA
    have hval : ∀ (j : Nat) t v, Try.f4.params[j]? = some t → args[j]? = some v → Value.okWide Try.prog W .any base t v := hval
    have hA : DataW.TrodAll enc Try.prog W 0 (fun _ => true) true Try.f4.params.toList args.toList ds ps := hA
    rw [Try.params4] at hA hval
    obtain ⟨v0, v1, v2, d0, d1, d2, p0, p1, p2, rfl, rfl, rfl, h0, h1, h2⟩ := trodAll_three hA
    obtain ⟨room, rfl, hr⟩ := arg_int Try.underlying3 (hval 0 3 v0 rfl rfl) h0
    obtain ⟨seq, rfl, hs⟩ := arg_int Try.underlying3 (hval 2 3 v2 rfl rfl) h2
    obtain ⟨es, hes, hlen, hk⟩ := arg_keys Try.underlying22 (by kernel_rfl) cells38 (by decide) (hval 1 22 v1 rfl rfl) h1
    obtain ⟨st, hst, rfl⟩ := steps_dec hk
    refine last_law hs hr hes (fun h hh => ?_) (fun x hx => ?_) (fun W' hF => ⟨rfl, hF⟩)
    · rw [List.mem_map] at hh
      obtain ⟨x, hx, rfl⟩ := hh
      exact ⟨rfl, rfl⟩
    · rw [List.mem_map] at hx
      obtain ⟨y, hy, rfl⟩ := hx
      exact ⟨_, EntT.enc (d := 5) (hst y hy)⟩

theorem journalLast_holds : Rows.JournalLastSaid :=
  OpenClaim.holds_of_wide 4 Try.f4 rfl rfl rfl rfl rfl rfl rfl ⟨rfl, rfl, rfl, rfl, rfl⟩ rfl rfl rfl rfl rfl (by kernel_rfl) Try.func4 (by kernel_rfl)
    (of_decide_eq_true (by kernel_rfl)) (by unfold Func.isWrapper; first | (rw [if_pos (by decide +kernel)]; kernel_rfl) | (rw [if_neg (by decide +kernel)]; exact ⟨rfl, rfl⟩))
    (fun os started H enc _ => journalLast_lifted os started H enc)

end Go.Proofs.Ytogbkljoganbhaa
