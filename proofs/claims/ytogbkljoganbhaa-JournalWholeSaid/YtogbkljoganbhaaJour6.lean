/- Awake: the journal tells three changes. -/
import Derived.Test.YtogbkljoganbhaaJour6T
import Derived.Test.YtogbkljoganbhaaJour5
set_option linter.unusedVariables false
set_option linter.unusedSimpArgs false
set_option maxRecDepth 100000
namespace Go.Gx.S.Jour
open Go Go.Gx Go.Gx.S Go.Proofs
variable {K : Value → World → Prop} {w : World}

def ent (n : Int) : List Value := [i64 n, .int .u8 0, .int .u8 0, .int .u8 0, .int .u8 0, .int .u8 0, .int .u8 0, i64 0, i64 0, .bool false]

theorem build_ent (n : Int) : opS Try.prog (S.build 36 [(0, i64 n)]) K w = K (.agg (ent n).toArray) w := by
  rw [opS_build _ rfl]; rfl

theorem awake_spec (h : ∀ w', Fr none_ w w' → K (.bool true) w') : CallsR Try.prog 9 #[] K w := by
  apply c9
  unfold p9
  simp only [push_cast]
  refine new_spec 2 (fun h => absurd h (by omega)) fun _ _ p rb w1 o c es hJ hF hp hrb => ?_
  simp only [push_cast]
  have e0 : ((0 : Int) != 0) = false := rfl
  simp only [e0, br_false, build_ent, push_cast]
  refine put_spec (x := ent 1) hJ (by decide) (by decide) rfl rfl (by simp) fun w2 es2 hJ2 hF2 => ?_
  simp only [build_ent, push_cast]
  refine put_spec (x := ent 2) hJ2 (by decide) (by decide) rfl rfl (by simp) fun w3 es3 hJ3 hF3 => ?_
  simp only [build_ent, push_cast]
  refine put_spec (x := ent 3) hJ3 (by decide) (by decide) rfl rfl (by simp) fun w4 es4 hJ4 hF4 => ?_
  simp only [push_cast]
  have hok : ∀ h ∈ (([] ++ [(ent 1, false)]) ++ [(ent 2, false)]) ++ [(ent 3, true)], h.1.length = 10 ∧ h.1.all S.oneCell = true := by
    intro h hh
    simp at hh
    rcases hh with rfl | rfl | rfl <;> exact ⟨rfl, rfl⟩
  have hF14 : Fr none_ w w4 := ((hF.trans_new hF2 (fun b hb h => by omega)).trans_new hF3 (fun b hb h => by omega)).trans_new hF4 (fun b hb h => by omega)
  refine since_spec hJ4 (by decide) (by decide) (by simp) hok (fun hn => absurd ⟨by decide, by decide, by decide⟩ hn) fun _ _ _ w5 v hv hF5 => ?_
  simp only [push_cast]
  refine since_spec (hJ4.fr hF5 (fun h => h) (fun h => h)) (by decide) (by decide) (by simp) hok (fun hn w6 hF6 => ?_) (fun _ _ h3 => absurd h3 (by decide))
  have hv6 := hv.fr hF6 (fun _ _ h => h)
  obtain ⟨a, cc, rfl⟩ := hv6.form
  simp only [push_cast]
  have hl : (List.drop (Int.toNat 1) (chs (([] ++ [(ent 1, false)]) ++ [(ent 2, false)] ++ [(ent 3, true)]))) = [chg 2 (ent 2) false, chg 3 (ent 3) true] := rfl
  rw [hl] at hv6 ⊢
  have c1 : (((([] : List (List Value × Bool)) ++ [(ent 1, false)] ++ [(ent 2, false)]).length : Int) + 1 == 3) = true := rfl
  have c2 : (((0 : Int) == 0)) = true := rfl
  have c3 : ((([chg 2 (ent 2) false, chg 3 (ent 3) true].length : Nat) : Int) == 2) = true := rfl
  rw [c1, br_true, c2, br_true, c3, br_true]
  refine s_iaE hv6 (by decide) (by decide) fun b2 o2 c2 _ hE => ?_
  rw [fa48_2, s_ld1]
  have := hE.cell 11 (by decide)
  rw [this]
  show onS (some (.bool true)) _
  simp only [push_cast]
  exact h _ ((hF14.trans hF5).trans hF6)

end Go.Gx.S.Jour
