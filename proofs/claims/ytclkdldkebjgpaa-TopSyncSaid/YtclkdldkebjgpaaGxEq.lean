/- Structs and arrays that are compared. -/
import Derived.Test.YtclkdldkebjgpaaGxElem
import Derived.DeepKeys
namespace Go.Gx
open Go
variable {P : Program} {K : Value → World → Prop} {w : World}

class EqT (P : Program) (T : TypeId) : Prop where
  key : P.keyTypeAt 8 T = true
  guard : P.eqGuardType P.depth T = false
  und : (∃ fs, P.underlying T = some (.struct fs)) ∨ ∃ n e, P.underlying T = some (.array n e)

theorem formed_of_lits {T : TypeId} [hT : EqT P T] {x : List Value} {l : List Lit} (h : P.keyLits 8 T x = some l) : (Value.agg x.toArray).formed P T = true := by
  have h : P.keyLits (7 + 1) T x = some l := h
  unfold Program.keyLits at h
  rcases hT.und with ⟨fs, hu⟩ | ⟨n, e, hu⟩
  · simp only [hu] at h
    split at h
    · rename_i hh
      simp [Value.formed, hu, hh.1]
    · cases h
  · simp only [hu] at h
    split at h
    · rename_i hh
      simp [Value.formed, hu, hh]
    · cases h

theorem run_equal {T : TypeId} [hT : EqT P T] {x y : List Value} {lx ly : List Lit} (hx : P.keyLits 8 T x = some lx) (hy : P.keyLits 8 T y = some ly) :
    ∃ r : Bool, (Op.equal T (.agg x.toArray) (.agg y.toArray)).run P w = .ok r w ∧ (r = true ↔ lx = ly) := by
  have := run_equalIn_deep (P := P) 9992 8 T hT.key w 8 8 (.agg x.toArray) (.agg y.toArray) lx ly (formed_of_lits hx) (formed_of_lits hy) (by simpa [Value.cells] using hx) (by simpa [Value.cells] using hy)
  exact this

theorem run_guard {T : TypeId} [hT : EqT P T] {op : BinOp} (a b : Array Value) (x y : Operand) : (eqGuard op T x y (.agg a) (.agg b)).run P w = .ok () w := by
  have hp : (program : Sem Program).run P w = .ok P w := rfl
  have hrun : (do if !(← program).eqGuardType (← program).depth T then return
                  if ← Op.eqGuardIn Op.maxDepth T (.agg a) (.agg b) then unsupported (.noEntry "binop/eql: two nil values of an interface type with methods, in a part of a struct or an array") : Sem Unit).run P w = .ok () w := by
    rw [Sem.run_bind, hp, Result.andThen_ok, Sem.run_bind, hp, Result.andThen_ok, hT.guard]
    rfl
  cases op <;> first | rfl | exact hrun

theorem s_eqG {T : TypeId} [hT : EqT P T] {x y : List Value} {lx ly : List Lit} (hx : P.keyLits 8 T x = some lx) (hy : P.keyLits 8 T y = some ly)
    (h : ∀ r : Bool, (r = true ↔ lx = ly) → K (.bool r) w) : opS P (S.binG .eql T (.agg x.toArray) (.agg y.toArray)) K w := by
  obtain ⟨r, hr, hiff⟩ := run_equal (w := w) hx hy
  unfold opS S.binG
  simp only []
  rw [Sem.run_bind, run_guard, Result.andThen_ok, Sem.run_bind]
  simp only [binOp]
  rw [Sem.run_bind, hr, Result.andThen_ok]
  exact h r hiff

theorem s_neqG {T : TypeId} [hT : EqT P T] {x y : List Value} {lx ly : List Lit} (hx : P.keyLits 8 T x = some lx) (hy : P.keyLits 8 T y = some ly)
    (h : ∀ r : Bool, (r = true ↔ lx = ly) → K (.bool (!r)) w) : opS P (S.binG .neq T (.agg x.toArray) (.agg y.toArray)) K w := by
  obtain ⟨r, hr, hiff⟩ := run_equal (w := w) hx hy
  unfold opS S.binG
  simp only []
  rw [Sem.run_bind, run_guard, Result.andThen_ok, Sem.run_bind]
  simp only [binOp]
  rw [Sem.run_bind, hr, Result.andThen_ok]
  exact h r hiff

end Go.Gx
