/- What the functions of this program ask. -/
import Derived.Test.YtogbkljoganbhaaTy
set_option linter.unusedVariables false
set_option maxRecDepth 100000
namespace Go.Gx.S
open Go Go.Gx Go.Proofs
-- (*gemel/journal.Journal).behind
def p23 (P : Program) (K : Value → World → Prop) (x0 : Value) (x1 : Value) : World → Prop :=
  opS P (S.box 24 x0) fun x2 =>
  opS P (S.box 3 x1) fun x3 =>
  opS P (S.mkf (.func 32) [] [x3, x2]) fun x4 =>
  K x4
instance fnb23 : FnB Try.prog 23 := ⟨Try.call23⟩
theorem e23 : p23 Try.prog = fun K x0 x1 => denF Try.prog Try.f23 [x0, x1] K := by kernel_rfl
theorem c23 {K : Value → World → Prop} {x0 x1 : Value} {w : World} (h : p23 Try.prog K x0 x1 w) : CallsR Try.prog 23 #[x0, x1] K w := by
  rw [e23] at h
  exact denF_sound mixed Try.func23 h

-- (*gemel/journal.Journal).behind$1
def p32 (P : Program) (K : Value → World → Prop) (x0 : Value) (x1 : Value) (x2 : Value) : World → Prop :=
  opS P (S.ld 3 x1) fun x3 =>
  opS P (S.binI .add x3 (.int .i64 1)) fun x4 =>
  jnJ 0 (
    K (.tuple #[])
  ) fun j0 =>
  loopJ 1 (fun j1 x5 =>
    opS P (S.ld 24 x2) fun x6 =>
    opS P (S.nc x6) fun x7 =>
    opS P (S.fa 61 x7 1) fun x8 =>
    opS P (S.ld 3 x8) fun x9 =>
    opS P (S.binI .leq x5 x9) fun x10 =>
    brn x10 (
      drw <|
      opS P (S.ld 24 x2) fun x11 =>
      opS P (S.nc x11) fun x12 =>
      opS P (S.fa 61 x12 0) fun x13 =>
      opS P (S.ld 40 x13) fun x14 =>
      opS P (S.ld 24 x2) fun x15 =>
      opS P (S.nc x15) fun x16 =>
      opS P (S.fa 61 x16 0) fun x17 =>
      opS P (S.ld 40 x17) fun x18 =>
      opS P (S.len x18) fun x19 =>
      opS P (S.binI .rem x5 x19) fun x20 =>
      opS P (S.ia 40 x14 x20) fun x21 =>
      opS P (S.ld 48 x21) fun x22 =>
      opS P (S.call x0 [x22]) fun x23 =>
      opS P (S.un .not x23) fun x24 =>
      brn x24 (
        K (.tuple #[])
      ) (
        opS P (S.binI .add x5 (.int .i64 1)) fun x25 =>
        j1 x25
      )
    ) (
      j0
    )
  ) x4
instance fnb32 : FnB Try.prog 32 := ⟨Try.call32⟩
theorem e32 : p32 Try.prog = fun K x0 x1 x2 => denF Try.prog Try.f32 [x0, x1, x2] K := by kernel_rfl
theorem c32 {K : Value → World → Prop} {x0 x1 x2 : Value} {w : World} (h : p32 Try.prog K x0 x1 x2 w) : CallsR Try.prog 32 #[x0, x1, x2] K w := by
  rw [e32] at h
  exact denF_sound mixed Try.func32 h

end Go.Gx.S
-- 23 32
