/- What the functions of this program ask. -/
import Derived.Test.YtogbkljoganbhaaTy
set_option linter.unusedVariables false
set_option maxRecDepth 100000
namespace Go.Gx.S
open Go Go.Gx Go.Proofs
-- gemel/journal.New
def p10 (P : Program) (K : Value → World → Prop) (x0 : Value) : World → Prop :=
  opS P (S.binI .lss x0 (.int .i64 1)) fun x1 =>
  brn x1 (
    K (.tuple #[(.pointer none), (.int .i64 1)])
  ) (
    opS P (S.binI .gtr x0 (.int .i64 1000)) fun x2 =>
    brn x2 (
      K (.tuple #[(.pointer none), (.int .i64 1)])
    ) (
      opS P (S.mks 40 x0 x0) fun x3 =>
      opS P (S.build 61 [(0, x3)]) fun x4 =>
      opS P (S.box 61 x4) fun x5 =>
      K (.tuple #[x5, (.int .i64 0)])
    )
  )
instance fnb10 : FnB Try.prog 10 := ⟨Try.call10⟩
theorem e10 : p10 Try.prog = fun K x0 => denF Try.prog Try.f10 [x0] K := by kernel_rfl
theorem c10 {K : Value → World → Prop} {x0 : Value} {w : World} (h : p10 Try.prog K x0 w) : CallsR Try.prog 10 #[x0] K w := by
  rw [e10] at h
  exact denF_sound mixed Try.func10 h

-- (*gemel/journal.Journal).Put
def p12 (P : Program) (K : Value → World → Prop) (x0 : Value) (x1 : Value) (x2 : Value) : World → Prop :=
  opS P (S.box 36 x1) fun x3 =>
  opS P (S.nc x0) fun x4 =>
  opS P (S.fa 61 x4 1) fun x5 =>
  opS P (S.ld 3 x5) fun x6 =>
  opS P (S.binI .geq x6 (.int .i64 1073741824)) fun x7 =>
  brn x7 (
    K (.tuple #[(.int .i64 0), (.int .i64 3)])
  ) (
    opS P (S.nc x0) fun x8 =>
    opS P (S.fa 61 x8 1) fun x9 =>
    opS P (S.ld 3 x9) fun x10 =>
    opS P (S.binI .add x10 (.int .i64 1)) fun x11 =>
    opS P (S.nc x0) fun x12 =>
    opS P (S.fa 61 x12 1) fun x13 =>
    opS P (S.st 3 x13 x11) fun x14 =>
    drw <|
    opS P (S.nc x0) fun x15 =>
    opS P (S.fa 61 x15 0) fun x16 =>
    opS P (S.ld 40 x16) fun x17 =>
    opS P (S.nc x0) fun x18 =>
    opS P (S.fa 61 x18 1) fun x19 =>
    opS P (S.ld 3 x19) fun x20 =>
    opS P (S.nc x0) fun x21 =>
    opS P (S.fa 61 x21 0) fun x22 =>
    opS P (S.ld 40 x22) fun x23 =>
    opS P (S.len x23) fun x24 =>
    opS P (S.binI .rem x20 x24) fun x25 =>
    opS P (S.nc x0) fun x26 =>
    opS P (S.fa 61 x26 1) fun x27 =>
    opS P (S.ld 3 x27) fun x28 =>
    opS P (S.ld 36 x3) fun x29 =>
    opS P (S.build 48 [(0, x28), (1, x29), (2, x2)]) fun x30 =>
    opS P (S.ia 40 x17 x25) fun x31 =>
    opS P (S.st 48 x31 x30) fun x32 =>
    opS P (S.nc x0) fun x33 =>
    opS P (S.fa 61 x33 1) fun x34 =>
    opS P (S.ld 3 x34) fun x35 =>
    K (.tuple #[x35, (.int .i64 0)])
  )
instance fnb12 : FnB Try.prog 12 := ⟨Try.call12⟩
theorem e12 : p12 Try.prog = fun K x0 x1 x2 => denF Try.prog Try.f12 [x0, x1, x2] K := by kernel_rfl
theorem c12 {K : Value → World → Prop} {x0 x1 x2 : Value} {w : World} (h : p12 Try.prog K x0 x1 x2 w) : CallsR Try.prog 12 #[x0, x1, x2] K w := by
  rw [e12] at h
  exact denF_sound mixed Try.func12 h

-- (*gemel/journal.Journal).Last
def p14 (P : Program) (K : Value → World → Prop) (x0 : Value) : World → Prop :=
  opS P (S.nc x0) fun x1 =>
  opS P (S.fa 61 x1 1) fun x2 =>
  opS P (S.ld 3 x2) fun x3 =>
  K x3
instance fnb14 : FnB Try.prog 14 := ⟨Try.call14⟩
theorem e14 : p14 Try.prog = fun K x0 => denF Try.prog Try.f14 [x0] K := by kernel_rfl
theorem c14 {K : Value → World → Prop} {x0 : Value} {w : World} (h : p14 Try.prog K x0 w) : CallsR Try.prog 14 #[x0] K w := by
  rw [e14] at h
  exact denF_sound mixed Try.func14 h

end Go.Gx.S
-- 14 10 12
