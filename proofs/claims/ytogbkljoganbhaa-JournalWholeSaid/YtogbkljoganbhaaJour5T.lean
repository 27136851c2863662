/- What the functions of this program ask. -/
import Derived.Test.YtogbkljoganbhaaTy
set_option linter.unusedVariables false
set_option maxRecDepth 100000
namespace Go.Gx.S
open Go Go.Gx Go.Proofs
-- (*gemel/journal.Journal).Since
def p15 (P : Program) (K : Value → World → Prop) (x0 : Value) (x1 : Value) : World → Prop :=
  drw <|
  opS P (S.binI .lss x1 (.int .i64 0)) fun x2 =>
  brn x2 (
    K (.tuple #[(.slice none 0 0), (.bool false)])
  ) (
    opS P (S.nc x0) fun x3 =>
    opS P (S.fa 61 x3 1) fun x4 =>
    opS P (S.ld 3 x4) fun x5 =>
    opS P (S.binI .gtr x1 x5) fun x6 =>
    brn x6 (
      K (.tuple #[(.slice none 0 0), (.bool false)])
    ) (
      opS P (S.nc x0) fun x7 =>
      opS P (S.fa 61 x7 1) fun x8 =>
      opS P (S.ld 3 x8) fun x9 =>
      opS P (S.binI .sub x9 x1) fun x10 =>
      opS P (S.nc x0) fun x11 =>
      opS P (S.fa 61 x11 0) fun x12 =>
      opS P (S.ld 40 x12) fun x13 =>
      opS P (S.len x13) fun x14 =>
      opS P (S.binI .gtr x10 x14) fun x15 =>
      brn x15 (
        K (.tuple #[(.slice none 0 0), (.bool false)])
      ) (
        opS P (S.alloc 40) fun x16 =>
        opS P (S.cl 23 [x0, x1]) fun x17 =>
        rfS P x17 1 (fun bs K => JT.app 2 (fun x18 x19 =>
          opS P (S.alloc 48) fun x20 =>
          opS P (S.st 48 x20 x19) fun x21 =>
          opS P (S.beginR x18) fun x22 =>
          opS P (S.ld 40 x16) fun x23 =>
          opS P (S.ld 48 x20) fun x24 =>
          opS P (S.buildS 40 1 [(0, x24)]) fun x25 =>
          opS P (S.bi .append #[40, 40] 40 [x23, x25]) fun x26 =>
          opS P (S.st 40 x16 x26) fun x27 =>
          opS P (S.endR x18 none) fun x28 =>
          K x28
        ) bs) (fun x18 =>
          opS P (S.ld 40 x16) fun x19 =>
          takeD P x18 fun x20 =>
          K (.tuple #[x19, (.bool true)])
        ) (fun x18 =>
          takeD P x18 fun x19 =>
          K (.tuple #[(.slice none 0 0), (.bool false)])
        ) 0 (fun x18 =>
          fun _ => False
        )
      )
    )
  )
instance fnb15 : FnB Try.prog 15 := ⟨Try.call15⟩
theorem e15 : p15 Try.prog = fun K x0 x1 => denF Try.prog Try.f15 [x0, x1] K := by kernel_rfl
theorem c15 {K : Value → World → Prop} {x0 x1 : Value} {w : World} (h : p15 Try.prog K x0 x1 w) : CallsR Try.prog 15 #[x0, x1] K w := by
  rw [e15] at h
  exact denF_sound mixed Try.func15 h

end Go.Gx.S
-- 15
