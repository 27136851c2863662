/- What the functions of this program ask. -/
import Derived.Test.YtogbkljoganbhaaTy
set_option linter.unusedVariables false
set_option maxRecDepth 100000
namespace Go.Gx.S
open Go Go.Gx Go.Proofs
-- gemel/gemellaw09.awake
def p9 (P : Program) (K : Value → World → Prop) : World → Prop :=
  opS P (S.cl 10 [(.int .i64 2)]) fun x0 =>
  opS P (S.ext x0 0) fun x1 =>
  opS P (S.ext x0 1) fun x2 =>
  opS P (S.binI .neq x2 (.int .i64 0)) fun x3 =>
  brn x3 (
    K (.bool false)
  ) (
    opS P (S.binN .eql (S.isNilP x1)) fun x4 =>
    brn x4 (
      K (.bool false)
    ) (
      opS P (S.build 36 [(0, (.int .i64 1))]) fun x5 =>
      opS P (S.cl 12 [x1, x5, (.bool false)]) fun x6 =>
      opS P (S.build 36 [(0, (.int .i64 2))]) fun x7 =>
      opS P (S.cl 12 [x1, x7, (.bool false)]) fun x8 =>
      opS P (S.build 36 [(0, (.int .i64 3))]) fun x9 =>
      opS P (S.cl 12 [x1, x9, (.bool true)]) fun x10 =>
      opS P (S.ext x10 0) fun x11 =>
      opS P (S.ext x10 1) fun x12 =>
      opS P (S.cl 15 [x1, (.int .i64 1)]) fun x13 =>
      opS P (S.ext x13 0) fun x14 =>
      opS P (S.ext x13 1) fun x15 =>
      opS P (S.cl 15 [x1, (.int .i64 0)]) fun x16 =>
      opS P (S.ext x16 0) fun x17 =>
      opS P (S.ext x16 1) fun x18 =>
      opS P (S.binI .eql x11 (.int .i64 3)) fun x19 =>
      brn x19 (
        opS P (S.binI .eql x12 (.int .i64 0)) fun x20 =>
        brn x20 (
          brn x15 (
            opS P (S.len x14) fun x21 =>
            opS P (S.binI .eql x21 (.int .i64 2)) fun x22 =>
            brn x22 (
              opS P (S.ia 40 x14 (.int .i64 1)) fun x23 =>
              opS P (S.fa 48 x23 2) fun x24 =>
              opS P (S.ld 4 x24) fun x25 =>
              brn x25 (
                opS P (S.un .not x18) fun x26 =>
                K x26
              ) (
                K (.bool false)
              )
            ) (
              K (.bool false)
            )
          ) (
            K (.bool false)
          )
        ) (
          K (.bool false)
        )
      ) (
        K (.bool false)
      )
    )
  )
instance fnb9 : FnB Try.prog 9 := ⟨Try.call9⟩
theorem e9 : p9 Try.prog = fun K => denF Try.prog Try.f9 [] K := by kernel_rfl
theorem c9 {K : Value → World → Prop} {w : World} (h : p9 Try.prog K w) : CallsR Try.prog 9 #[] K w := by
  rw [e9] at h
  exact denF_sound mixed Try.func9 h

end Go.Gx.S
-- 9
