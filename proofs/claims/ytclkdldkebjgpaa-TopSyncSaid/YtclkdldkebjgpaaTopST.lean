/- What the functions of this program ask. -/
import Derived.Test.YtclkdldkebjgpaaTy
set_option linter.unusedVariables false
set_option maxRecDepth 100000
namespace Go.Gx.S
open Go Go.Gx Go.Proofs
-- gemel/gemeltop.TopSync
def p3 (P : Program) (K : Value → World → Prop) (x0 : Value) (x1 : Value) : World → Prop :=
  opS P (S.cl 5 [(.int .i64 8)]) fun x2 =>
  opS P (S.ext x2 0) fun x3 =>
  opS P (S.ext x2 1) fun x4 =>
  opS P (S.cl 6 [(.int .i64 200)]) fun x5 =>
  opS P (S.ext x5 0) fun x6 =>
  opS P (S.ext x5 1) fun x7 =>
  opS P (S.binI .neq x4 (.int .i64 0)) fun x8 =>
  brn x8 (
    K (.bool false)
  ) (
    opS P (S.binI .neq x7 (.int .i64 0)) fun x9 =>
    brn x9 (
      K (.bool false)
    ) (
      opS P (S.binN .eql (S.isNilP x3)) fun x10 =>
      brn x10 (
        K (.bool false)
      ) (
        opS P (S.binN .eql (S.isNilP x6)) fun x11 =>
        brn x11 (
          K (.bool false)
        ) (
          jnJ 2 (fun x12 x13 =>
            opS P (S.cl 15 [x6, x13]) fun x14 =>
            opS P (S.ext x14 0) fun x15 =>
            opS P (S.ext x14 1) fun x16 =>
            opS P (S.un .not x16) fun x17 =>
            brn x17 (
              K (.bool true)
            ) (
              opS P (S.cl 17 [x12, x15]) fun x18 =>
              opS P (S.cl 7 [x3]) fun x19 =>
              opS P (S.cl 16 [x18, x19]) fun x20 =>
              K x20
            )
          ) fun j0 =>
          loopJ 3 (fun j1 x12 x13 x14 =>
            opS P (S.len x0) fun x15 =>
            opS P (S.binI .lss x14 x15) fun x16 =>
            brn x16 (
              opS P (S.binI .lss x14 (.int .i64 100)) fun x17 =>
              brn x17 (
                jnJ 2 (fun x18 x19 =>
                  opS P (S.binI .add x14 (.int .i64 1)) fun x20 =>
                  j1 x18 x19 x20
                ) fun j2 =>
                jnJ 2 (fun x18 x19 =>
                  opS P (S.ia 22 x0 x14) fun x20 =>
                  opS P (S.ld 36 x20) fun x21 =>
                  opS P (S.alloc 36) fun x22 =>
                  opS P (S.st 36 x22 x21) fun x23 =>
                  opS P (S.fa 36 x22 0) fun x24 =>
                  opS P (S.ld 3 x24) fun x25 =>
                  jnJ 1 (fun x26 =>
                    jnJ 0 (
                      j2 x18 x19
                    ) fun j3 =>
                    loopJ 1 (fun j4 x27 =>
                      opS P (S.len x26) fun x28 =>
                      opS P (S.binI .lss x27 x28) fun x29 =>
                      brn x29 (
                        opS P (S.ia 30 x26 x27) fun x30 =>
                        opS P (S.ld 40 x30) fun x31 =>
                        opS P (S.cl 11 [x6, x31, (.bool true)]) fun x32 =>
                        opS P (S.binI .add x27 (.int .i64 1)) fun x33 =>
                        j4 x33
                      ) (
                        j3
                      )
                    ) (.int .i64 0)
                  ) fun j3 =>
                  opS P (S.binI .eql x25 (.int .i64 0)) fun x26 =>
                  brn x26 (
                    opS P (S.fa 36 x22 1) fun x27 =>
                    opS P (S.ld 3 x27) fun x28 =>
                    opS P (S.fa 36 x22 2) fun x29 =>
                    opS P (S.ld 34 x29) fun x30 =>
                    opS P (S.fa 36 x22 3) fun x31 =>
                    opS P (S.ld 3 x31) fun x32 =>
                    opS P (S.fa 36 x22 4) fun x33 =>
                    opS P (S.ld 3 x33) fun x34 =>
                    opS P (S.cl 9 [x3, x28, x30, x32, x34]) fun x35 =>
                    opS P (S.ext x35 0) fun x36 =>
                    opS P (S.ext x35 1) fun x37 =>
                    opS P (S.fa 36 x22 1) fun x38 =>
                    opS P (S.ld 3 x38) fun x39 =>
                    opS P (S.fa 36 x22 2) fun x40 =>
                    opS P (S.ld 34 x40) fun x41 =>
                    opS P (S.cl 10 [x3, x39, x41]) fun x42 =>
                    opS P (S.ext x42 0) fun x43 =>
                    opS P (S.ext x42 1) fun x44 =>
                    opS P (S.alloc 40) fun x45 =>
                    opS P (S.st 40 x45 x43) fun x46 =>
                    jnJ 0 (
                      j3 (.slice none 0 0)
                    ) fun j4 =>
                    jnJ 0 (
                      j4
                    ) fun j5 =>
                    opS P (S.binI .eql x37 (.int .i64 0)) fun x47 =>
                    brn x47 (
                      brn x44 (
                        opS P (S.ld 40 x45) fun x48 =>
                        opS P (S.cl 11 [x6, x48, (.bool false)]) fun x49 =>
                        j4
                      ) (
                        j5
                      )
                    ) (
                      j5
                    )
                  ) (
                    jnJ 1 (fun x27 =>
                      j3 x27
                    ) fun j4 =>
                    opS P (S.binI .eql x25 (.int .i64 1)) fun x27 =>
                    brn x27 (
                      opS P (S.fa 36 x22 1) fun x28 =>
                      opS P (S.ld 3 x28) fun x29 =>
                      opS P (S.fa 36 x22 2) fun x30 =>
                      opS P (S.ld 34 x30) fun x31 =>
                      opS P (S.cl 10 [x3, x29, x31]) fun x32 =>
                      opS P (S.ext x32 0) fun x33 =>
                      opS P (S.ext x32 1) fun x34 =>
                      opS P (S.alloc 40) fun x35 =>
                      opS P (S.st 40 x35 x33) fun x36 =>
                      opS P (S.fa 36 x22 1) fun x37 =>
                      opS P (S.ld 3 x37) fun x38 =>
                      opS P (S.fa 36 x22 2) fun x39 =>
                      opS P (S.ld 34 x39) fun x40 =>
                      opS P (S.cl 12 [x3, x38, x40]) fun x41 =>
                      jnJ 1 (fun x42 =>
                        j4 x42
                      ) fun j5 =>
                      brn x34 (
                        opS P (S.ld 40 x35) fun x42 =>
                        opS P (S.buildS 30 1 [(0, x42)]) fun x43 =>
                        j5 x43
                      ) (
                        j5 (.slice none 0 0)
                      )
                    ) (
                      jnJ 1 (fun x28 =>
                        j4 x28
                      ) fun j5 =>
                      opS P (S.binI .eql x25 (.int .i64 2)) fun x28 =>
                      brn x28 (
                        opS P (S.fa 36 x22 3) fun x29 =>
                        opS P (S.ld 3 x29) fun x30 =>
                        opS P (S.cl 13 [x3, x30]) fun x31 =>
                        j5 x31
                      ) (
                        opS P (S.fa 36 x22 4) fun x29 =>
                        opS P (S.ld 3 x29) fun x30 =>
                        opS P (S.fa 36 x22 5) fun x31 =>
                        opS P (S.ld 3 x31) fun x32 =>
                        opS P (S.cl 14 [x3, x30, x32]) fun x33 =>
                        j5 x33
                      )
                    )
                  )
                ) fun j3 =>
                opS P (S.binI .eql x14 x1) fun x18 =>
                brn x18 (
                  opS P (S.cl 7 [x3]) fun x19 =>
                  opS P (S.cl 8 [x6]) fun x20 =>
                  j3 x19 x20
                ) (
                  j3 x12 x13
                )
              ) (
                j0 x12 x13
              )
            ) (
              j0 x12 x13
            )
          ) (.slice none 0 0) (.int .i64 0) (.int .i64 0)
        )
      )
    )
  )
instance fnb3 : FnB Try.prog 3 := ⟨Try.call3⟩
theorem e3 : p3 Try.prog = fun K x0 x1 => denF Try.prog Try.f3 [x0, x1] K := by kernel_rfl
theorem c3 {K : Value → World → Prop} {x0 x1 : Value} {w : World} (h : p3 Try.prog K x0 x1 w) : CallsR Try.prog 3 #[x0, x1] K w := by
  rw [e3] at h
  exact denF_sound mixed Try.func3 h

end Go.Gx.S
-- 3
