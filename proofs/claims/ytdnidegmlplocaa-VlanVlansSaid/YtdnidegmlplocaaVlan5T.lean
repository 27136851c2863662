/- What the functions of this program ask. -/
import Derived.Test.YtdnidegmlplocaaTy
set_option linter.unusedVariables false
set_option maxRecDepth 100000
namespace Go.Gx.S
open Go Go.Gx Go.Proofs
-- gemel/gemellaw07.VlanThrough
def p5 (P : Program) (K : Value → World → Prop) (x0 : Value) (x1 : Value) (x2 : Value) : World → Prop :=
  opS P (S.box 27 x1) fun x3 =>
  opS P (S.box 28 x2) fun x4 =>
  opS P (S.cl 10 []) fun x5 =>
  opS P (S.cl 11 [(.int .i64 5), x0]) fun x6 =>
  opS P (S.ext x6 0) fun x7 =>
  opS P (S.ext x6 1) fun x8 =>
  opS P (S.ext x6 2) fun x9 =>
  jnJ 0 (
    jnJ 1 (fun x10 =>
      K x10
    ) fun j0 =>
    brn x5 (
      j0 x9
    ) (
      j0 (.bool false)
    )
  ) fun j0 =>
  opS P (S.un .not x5) fun x10 =>
  brn x10 (
    j0
  ) (
    opS P (S.un .not x9) fun x11 =>
    brn x11 (
      j0
    ) (
      opS P (S.binN .eql (S.isNilP x7)) fun x12 =>
      brn x12 (
        j0
      ) (
        opS P (S.fa 27 x3 6) fun x13 =>
        opS P (S.ld 25 x13) fun x14 =>
        opS P (S.len x14) fun x15 =>
        opS P (S.binI .gtr x15 (.int .i64 3000)) fun x16 =>
        brn x16 (
          j0
        ) (
          opS P (S.ia 28 x4 (.int .i64 0)) fun x17 =>
          opS P (S.ld 3 x17) fun x18 =>
          opS P (S.ld 27 x3) fun x19 =>
          opS P (S.cl 12 [x7, x18, x19]) fun x20 =>
          opS P (S.ext x20 0) fun x21 =>
          opS P (S.ext x20 1) fun x22 =>
          opS P (S.binI .neq x22 (.int .i64 0)) fun x23 =>
          brn x23 (
            opS P (S.binI .eql x21 (.int .i64 0)) fun x24 =>
            K x24
          ) (
            opS P (S.cl 18 [x7, x21]) fun x24 =>
            jnJ 1 (fun x25 =>
              opS P (S.ia 28 x4 (.int .i64 1)) fun x26 =>
              opS P (S.ld 3 x26) fun x27 =>
              opS P (S.ld 27 x3) fun x28 =>
              opS P (S.cl 14 [x7, x21, x27, x28]) fun x29 =>
              opS P (S.ext x29 0) fun x30 =>
              opS P (S.ext x29 1) fun x31 =>
              opS P (S.alloc 27) fun x32 =>
              opS P (S.st 27 x32 x30) fun x33 =>
              opS P (S.binI .neq x31 (.int .i64 0)) fun x34 =>
              brn x34 (
                jnJ 1 (fun x35 =>
                  K x35
                ) fun j1 =>
                opS P (S.un .not x25) fun x35 =>
                brn x35 (
                  j1 (.bool true)
                ) (
                  opS P (S.ia 28 x4 (.int .i64 1)) fun x36 =>
                  opS P (S.ld 3 x36) fun x37 =>
                  opS P (S.binI .lss x37 (.int .i64 0)) fun x38 =>
                  j1 x38
                )
              ) (
                opS P (S.ia 28 x4 (.int .i64 1)) fun x35 =>
                opS P (S.ld 3 x35) fun x36 =>
                opS P (S.ld 27 x32) fun x37 =>
                opS P (S.cl 12 [x7, x36, x37]) fun x38 =>
                opS P (S.ext x38 0) fun x39 =>
                opS P (S.ext x38 1) fun x40 =>
                opS P (S.fa 27 x32 2) fun x41 =>
                opS P (S.ld 4 x41) fun x42 =>
                brn x42 (
                  jnJ 1 (fun x43 =>
                    K x43
                  ) fun j1 =>
                  brn x25 (
                    opS P (S.binI .eql x39 x21) fun x43 =>
                    brn x43 (
                      opS P (S.binI .eql x40 (.int .i64 0)) fun x44 =>
                      brn x44 (
                        opS P (S.fa 27 x32 3) fun x45 =>
                        opS P (S.ld 3 x45) fun x46 =>
                        opS P (S.binI .eql x46 x21) fun x47 =>
                        brn x47 (
                          opS P (S.fa 27 x32 4) fun x48 =>
                          opS P (S.ld 3 x48) fun x49 =>
                          opS P (S.fa 27 x3 4) fun x50 =>
                          opS P (S.ld 3 x50) fun x51 =>
                          opS P (S.binI .eql x49 x51) fun x52 =>
                          j1 x52
                        ) (
                          j1 (.bool false)
                        )
                      ) (
                        j1 (.bool false)
                      )
                    ) (
                      j1 (.bool false)
                    )
                  ) (
                    j1 (.bool false)
                  )
                ) (
                  opS P (S.ia 28 x4 (.int .i64 1)) fun x43 =>
                  opS P (S.ld 3 x43) fun x44 =>
                  opS P (S.cl 17 [x7, x44, x21]) fun x45 =>
                  opS P (S.ia 28 x4 (.int .i64 1)) fun x46 =>
                  opS P (S.ld 3 x46) fun x47 =>
                  opS P (S.ld 27 x32) fun x48 =>
                  opS P (S.cl 12 [x7, x47, x48]) fun x49 =>
                  opS P (S.ext x49 0) fun x50 =>
                  opS P (S.ext x49 1) fun x51 =>
                  brn x25 (
                    opS P (S.binI .eql x50 x21) fun x52 =>
                    brn x52 (
                      opS P (S.binI .eql x51 (.int .i64 0)) fun x53 =>
                      brn x53 (
                        opS P (S.fa 27 x32 3) fun x54 =>
                        opS P (S.ld 3 x54) fun x55 =>
                        opS P (S.binI .eql x55 (.int .i64 0)) fun x56 =>
                        K x56
                      ) (
                        K (.bool false)
                      )
                    ) (
                      K (.bool false)
                    )
                  ) (
                    K (.bool false)
                  )
                )
              )
            ) fun j1 =>
            loopJ 2 (fun j2 x25 x26 =>
              opS P (S.len x24) fun x27 =>
              opS P (S.binI .lss x26 x27) fun x28 =>
              brn x28 (
                drw <|
                brn x25 (
                  opS P (S.binI .add x26 (.int .i64 1)) fun x29 =>
                  j2 (.bool true) x29
                ) (
                  opS P (S.ia 43 x24 x26) fun x29 =>
                  opS P (S.ld 3 x29) fun x30 =>
                  opS P (S.ia 28 x4 (.int .i64 1)) fun x31 =>
                  opS P (S.ld 3 x31) fun x32 =>
                  opS P (S.binI .eql x30 x32) fun x33 =>
                  opS P (S.binI .add x26 (.int .i64 1)) fun x34 =>
                  j2 x33 x34
                )
              ) (
                j1 x25
              )
            ) (.bool false) (.int .i64 0)
          )
        )
      )
    )
  )
instance fnb5 : FnB Try.prog 5 := ⟨Try.call5⟩
theorem e5 : p5 Try.prog = fun K x0 x1 x2 => denF Try.prog Try.f5 [x0, x1, x2] K := by kernel_rfl
theorem c5 {K : Value → World → Prop} {x0 x1 x2 : Value} {w : World} (h : p5 Try.prog K x0 x1 x2 w) : CallsR Try.prog 5 #[x0, x1, x2] K w := by
  rw [e5] at h
  exact denF_sound mixed Try.func5 h

-- gemel/gemellaw07.VlanLast
def p7 (P : Program) (K : Value → World → Prop) (x0 : Value) (x1 : Value) : World → Prop :=
  opS P (S.box 46 x1) fun x2 =>
  opS P (S.cl 10 []) fun x3 =>
  opS P (S.cl 11 [(.int .i64 5), x0]) fun x4 =>
  opS P (S.ext x4 0) fun x5 =>
  opS P (S.ext x4 1) fun x6 =>
  opS P (S.ext x4 2) fun x7 =>
  jnJ 0 (
    jnJ 1 (fun x8 =>
      K x8
    ) fun j0 =>
    brn x3 (
      j0 x7
    ) (
      j0 (.bool false)
    )
  ) fun j0 =>
  opS P (S.un .not x3) fun x8 =>
  brn x8 (
    j0
  ) (
    opS P (S.un .not x7) fun x9 =>
    brn x9 (
      j0
    ) (
      opS P (S.binN .eql (S.isNilP x5)) fun x10 =>
      brn x10 (
        j0
      ) (
        opS P (S.fa 46 x2 1) fun x11 =>
        opS P (S.ld 3 x11) fun x12 =>
        opS P (S.fa 46 x2 2) fun x13 =>
        opS P (S.ld 3 x13) fun x14 =>
        opS P (S.fa 46 x2 3) fun x15 =>
        opS P (S.ld 4 x15) fun x16 =>
        opS P (S.cl 19 [x5, x12, x14, x16]) fun x17 =>
        opS P (S.binI .neq x17 (.int .i64 0)) fun x18 =>
        brn x18 (
          opS P (S.binI .eql x17 (.int .i64 1)) fun x19 =>
          K x19
        ) (
          opS P (S.fa 46 x2 1) fun x19 =>
          opS P (S.ld 3 x19) fun x20 =>
          opS P (S.cl 18 [x5, x20]) fun x21 =>
          opS P (S.fa 46 x2 1) fun x22 =>
          opS P (S.ld 3 x22) fun x23 =>
          opS P (S.fa 46 x2 2) fun x24 =>
          opS P (S.ld 3 x24) fun x25 =>
          opS P (S.build 27 [(5, (.int .i64 2048))]) fun x26 =>
          opS P (S.cl 14 [x5, x23, x25, x26]) fun x27 =>
          opS P (S.ext x27 0) fun x28 =>
          opS P (S.ext x27 1) fun x29 =>
          opS P (S.alloc 27) fun x30 =>
          opS P (S.st 27 x30 x28) fun x31 =>
          opS P (S.fa 46 x2 1) fun x32 =>
          opS P (S.ld 3 x32) fun x33 =>
          opS P (S.fa 46 x2 2) fun x34 =>
          opS P (S.ld 3 x34) fun x35 =>
          opS P (S.cl 20 [x5, x33, x35]) fun x36 =>
          opS P (S.fa 46 x2 1) fun x37 =>
          opS P (S.ld 3 x37) fun x38 =>
          opS P (S.cl 18 [x5, x38]) fun x39 =>
          jnJ 0 (
            opS P (S.binI .eql x29 (.int .i64 0)) fun x40 =>
            brn x40 (
              opS P (S.fa 27 x30 2) fun x41 =>
              opS P (S.ld 4 x41) fun x42 =>
              opS P (S.fa 46 x2 3) fun x43 =>
              opS P (S.ld 4 x43) fun x44 =>
              opS P (S.binB .eql x42 x44) fun x45 =>
              brn x45 (
                opS P (S.binI .eql x36 (.int .i64 0)) fun x46 =>
                brn x46 (
                  opS P (S.len x39) fun x47 =>
                  opS P (S.len x21) fun x48 =>
                  opS P (S.binI .sub x48 (.int .i64 1)) fun x49 =>
                  opS P (S.binI .eql x47 x49) fun x50 =>
                  brn x50 (
                    opS P (S.fa 46 x2 1) fun x51 =>
                    opS P (S.ld 3 x51) fun x52 =>
                    opS P (S.fa 46 x2 2) fun x53 =>
                    opS P (S.ld 3 x53) fun x54 =>
                    opS P (S.cl 20 [x5, x52, x54]) fun x55 =>
                    opS P (S.binI .eql x55 (.int .i64 4)) fun x56 =>
                    K x56
                  ) (
                    K (.bool false)
                  )
                ) (
                  K (.bool false)
                )
              ) (
                K (.bool false)
              )
            ) (
              K (.bool false)
            )
          ) fun j1 =>
          loopJ 1 (fun j2 x40 =>
            opS P (S.len x21) fun x41 =>
            opS P (S.binI .lss x40 x41) fun x42 =>
            brn x42 (
              drw <|
              opS P (S.ia 43 x21 x40) fun x43 =>
              opS P (S.ld 3 x43) fun x44 =>
              opS P (S.binI .sub x40 (.int .i64 1)) fun x45 =>
              opS P (S.ia 43 x21 x45) fun x46 =>
              opS P (S.ld 3 x46) fun x47 =>
              opS P (S.binI .leq x44 x47) fun x48 =>
              brn x48 (
                K (.bool false)
              ) (
                opS P (S.binI .add x40 (.int .i64 1)) fun x49 =>
                j2 x49
              )
            ) (
              j1
            )
          ) (.int .i64 1)
        )
      )
    )
  )
instance fnb7 : FnB Try.prog 7 := ⟨Try.call7⟩
theorem e7 : p7 Try.prog = fun K x0 x1 => denF Try.prog Try.f7 [x0, x1] K := by kernel_rfl
theorem c7 {K : Value → World → Prop} {x0 x1 : Value} {w : World} (h : p7 Try.prog K x0 x1 w) : CallsR Try.prog 7 #[x0, x1] K w := by
  rw [e7] at h
  exact denF_sound mixed Try.func7 h

end Go.Gx.S
-- 5 7
