/- Own texts, put together. -/
import Derived.Test.YtijpdcidhbkmmaaGreatP1
section
/- What the functions of this program ask. -/
set_option linter.unusedVariables false
set_option maxRecDepth 100000
namespace Go.Gx.S
open Go Go.Gx Go.Proofs
-- gemel/gemellaw12.FlowKnown
def p3 (P : Program) (K : Value → World → Prop) (x0 : Value) (x1 : Value) : World → Prop :=
  opS P (S.box 29 x1) fun x2 =>
  opS P (S.cl 10 []) fun x3 =>
  opS P (S.cl 11 [x0]) fun x4 =>
  opS P (S.cl 12 [x0]) fun x5 =>
  opS P (S.ext x5 0) fun x6 =>
  opS P (S.ext x5 1) fun x7 =>
  jnJ 0 (
    jnJ 1 (fun x8 =>
      K x8
    ) fun j0 =>
    brn x3 (
      j0 x7
    ) (
      j0 (.bool false)
    )
  ) fun j0 =>
  opS P (S.un .not x3) fun x8 =>
  brn x8 (
    j0
  ) (
    opS P (S.un .not x4) fun x9 =>
    brn x9 (
      j0
    ) (
      opS P (S.un .not x7) fun x10 =>
      brn x10 (
        j0
      ) (
        opS P (S.fa 29 x2 5) fun x11 =>
        opS P (S.fa 27 x11 6) fun x12 =>
        opS P (S.ld 25 x12) fun x13 =>
        opS P (S.len x13) fun x14 =>
        opS P (S.binI .gtr x14 (.int .i64 2000)) fun x15 =>
        brn x15 (
          j0
        ) (
          opS P (S.fa 29 x2 1) fun x16 =>
          opS P (S.ld 3 x16) fun x17 =>
          opS P (S.fa 29 x2 5) fun x18 =>
          opS P (S.ld 27 x18) fun x19 =>
          opS P (S.fa 29 x2 6) fun x20 =>
          opS P (S.ld 3 x20) fun x21 =>
          opS P (S.cl 13 [x6, x17, x19, x21]) fun x22 =>
          opS P (S.alloc 37) fun x23 =>
          opS P (S.st 37 x23 x22) fun x24 =>
          jnJ 2 (fun x25 x26 =>
            jnJ 0 (
              jnJ 0 (
                opS P (S.fa 37 x23 1) fun x27 =>
                opS P (S.ld 3 x27) fun x28 =>
                opS P (S.fa 29 x2 1) fun x29 =>
                opS P (S.ld 3 x29) fun x30 =>
                opS P (S.fa 29 x2 5) fun x31 =>
                opS P (S.ld 27 x31) fun x32 =>
                opS P (S.cl 17 [x6, x28, x30, (.int .i64 0), x32]) fun x33 =>
                jnJ 1 (fun x34 =>
                  K x34
                ) fun j1 =>
                opS P (S.fa 37 x23 2) fun x34 =>
                opS P (S.ld 3 x34) fun x35 =>
                opS P (S.binI .eql x35 (.int .i64 0)) fun x36 =>
                brn x36 (
                  opS P (S.fa 37 x23 3) fun x37 =>
                  opS P (S.ld 35 x37) fun x38 =>
                  opS P (S.cl 18 [x38, x33]) fun x39 =>
                  j1 x39
                ) (
                  j1 (.bool false)
                )
              ) fun j1 =>
              opS P (S.fa 29 x2 5) fun x27 =>
              opS P (S.fa 27 x27 0) fun x28 =>
              opS P (S.ld 24 x28) fun x29 =>
              opS P (S.cl 16 [x29]) fun x30 =>
              brn x30 (
                j1
              ) (
                opS P (S.un .not x26) fun x31 =>
                brn x31 (
                  j1
                ) (
                  opS P (S.fa 37 x23 0) fun x32 =>
                  opS P (S.ld 3 x32) fun x33 =>
                  opS P (S.binI .eql x33 (.int .i64 7)) fun x34 =>
                  brn x34 (
                    opS P (S.fa 40 x25 2) fun x35 =>
                    opS P (S.ld 3 x35) fun x36 =>
                    opS P (S.fa 29 x2 1) fun x37 =>
                    opS P (S.ld 3 x37) fun x38 =>
                    opS P (S.binI .eql x36 x38) fun x39 =>
                    K x39
                  ) (
                    drw <|
                    opS P (S.fa 37 x23 2) fun x35 =>
                    opS P (S.ld 3 x35) fun x36 =>
                    opS P (S.fa 40 x25 2) fun x37 =>
                    opS P (S.ld 3 x37) fun x38 =>
                    opS P (S.binI .eql x36 x38) fun x39 =>
                    brn x39 (
                      opS P (S.fa 40 x25 2) fun x40 =>
                      opS P (S.ld 3 x40) fun x41 =>
                      opS P (S.fa 29 x2 1) fun x42 =>
                      opS P (S.ld 3 x42) fun x43 =>
                      opS P (S.binI .neq x41 x43) fun x44 =>
                      brn x44 (
                        opS P (S.fa 37 x23 3) fun x45 =>
                        opS P (S.ld 35 x45) fun x46 =>
                        opS P (S.len x46) fun x47 =>
                        opS P (S.binI .eql x47 (.int .i64 0)) fun x48 =>
                        brn x48 (
                          K (.bool true)
                        ) (
                          opS P (S.fa 37 x23 3) fun x49 =>
                          opS P (S.ld 35 x49) fun x50 =>
                          opS P (S.len x50) fun x51 =>
                          opS P (S.binI .eql x51 (.int .i64 1)) fun x52 =>
                          brn x52 (
                            opS P (S.fa 37 x23 3) fun x53 =>
                            opS P (S.ld 35 x53) fun x54 =>
                            opS P (S.ia 35 x54 (.int .i64 0)) fun x55 =>
                            opS P (S.fa 49 x55 0) fun x56 =>
                            opS P (S.ld 3 x56) fun x57 =>
                            opS P (S.fa 40 x25 2) fun x58 =>
                            opS P (S.ld 3 x58) fun x59 =>
                            opS P (S.binI .eql x57 x59) fun x60 =>
                            K x60
                          ) (
                            K (.bool false)
                          )
                        )
                      ) (
                        K (.bool false)
                      )
                    ) (
                      K (.bool false)
                    )
                  )
                )
              )
            ) fun j1 =>
            opS P (S.fa 37 x23 0) fun x27 =>
            opS P (S.ld 3 x27) fun x28 =>
            opS P (S.binI .neq x28 (.int .i64 0)) fun x29 =>
            brn x29 (
              opS P (S.fa 37 x23 0) fun x30 =>
              opS P (S.ld 3 x30) fun x31 =>
              opS P (S.binI .neq x31 (.int .i64 8)) fun x32 =>
              brn x32 (
                opS P (S.fa 37 x23 0) fun x33 =>
                opS P (S.ld 3 x33) fun x34 =>
                opS P (S.binI .neq x34 (.int .i64 7)) fun x35 =>
                brn x35 (
                  jnJ 1 (fun x36 =>
                    K x36
                  ) fun j2 =>
                  opS P (S.fa 37 x23 3) fun x36 =>
                  opS P (S.ld 35 x36) fun x37 =>
                  opS P (S.len x37) fun x38 =>
                  opS P (S.binI .eql x38 (.int .i64 0)) fun x39 =>
                  brn x39 (
                    opS P (S.fa 37 x23 2) fun x40 =>
                    opS P (S.ld 3 x40) fun x41 =>
                    opS P (S.binI .eql x41 (.int .i64 0)) fun x42 =>
                    j2 x42
                  ) (
                    j2 (.bool false)
                  )
                ) (
                  j1
                )
              ) (
                j1
              )
            ) (
              j1
            )
          ) fun j1 =>
          drw <|
          opS P (S.fa 37 x23 1) fun x25 =>
          opS P (S.fa 29 x2 5) fun x26 =>
          opS P (S.fa 27 x26 0) fun x27 =>
          allW (
            opS P (S.cl 14 [x6]) fun x28 =>
            allW (
              opS P (S.ld 3 x25) fun x29 =>
              allW (
                opS P (S.ld 24 x27) fun x30 =>
                allW (
                  opS P (S.cl 15 [x28, x29, x30]) fun x31 =>
                  opS P (S.ext x31 0) fun x32 =>
                  opS P (S.ext x31 1) fun x33 =>
                  opS P (S.alloc 40) fun x34 =>
                  opS P (S.st 40 x34 x32) fun x35 =>
                  j1 x34 x33
                ) (
                  opS P (S.alloc 40) fun x31 =>
                  opS P (S.cl 15 [x28, x29, x30]) fun x32 =>
                  opS P (S.ext x32 0) fun x33 =>
                  opS P (S.ext x32 1) fun x34 =>
                  opS P (S.st 40 x31 x33) fun x35 =>
                  j1 x31 x34
                )
              ) (
                opS P (S.alloc 40) fun x30 =>
                opS P (S.ld 24 x27) fun x31 =>
                opS P (S.cl 15 [x28, x29, x31]) fun x32 =>
                opS P (S.ext x32 0) fun x33 =>
                opS P (S.ext x32 1) fun x34 =>
                opS P (S.st 40 x30 x33) fun x35 =>
                j1 x30 x34
              )
            ) (
              allW (
                opS P (S.ld 24 x27) fun x29 =>
                allW (
                  opS P (S.ld 3 x25) fun x30 =>
                  allW (
                    opS P (S.cl 15 [x28, x30, x29]) fun x31 =>
                    opS P (S.ext x31 0) fun x32 =>
                    opS P (S.ext x31 1) fun x33 =>
                    opS P (S.alloc 40) fun x34 =>
                    opS P (S.st 40 x34 x32) fun x35 =>
                    j1 x34 x33
                  ) (
                    opS P (S.alloc 40) fun x31 =>
                    opS P (S.cl 15 [x28, x30, x29]) fun x32 =>
                    opS P (S.ext x32 0) fun x33 =>
                    opS P (S.ext x32 1) fun x34 =>
                    opS P (S.st 40 x31 x33) fun x35 =>
                    j1 x31 x34
                  )
                ) (
                  opS P (S.alloc 40) fun x30 =>
                  opS P (S.ld 3 x25) fun x31 =>
                  opS P (S.cl 15 [x28, x31, x29]) fun x32 =>
                  opS P (S.ext x32 0) fun x33 =>
                  opS P (S.ext x32 1) fun x34 =>
                  opS P (S.st 40 x30 x33) fun x35 =>
                  j1 x30 x34
                )
              ) (
                opS P (S.alloc 40) fun x29 =>
                opS P (S.ld 3 x25) fun x30 =>
                opS P (S.ld 24 x27) fun x31 =>
                opS P (S.cl 15 [x28, x30, x31]) fun x32 =>
                opS P (S.ext x32 0) fun x33 =>
                opS P (S.ext x32 1) fun x34 =>
                opS P (S.st 40 x29 x33) fun x35 =>
                j1 x29 x34
              )
            )
          ) (
            allW (
              opS P (S.ld 3 x25) fun x28 =>
              allW (
                opS P (S.cl 14 [x6]) fun x29 =>
                allW (
                  opS P (S.ld 24 x27) fun x30 =>
                  allW (
                    opS P (S.cl 15 [x29, x28, x30]) fun x31 =>
                    opS P (S.ext x31 0) fun x32 =>
                    opS P (S.ext x31 1) fun x33 =>
                    opS P (S.alloc 40) fun x34 =>
                    opS P (S.st 40 x34 x32) fun x35 =>
                    j1 x34 x33
                  ) (
                    opS P (S.alloc 40) fun x31 =>
                    opS P (S.cl 15 [x29, x28, x30]) fun x32 =>
                    opS P (S.ext x32 0) fun x33 =>
                    opS P (S.ext x32 1) fun x34 =>
                    opS P (S.st 40 x31 x33) fun x35 =>
                    j1 x31 x34
                  )
                ) (
                  opS P (S.alloc 40) fun x30 =>
                  opS P (S.ld 24 x27) fun x31 =>
                  opS P (S.cl 15 [x29, x28, x31]) fun x32 =>
                  opS P (S.ext x32 0) fun x33 =>
                  opS P (S.ext x32 1) fun x34 =>
                  opS P (S.st 40 x30 x33) fun x35 =>
                  j1 x30 x34
                )
              ) (
                allW (
                  opS P (S.ld 24 x27) fun x29 =>
                  allW (
                    opS P (S.cl 14 [x6]) fun x30 =>
                    allW (
                      opS P (S.cl 15 [x30, x28, x29]) fun x31 =>
                      opS P (S.ext x31 0) fun x32 =>
                      opS P (S.ext x31 1) fun x33 =>
                      opS P (S.alloc 40) fun x34 =>
                      opS P (S.st 40 x34 x32) fun x35 =>
                      j1 x34 x33
                    ) (
                      opS P (S.alloc 40) fun x31 =>
                      opS P (S.cl 15 [x30, x28, x29]) fun x32 =>
                      opS P (S.ext x32 0) fun x33 =>
                      opS P (S.ext x32 1) fun x34 =>
                      opS P (S.st 40 x31 x33) fun x35 =>
                      j1 x31 x34
                    )
                  ) (
                    opS P (S.alloc 40) fun x30 =>
                    opS P (S.cl 14 [x6]) fun x31 =>
                    opS P (S.cl 15 [x31, x28, x29]) fun x32 =>
                    opS P (S.ext x32 0) fun x33 =>
                    opS P (S.ext x32 1) fun x34 =>
                    opS P (S.st 40 x30 x33) fun x35 =>
                    j1 x30 x34
                  )
                ) (
                  opS P (S.alloc 40) fun x29 =>
                  allW (
                    opS P (S.cl 14 [x6]) fun x30 =>
                    opS P (S.ld 24 x27) fun x31 =>
                    opS P (S.cl 15 [x30, x28, x31]) fun x32 =>
                    opS P (S.ext x32 0) fun x33 =>
                    opS P (S.ext x32 1) fun x34 =>
                    opS P (S.st 40 x29 x33) fun x35 =>
                    j1 x29 x34
                  ) (
                    opS P (S.ld 24 x27) fun x30 =>
                    opS P (S.cl 14 [x6]) fun x31 =>
                    opS P (S.cl 15 [x31, x28, x30]) fun x32 =>
                    opS P (S.ext x32 0) fun x33 =>
                    opS P (S.ext x32 1) fun x34 =>
                    opS P (S.st 40 x29 x33) fun x35 =>
                    j1 x29 x34
                  )
                )
              )
            ) (
              allW (
                opS P (S.ld 24 x27) fun x28 =>
                allW (
                  opS P (S.cl 14 [x6]) fun x29 =>
                  allW (
                    opS P (S.ld 3 x25) fun x30 =>
                    allW (
                      opS P (S.cl 15 [x29, x30, x28]) fun x31 =>
                      opS P (S.ext x31 0) fun x32 =>
                      opS P (S.ext x31 1) fun x33 =>
                      opS P (S.alloc 40) fun x34 =>
                      opS P (S.st 40 x34 x32) fun x35 =>
                      j1 x34 x33
                    ) (
                      opS P (S.alloc 40) fun x31 =>
                      opS P (S.cl 15 [x29, x30, x28]) fun x32 =>
                      opS P (S.ext x32 0) fun x33 =>
                      opS P (S.ext x32 1) fun x34 =>
                      opS P (S.st 40 x31 x33) fun x35 =>
                      j1 x31 x34
                    )
                  ) (
                    opS P (S.alloc 40) fun x30 =>
                    opS P (S.ld 3 x25) fun x31 =>
                    opS P (S.cl 15 [x29, x31, x28]) fun x32 =>
                    opS P (S.ext x32 0) fun x33 =>
                    opS P (S.ext x32 1) fun x34 =>
                    opS P (S.st 40 x30 x33) fun x35 =>
                    j1 x30 x34
                  )
                ) (
                  allW (
                    opS P (S.ld 3 x25) fun x29 =>
                    allW (
                      opS P (S.cl 14 [x6]) fun x30 =>
                      allW (
                        opS P (S.cl 15 [x30, x29, x28]) fun x31 =>
                        opS P (S.ext x31 0) fun x32 =>
                        opS P (S.ext x31 1) fun x33 =>
                        opS P (S.alloc 40) fun x34 =>
                        opS P (S.st 40 x34 x32) fun x35 =>
                        j1 x34 x33
                      ) (
                        opS P (S.alloc 40) fun x31 =>
                        opS P (S.cl 15 [x30, x29, x28]) fun x32 =>
                        opS P (S.ext x32 0) fun x33 =>
                        opS P (S.ext x32 1) fun x34 =>
                        opS P (S.st 40 x31 x33) fun x35 =>
                        j1 x31 x34
                      )
                    ) (
                      opS P (S.alloc 40) fun x30 =>
                      opS P (S.cl 14 [x6]) fun x31 =>
                      opS P (S.cl 15 [x31, x29, x28]) fun x32 =>
                      opS P (S.ext x32 0) fun x33 =>
                      opS P (S.ext x32 1) fun x34 =>
                      opS P (S.st 40 x30 x33) fun x35 =>
                      j1 x30 x34
                    )
                  ) (
                    opS P (S.alloc 40) fun x29 =>
                    allW (
                      opS P (S.cl 14 [x6]) fun x30 =>
                      opS P (S.ld 3 x25) fun x31 =>
                      opS P (S.cl 15 [x30, x31, x28]) fun x32 =>
                      opS P (S.ext x32 0) fun x33 =>
                      opS P (S.ext x32 1) fun x34 =>
                      opS P (S.st 40 x29 x33) fun x35 =>
                      j1 x29 x34
                    ) (
                      opS P (S.ld 3 x25) fun x30 =>
                      opS P (S.cl 14 [x6]) fun x31 =>
                      opS P (S.cl 15 [x31, x30, x28]) fun x32 =>
                      opS P (S.ext x32 0) fun x33 =>
                      opS P (S.ext x32 1) fun x34 =>
                      opS P (S.st 40 x29 x33) fun x35 =>
                      j1 x29 x34
                    )
                  )
                )
              ) (
                opS P (S.alloc 40) fun x28 =>
                allW (
                  opS P (S.cl 14 [x6]) fun x29 =>
                  opS P (S.ld 3 x25) fun x30 =>
                  opS P (S.ld 24 x27) fun x31 =>
                  opS P (S.cl 15 [x29, x30, x31]) fun x32 =>
                  opS P (S.ext x32 0) fun x33 =>
                  opS P (S.ext x32 1) fun x34 =>
                  opS P (S.st 40 x28 x33) fun x35 =>
                  j1 x28 x34
                ) (
                  allW (
                    opS P (S.ld 3 x25) fun x29 =>
                    allW (
                      opS P (S.cl 14 [x6]) fun x30 =>
                      opS P (S.ld 24 x27) fun x31 =>
                      opS P (S.cl 15 [x30, x29, x31]) fun x32 =>
                      opS P (S.ext x32 0) fun x33 =>
                      opS P (S.ext x32 1) fun x34 =>
                      opS P (S.st 40 x28 x33) fun x35 =>
                      j1 x28 x34
                    ) (
                      opS P (S.ld 24 x27) fun x30 =>
                      opS P (S.cl 14 [x6]) fun x31 =>
                      opS P (S.cl 15 [x31, x29, x30]) fun x32 =>
                      opS P (S.ext x32 0) fun x33 =>
                      opS P (S.ext x32 1) fun x34 =>
                      opS P (S.st 40 x28 x33) fun x35 =>
                      j1 x28 x34
                    )
                  ) (
                    opS P (S.ld 24 x27) fun x29 =>
                    allW (
                      opS P (S.cl 14 [x6]) fun x30 =>
                      opS P (S.ld 3 x25) fun x31 =>
                      opS P (S.cl 15 [x30, x31, x29]) fun x32 =>
                      opS P (S.ext x32 0) fun x33 =>
                      opS P (S.ext x32 1) fun x34 =>
                      opS P (S.st 40 x28 x33) fun x35 =>
                      j1 x28 x34
                    ) (
                      opS P (S.ld 3 x25) fun x30 =>
                      opS P (S.cl 14 [x6]) fun x31 =>
                      opS P (S.cl 15 [x31, x30, x29]) fun x32 =>
                      opS P (S.ext x32 0) fun x33 =>
                      opS P (S.ext x32 1) fun x34 =>
                      opS P (S.st 40 x28 x33) fun x35 =>
                      j1 x28 x34
                    )
                  )
                )
              )
            )
          )
        )
      )
    )
  )
instance fnb3 : FnB Tryz.prog 3 := ⟨Tryz.call3⟩
theorem e3 : p3 Tryz.prog = fun K x0 x1 => denF Tryz.prog Tryz.f3 [x0, x1] K := by kernel_rfl
theorem c3 {K : Value → World → Prop} {x0 x1 : Value} {w : World} (h : p3 Tryz.prog K x0 x1 w) : CallsR Tryz.prog 3 #[x0, x1] K w := by
  rw [e3] at h
  exact denF_sound mixed Tryz.func3 h

-- gemel/gemellaw12.FlowLearns
def p4 (P : Program) (K : Value → World → Prop) (x0 : Value) (x1 : Value) : World → Prop :=
  opS P (S.box 29 x1) fun x2 =>
  opS P (S.cl 10 []) fun x3 =>
  opS P (S.cl 11 [x0]) fun x4 =>
  opS P (S.cl 12 [x0]) fun x5 =>
  opS P (S.ext x5 0) fun x6 =>
  opS P (S.ext x5 1) fun x7 =>
  jnJ 0 (
    jnJ 1 (fun x8 =>
      K x8
    ) fun j0 =>
    brn x3 (
      j0 x7
    ) (
      j0 (.bool false)
    )
  ) fun j0 =>
  opS P (S.un .not x3) fun x8 =>
  brn x8 (
    j0
  ) (
    opS P (S.un .not x4) fun x9 =>
    brn x9 (
      j0
    ) (
      opS P (S.un .not x7) fun x10 =>
      brn x10 (
        j0
      ) (
        opS P (S.fa 29 x2 5) fun x11 =>
        opS P (S.fa 27 x11 6) fun x12 =>
        opS P (S.ld 25 x12) fun x13 =>
        opS P (S.len x13) fun x14 =>
        opS P (S.binI .gtr x14 (.int .i64 2000)) fun x15 =>
        brn x15 (
          j0
        ) (
          opS P (S.cl 14 [x6]) fun x16 =>
          opS P (S.cl 19 [x16]) fun x17 =>
          opS P (S.fa 29 x2 1) fun x18 =>
          opS P (S.ld 3 x18) fun x19 =>
          opS P (S.fa 29 x2 5) fun x20 =>
          opS P (S.ld 27 x20) fun x21 =>
          opS P (S.fa 29 x2 6) fun x22 =>
          opS P (S.ld 3 x22) fun x23 =>
          opS P (S.cl 13 [x6, x19, x21, x23]) fun x24 =>
          opS P (S.alloc 37) fun x25 =>
          opS P (S.st 37 x25 x24) fun x26 =>
          jnJ 2 (fun x27 x28 =>
            jnJ 0 (
              opS P (S.un .not x28) fun x29 =>
              brn x29 (
                opS P (S.len x17) fun x30 =>
                opS P (S.binI .eql x30 (.int .i64 20)) fun x31 =>
                K x31
              ) (
                opS P (S.fa 40 x27 4) fun x30 =>
                opS P (S.ld 4 x30) fun x31 =>
                brn x31 (
                  K (.bool true)
                ) (
                  opS P (S.fa 40 x27 2) fun x32 =>
                  opS P (S.ld 3 x32) fun x33 =>
                  opS P (S.fa 29 x2 1) fun x34 =>
                  opS P (S.ld 3 x34) fun x35 =>
                  opS P (S.binI .eql x33 x35) fun x36 =>
                  brn x36 (
                    opS P (S.fa 40 x27 3) fun x37 =>
                    opS P (S.ld 3 x37) fun x38 =>
                    opS P (S.fa 29 x2 6) fun x39 =>
                    opS P (S.ld 3 x39) fun x40 =>
                    opS P (S.binI .eql x38 x40) fun x41 =>
                    K x41
                  ) (
                    K (.bool false)
                  )
                )
              )
            ) fun j1 =>
            opS P (S.fa 37 x25 0) fun x29 =>
            opS P (S.ld 3 x29) fun x30 =>
            opS P (S.binI .geq x30 (.int .i64 1)) fun x31 =>
            brn x31 (
              opS P (S.fa 37 x25 0) fun x32 =>
              opS P (S.ld 3 x32) fun x33 =>
              opS P (S.binI .leq x33 (.int .i64 5)) fun x34 =>
              brn x34 (
                opS P (S.cl 14 [x6]) fun x35 =>
                opS P (S.cl 19 [x35]) fun x36 =>
                opS P (S.cl 20 [x36, x17]) fun x37 =>
                K x37
              ) (
                j1
              )
            ) (
              j1
            )
          ) fun j1 =>
          drw <|
          opS P (S.fa 37 x25 1) fun x27 =>
          opS P (S.fa 29 x2 5) fun x28 =>
          opS P (S.fa 27 x28 1) fun x29 =>
          allW (
            opS P (S.cl 14 [x6]) fun x30 =>
            allW (
              opS P (S.ld 3 x27) fun x31 =>
              allW (
                opS P (S.ld 24 x29) fun x32 =>
                allW (
                  opS P (S.cl 15 [x30, x31, x32]) fun x33 =>
                  opS P (S.ext x33 0) fun x34 =>
                  opS P (S.ext x33 1) fun x35 =>
                  opS P (S.alloc 40) fun x36 =>
                  opS P (S.st 40 x36 x34) fun x37 =>
                  j1 x36 x35
                ) (
                  opS P (S.alloc 40) fun x33 =>
                  opS P (S.cl 15 [x30, x31, x32]) fun x34 =>
                  opS P (S.ext x34 0) fun x35 =>
                  opS P (S.ext x34 1) fun x36 =>
                  opS P (S.st 40 x33 x35) fun x37 =>
                  j1 x33 x36
                )
              ) (
                opS P (S.alloc 40) fun x32 =>
                opS P (S.ld 24 x29) fun x33 =>
                opS P (S.cl 15 [x30, x31, x33]) fun x34 =>
                opS P (S.ext x34 0) fun x35 =>
                opS P (S.ext x34 1) fun x36 =>
                opS P (S.st 40 x32 x35) fun x37 =>
                j1 x32 x36
              )
            ) (
              allW (
                opS P (S.ld 24 x29) fun x31 =>
                allW (
                  opS P (S.ld 3 x27) fun x32 =>
                  allW (
                    opS P (S.cl 15 [x30, x32, x31]) fun x33 =>
                    opS P (S.ext x33 0) fun x34 =>
                    opS P (S.ext x33 1) fun x35 =>
                    opS P (S.alloc 40) fun x36 =>
                    opS P (S.st 40 x36 x34) fun x37 =>
                    j1 x36 x35
                  ) (
                    opS P (S.alloc 40) fun x33 =>
                    opS P (S.cl 15 [x30, x32, x31]) fun x34 =>
                    opS P (S.ext x34 0) fun x35 =>
                    opS P (S.ext x34 1) fun x36 =>
                    opS P (S.st 40 x33 x35) fun x37 =>
                    j1 x33 x36
                  )
                ) (
                  opS P (S.alloc 40) fun x32 =>
                  opS P (S.ld 3 x27) fun x33 =>
                  opS P (S.cl 15 [x30, x33, x31]) fun x34 =>
                  opS P (S.ext x34 0) fun x35 =>
                  opS P (S.ext x34 1) fun x36 =>
                  opS P (S.st 40 x32 x35) fun x37 =>
                  j1 x32 x36
                )
              ) (
                opS P (S.alloc 40) fun x31 =>
                opS P (S.ld 3 x27) fun x32 =>
                opS P (S.ld 24 x29) fun x33 =>
                opS P (S.cl 15 [x30, x32, x33]) fun x34 =>
                opS P (S.ext x34 0) fun x35 =>
                opS P (S.ext x34 1) fun x36 =>
                opS P (S.st 40 x31 x35) fun x37 =>
                j1 x31 x36
              )
            )
          ) (
            allW (
              opS P (S.ld 3 x27) fun x30 =>
              allW (
                opS P (S.cl 14 [x6]) fun x31 =>
                allW (
                  opS P (S.ld 24 x29) fun x32 =>
                  allW (
                    opS P (S.cl 15 [x31, x30, x32]) fun x33 =>
                    opS P (S.ext x33 0) fun x34 =>
                    opS P (S.ext x33 1) fun x35 =>
                    opS P (S.alloc 40) fun x36 =>
                    opS P (S.st 40 x36 x34) fun x37 =>
                    j1 x36 x35
                  ) (
                    opS P (S.alloc 40) fun x33 =>
                    opS P (S.cl 15 [x31, x30, x32]) fun x34 =>
                    opS P (S.ext x34 0) fun x35 =>
                    opS P (S.ext x34 1) fun x36 =>
                    opS P (S.st 40 x33 x35) fun x37 =>
                    j1 x33 x36
                  )
                ) (
                  opS P (S.alloc 40) fun x32 =>
                  opS P (S.ld 24 x29) fun x33 =>
                  opS P (S.cl 15 [x31, x30, x33]) fun x34 =>
                  opS P (S.ext x34 0) fun x35 =>
                  opS P (S.ext x34 1) fun x36 =>
                  opS P (S.st 40 x32 x35) fun x37 =>
                  j1 x32 x36
                )
              ) (
                allW (
                  opS P (S.ld 24 x29) fun x31 =>
                  allW (
                    opS P (S.cl 14 [x6]) fun x32 =>
                    allW (
                      opS P (S.cl 15 [x32, x30, x31]) fun x33 =>
                      opS P (S.ext x33 0) fun x34 =>
                      opS P (S.ext x33 1) fun x35 =>
                      opS P (S.alloc 40) fun x36 =>
                      opS P (S.st 40 x36 x34) fun x37 =>
                      j1 x36 x35
                    ) (
                      opS P (S.alloc 40) fun x33 =>
                      opS P (S.cl 15 [x32, x30, x31]) fun x34 =>
                      opS P (S.ext x34 0) fun x35 =>
                      opS P (S.ext x34 1) fun x36 =>
                      opS P (S.st 40 x33 x35) fun x37 =>
                      j1 x33 x36
                    )
                  ) (
                    opS P (S.alloc 40) fun x32 =>
                    opS P (S.cl 14 [x6]) fun x33 =>
                    opS P (S.cl 15 [x33, x30, x31]) fun x34 =>
                    opS P (S.ext x34 0) fun x35 =>
                    opS P (S.ext x34 1) fun x36 =>
                    opS P (S.st 40 x32 x35) fun x37 =>
                    j1 x32 x36
                  )
                ) (
                  opS P (S.alloc 40) fun x31 =>
                  allW (
                    opS P (S.cl 14 [x6]) fun x32 =>
                    opS P (S.ld 24 x29) fun x33 =>
                    opS P (S.cl 15 [x32, x30, x33]) fun x34 =>
                    opS P (S.ext x34 0) fun x35 =>
                    opS P (S.ext x34 1) fun x36 =>
                    opS P (S.st 40 x31 x35) fun x37 =>
                    j1 x31 x36
                  ) (
                    opS P (S.ld 24 x29) fun x32 =>
                    opS P (S.cl 14 [x6]) fun x33 =>
                    opS P (S.cl 15 [x33, x30, x32]) fun x34 =>
                    opS P (S.ext x34 0) fun x35 =>
                    opS P (S.ext x34 1) fun x36 =>
                    opS P (S.st 40 x31 x35) fun x37 =>
                    j1 x31 x36
                  )
                )
              )
            ) (
              allW (
                opS P (S.ld 24 x29) fun x30 =>
                allW (
                  opS P (S.cl 14 [x6]) fun x31 =>
                  allW (
                    opS P (S.ld 3 x27) fun x32 =>
                    allW (
                      opS P (S.cl 15 [x31, x32, x30]) fun x33 =>
                      opS P (S.ext x33 0) fun x34 =>
                      opS P (S.ext x33 1) fun x35 =>
                      opS P (S.alloc 40) fun x36 =>
                      opS P (S.st 40 x36 x34) fun x37 =>
                      j1 x36 x35
                    ) (
                      opS P (S.alloc 40) fun x33 =>
                      opS P (S.cl 15 [x31, x32, x30]) fun x34 =>
                      opS P (S.ext x34 0) fun x35 =>
                      opS P (S.ext x34 1) fun x36 =>
                      opS P (S.st 40 x33 x35) fun x37 =>
                      j1 x33 x36
                    )
                  ) (
                    opS P (S.alloc 40) fun x32 =>
                    opS P (S.ld 3 x27) fun x33 =>
                    opS P (S.cl 15 [x31, x33, x30]) fun x34 =>
                    opS P (S.ext x34 0) fun x35 =>
                    opS P (S.ext x34 1) fun x36 =>
                    opS P (S.st 40 x32 x35) fun x37 =>
                    j1 x32 x36
                  )
                ) (
                  allW (
                    opS P (S.ld 3 x27) fun x31 =>
                    allW (
                      opS P (S.cl 14 [x6]) fun x32 =>
                      allW (
                        opS P (S.cl 15 [x32, x31, x30]) fun x33 =>
                        opS P (S.ext x33 0) fun x34 =>
                        opS P (S.ext x33 1) fun x35 =>
                        opS P (S.alloc 40) fun x36 =>
                        opS P (S.st 40 x36 x34) fun x37 =>
                        j1 x36 x35
                      ) (
                        opS P (S.alloc 40) fun x33 =>
                        opS P (S.cl 15 [x32, x31, x30]) fun x34 =>
                        opS P (S.ext x34 0) fun x35 =>
                        opS P (S.ext x34 1) fun x36 =>
                        opS P (S.st 40 x33 x35) fun x37 =>
                        j1 x33 x36
                      )
                    ) (
                      opS P (S.alloc 40) fun x32 =>
                      opS P (S.cl 14 [x6]) fun x33 =>
                      opS P (S.cl 15 [x33, x31, x30]) fun x34 =>
                      opS P (S.ext x34 0) fun x35 =>
                      opS P (S.ext x34 1) fun x36 =>
                      opS P (S.st 40 x32 x35) fun x37 =>
                      j1 x32 x36
                    )
                  ) (
                    opS P (S.alloc 40) fun x31 =>
                    allW (
                      opS P (S.cl 14 [x6]) fun x32 =>
                      opS P (S.ld 3 x27) fun x33 =>
                      opS P (S.cl 15 [x32, x33, x30]) fun x34 =>
                      opS P (S.ext x34 0) fun x35 =>
                      opS P (S.ext x34 1) fun x36 =>
                      opS P (S.st 40 x31 x35) fun x37 =>
                      j1 x31 x36
                    ) (
                      opS P (S.ld 3 x27) fun x32 =>
                      opS P (S.cl 14 [x6]) fun x33 =>
                      opS P (S.cl 15 [x33, x32, x30]) fun x34 =>
                      opS P (S.ext x34 0) fun x35 =>
                      opS P (S.ext x34 1) fun x36 =>
                      opS P (S.st 40 x31 x35) fun x37 =>
                      j1 x31 x36
                    )
                  )
                )
              ) (
                opS P (S.alloc 40) fun x30 =>
                allW (
                  opS P (S.cl 14 [x6]) fun x31 =>
                  opS P (S.ld 3 x27) fun x32 =>
                  opS P (S.ld 24 x29) fun x33 =>
                  opS P (S.cl 15 [x31, x32, x33]) fun x34 =>
                  opS P (S.ext x34 0) fun x35 =>
                  opS P (S.ext x34 1) fun x36 =>
                  opS P (S.st 40 x30 x35) fun x37 =>
                  j1 x30 x36
                ) (
                  allW (
                    opS P (S.ld 3 x27) fun x31 =>
                    allW (
                      opS P (S.cl 14 [x6]) fun x32 =>
                      opS P (S.ld 24 x29) fun x33 =>
                      opS P (S.cl 15 [x32, x31, x33]) fun x34 =>
                      opS P (S.ext x34 0) fun x35 =>
                      opS P (S.ext x34 1) fun x36 =>
                      opS P (S.st 40 x30 x35) fun x37 =>
                      j1 x30 x36
                    ) (
                      opS P (S.ld 24 x29) fun x32 =>
                      opS P (S.cl 14 [x6]) fun x33 =>
                      opS P (S.cl 15 [x33, x31, x32]) fun x34 =>
                      opS P (S.ext x34 0) fun x35 =>
                      opS P (S.ext x34 1) fun x36 =>
                      opS P (S.st 40 x30 x35) fun x37 =>
                      j1 x30 x36
                    )
                  ) (
                    opS P (S.ld 24 x29) fun x31 =>
                    allW (
                      opS P (S.cl 14 [x6]) fun x32 =>
                      opS P (S.ld 3 x27) fun x33 =>
                      opS P (S.cl 15 [x32, x33, x31]) fun x34 =>
                      opS P (S.ext x34 0) fun x35 =>
                      opS P (S.ext x34 1) fun x36 =>
                      opS P (S.st 40 x30 x35) fun x37 =>
                      j1 x30 x36
                    ) (
                      opS P (S.ld 3 x27) fun x32 =>
                      opS P (S.cl 14 [x6]) fun x33 =>
                      opS P (S.cl 15 [x33, x32, x31]) fun x34 =>
                      opS P (S.ext x34 0) fun x35 =>
                      opS P (S.ext x34 1) fun x36 =>
                      opS P (S.st 40 x30 x35) fun x37 =>
                      j1 x30 x36
                    )
                  )
                )
              )
            )
          )
        )
      )
    )
  )
instance fnb4 : FnB Tryz.prog 4 := ⟨Tryz.call4⟩
theorem e4 : p4 Tryz.prog = fun K x0 x1 => denF Tryz.prog Tryz.f4 [x0, x1] K := by kernel_rfl
theorem c4 {K : Value → World → Prop} {x0 x1 : Value} {w : World} (h : p4 Tryz.prog K x0 x1 w) : CallsR Tryz.prog 4 #[x0, x1] K w := by
  rw [e4] at h
  exact denF_sound mixed Tryz.func4 h

end Go.Gx.S
-- 3 4
end

section
/- What the functions of this program ask. -/
set_option linter.unusedVariables false
set_option maxRecDepth 100000
namespace Go.Gx.S
open Go Go.Gx Go.Proofs
-- gemel/gemellaw12.FlowOnce
def p9 (P : Program) (K : Value → World → Prop) (x0 : Value) (x1 : Value) : World → Prop :=
  opS P (S.box 29 x1) fun x2 =>
  opS P (S.cl 10 []) fun x3 =>
  opS P (S.cl 11 [x0]) fun x4 =>
  opS P (S.cl 12 [x0]) fun x5 =>
  opS P (S.ext x5 0) fun x6 =>
  opS P (S.ext x5 1) fun x7 =>
  jnJ 0 (
    jnJ 1 (fun x8 =>
      K x8
    ) fun j0 =>
    brn x3 (
      j0 x7
    ) (
      j0 (.bool false)
    )
  ) fun j0 =>
  opS P (S.un .not x3) fun x8 =>
  brn x8 (
    j0
  ) (
    opS P (S.un .not x4) fun x9 =>
    brn x9 (
      j0
    ) (
      opS P (S.un .not x7) fun x10 =>
      brn x10 (
        j0
      ) (
        opS P (S.fa 29 x2 5) fun x11 =>
        opS P (S.fa 27 x11 6) fun x12 =>
        opS P (S.ld 25 x12) fun x13 =>
        opS P (S.len x13) fun x14 =>
        opS P (S.binI .gtr x14 (.int .i64 2000)) fun x15 =>
        brn x15 (
          j0
        ) (
          opS P (S.cl 22 [x6]) fun x16 =>
          opS P (S.cl 32 [x16]) fun x17 =>
          opS P (S.fa 29 x2 1) fun x18 =>
          opS P (S.ld 3 x18) fun x19 =>
          opS P (S.fa 29 x2 5) fun x20 =>
          opS P (S.ld 27 x20) fun x21 =>
          opS P (S.fa 29 x2 6) fun x22 =>
          opS P (S.ld 3 x22) fun x23 =>
          opS P (S.cl 13 [x6, x19, x21, x23]) fun x24 =>
          opS P (S.alloc 37) fun x25 =>
          opS P (S.st 37 x25 x24) fun x26 =>
          jnJ 1 (fun x27 =>
            jnJ 0 (
              opS P (S.cl 22 [x6]) fun x28 =>
              opS P (S.cl 32 [x28]) fun x29 =>
              opS P (S.binI .add x17 (.int .i64 1)) fun x30 =>
              opS P (S.binI .eql x29 x30) fun x31 =>
              brn x31 (
                opS P (S.fa 37 x25 0) fun x32 =>
                opS P (S.ld 3 x32) fun x33 =>
                opS P (S.binI .eql x33 (.int .i64 0)) fun x34 =>
                opS P (S.fa 37 x25 3) fun x35 =>
                opS P (S.ld 35 x35) fun x36 =>
                opS P (S.len x36) fun x37 =>
                opS P (S.binI .gtr x37 (.int .i64 0)) fun x38 =>
                opS P (S.binB .eql x34 x38) fun x39 =>
                brn x39 (
                  opS P (S.fa 37 x25 0) fun x40 =>
                  opS P (S.ld 3 x40) fun x41 =>
                  opS P (S.binI .geq x41 (.int .i64 0)) fun x42 =>
                  brn x42 (
                    opS P (S.fa 37 x25 0) fun x43 =>
                    opS P (S.ld 3 x43) fun x44 =>
                    opS P (S.binI .leq x44 (.int .i64 8)) fun x45 =>
                    K x45
                  ) (
                    K (.bool false)
                  )
                ) (
                  K (.bool false)
                )
              ) (
                K (.bool false)
              )
            ) fun j1 =>
            loopJ 1 (fun j2 x28 =>
              opS P (S.fa 37 x25 3) fun x29 =>
              opS P (S.ld 35 x29) fun x30 =>
              opS P (S.len x30) fun x31 =>
              opS P (S.binI .lss x28 x31) fun x32 =>
              brn x32 (
                jnJ 0 (
                  opS P (S.binI .add x28 (.int .i64 1)) fun x33 =>
                  j2 x33
                ) fun j3 =>
                opS P (S.fa 37 x25 3) fun x33 =>
                opS P (S.ld 35 x33) fun x34 =>
                opS P (S.ia 35 x34 x28) fun x35 =>
                opS P (S.fa 49 x35 0) fun x36 =>
                opS P (S.ld 3 x36) fun x37 =>
                jnJ 1 (fun x38 =>
                  opS P (S.un .not x38) fun x39 =>
                  brn x39 (
                    K (.bool false)
                  ) (
                    opS P (S.fa 29 x2 1) fun x40 =>
                    opS P (S.ld 3 x40) fun x41 =>
                    opS P (S.binI .eql x37 x41) fun x42 =>
                    brn x42 (
                      K (.bool false)
                    ) (
                      opS P (S.cl 24 [x6, x37]) fun x43 =>
                      opS P (S.binI .neq x43 (.int .i64 2)) fun x44 =>
                      brn x44 (
                        K (.bool false)
                      ) (
                        opS P (S.binI .gtr x28 (.int .i64 0)) fun x45 =>
                        brn x45 (
                          opS P (S.fa 37 x25 3) fun x46 =>
                          opS P (S.ld 35 x46) fun x47 =>
                          opS P (S.binI .sub x28 (.int .i64 1)) fun x48 =>
                          opS P (S.ia 35 x47 x48) fun x49 =>
                          opS P (S.fa 49 x49 0) fun x50 =>
                          opS P (S.ld 3 x50) fun x51 =>
                          opS P (S.binI .geq x51 x37) fun x52 =>
                          brn x52 (
                            K (.bool false)
                          ) (
                            j3
                          )
                        ) (
                          j3
                        )
                      )
                    )
                  )
                ) fun j4 =>
                loopJ 2 (fun j5 x38 x39 =>
                  opS P (S.len x27) fun x40 =>
                  opS P (S.binI .lss x39 x40) fun x41 =>
                  brn x41 (
                    brn x38 (
                      opS P (S.binI .add x39 (.int .i64 1)) fun x42 =>
                      j5 (.bool true) x42
                    ) (
                      opS P (S.ia 70 x27 x39) fun x42 =>
                      opS P (S.ld 3 x42) fun x43 =>
                      opS P (S.binI .eql x43 x37) fun x44 =>
                      opS P (S.binI .add x39 (.int .i64 1)) fun x45 =>
                      j5 x44 x45
                    )
                  ) (
                    j4 x38
                  )
                ) (.bool false) (.int .i64 0)
              ) (
                j1
              )
            ) (.int .i64 0)
          ) fun j1 =>
          drw <|
          opS P (S.fa 37 x25 1) fun x27 =>
          allW (
            opS P (S.cl 29 [x6]) fun x28 =>
            opS P (S.ld 3 x27) fun x29 =>
            opS P (S.cl 30 [x28, x29]) fun x30 =>
            j1 x30
          ) (
            opS P (S.ld 3 x27) fun x28 =>
            opS P (S.cl 29 [x6]) fun x29 =>
            opS P (S.cl 30 [x29, x28]) fun x30 =>
            j1 x30
          )
        )
      )
    )
  )
instance fnb9 : FnB Tryz.prog 9 := ⟨Tryz.call9⟩
theorem e9 : p9 Tryz.prog = fun K x0 x1 => denF Tryz.prog Tryz.f9 [x0, x1] K := by kernel_rfl
theorem c9 {K : Value → World → Prop} {x0 x1 : Value} {w : World} (h : p9 Tryz.prog K x0 x1 w) : CallsR Tryz.prog 9 #[x0, x1] K w := by
  rw [e9] at h
  exact denF_sound mixed Tryz.func9 h

end Go.Gx.S
-- 9
end

section
/- What the functions of this program ask. -/
set_option linter.unusedVariables false
set_option maxRecDepth 100000
namespace Go.Gx.S
open Go Go.Gx Go.Proofs
-- gemel/gemellaw12.sum
def p32 (P : Program) (K : Value → World → Prop) (x0 : Value) : World → Prop :=
  opS P (S.box 55 x0) fun x1 =>
  jnJ 1 (fun x2 =>
    K x2
  ) fun j0 =>
  loopJ 2 (fun j1 x2 x3 =>
    opS P (S.binI .lss x3 (.int .i64 9)) fun x4 =>
    brn x4 (
      opS P (S.ia 55 x1 x3) fun x5 =>
      opS P (S.ld 3 x5) fun x6 =>
      opS P (S.binI .add x2 x6) fun x7 =>
      opS P (S.binI .add x3 (.int .i64 1)) fun x8 =>
      j1 x7 x8
    ) (
      j0 x2
    )
  ) (.int .i64 0) (.int .i64 0)
instance fnb32 : FnB Tryz.prog 32 := ⟨Tryz.call32⟩
theorem e32 : p32 Tryz.prog = fun K x0 => denF Tryz.prog Tryz.f32 [x0] K := by kernel_rfl
theorem c32 {K : Value → World → Prop} {x0 : Value} {w : World} (h : p32 Tryz.prog K x0 w) : CallsR Tryz.prog 32 #[x0] K w := by
  rw [e32] at h
  exact denF_sound mixed Tryz.func32 h

end Go.Gx.S
-- 32
end

section
/- What the functions of this program ask. -/
set_option linter.unusedVariables false
set_option maxRecDepth 100000
namespace Go.Gx.S
open Go Go.Gx Go.Proofs
-- gemel/gemellaw12.FlowScripts
def p7 (P : Program) (K : Value → World → Prop) (x0 : Value) (x1 : Value) : World → Prop :=
  opS P (S.box 61 x0) fun x2 =>
  opS P (S.cl 10 []) fun x3 =>
  opS P (S.cl 11 [x1]) fun x4 =>
  opS P (S.ia 61 x2 (.int .i64 0)) fun x5 =>
  opS P (S.ld 3 x5) fun x6 =>
  opS P (S.ia 61 x2 (.int .i64 1)) fun x7 =>
  opS P (S.ld 3 x7) fun x8 =>
  opS P (S.cl 25 [x6, x8]) fun x9 =>
  opS P (S.ext x9 0) fun x10 =>
  opS P (S.ext x9 1) fun x11 =>
  opS P (S.ia 61 x2 (.int .i64 0)) fun x12 =>
  opS P (S.ld 3 x12) fun x13 =>
  opS P (S.ia 61 x2 (.int .i64 1)) fun x14 =>
  opS P (S.ld 3 x14) fun x15 =>
  opS P (S.cl 26 [x13, x15]) fun x16 =>
  opS P (S.ext x16 0) fun x17 =>
  opS P (S.ext x16 1) fun x18 =>
  opS P (S.un .not x3) fun x19 =>
  brn x19 (
    K (.bool false)
  ) (
    opS P (S.binI .neq x11 x18) fun x20 =>
    brn x20 (
      K (.bool false)
    ) (
      opS P (S.binN .eql (S.isNilP x10)) fun x21 =>
      opS P (S.binN .eql (S.isNilP x17)) fun x22 =>
      opS P (S.binB .neq x21 x22) fun x23 =>
      brn x23 (
        K (.bool false)
      ) (
        jnJ 0 (
          K (.bool true)
        ) fun j0 =>
        loopJ 1 (fun j1 x24 =>
          opS P (S.len x1) fun x25 =>
          opS P (S.binI .lss x24 x25) fun x26 =>
          brn x26 (
            opS P (S.binI .lss x24 (.int .i64 120)) fun x27 =>
            brn x27 (
              opS P (S.binN .neq (S.isNilP x10)) fun x28 =>
              brn x28 (
                brn x4 (
                  opS P (S.ia 22 x1 x24) fun x29 =>
                  opS P (S.ld 29 x29) fun x30 =>
                  opS P (S.cl 27 [x10, x17, x30]) fun x31 =>
                  opS P (S.ia 22 x1 x24) fun x32 =>
                  opS P (S.fa 29 x32 1) fun x33 =>
                  opS P (S.ld 3 x33) fun x34 =>
                  opS P (S.cl 28 [x10, x17, x34]) fun x35 =>
                  opS P (S.un .not x31) fun x36 =>
                  brn x36 (
                    K (.bool false)
                  ) (
                    opS P (S.un .not x35) fun x37 =>
                    brn x37 (
                      K (.bool false)
                    ) (
                      opS P (S.binI .add x24 (.int .i64 1)) fun x38 =>
                      j1 x38
                    )
                  )
                ) (
                  j0
                )
              ) (
                j0
              )
            ) (
              j0
            )
          ) (
            j0
          )
        ) (.int .i64 0)
      )
    )
  )
instance fnb7 : FnB Tryz.prog 7 := ⟨Tryz.call7⟩
theorem e7 : p7 Tryz.prog = fun K x0 x1 => denF Tryz.prog Tryz.f7 [x0, x1] K := by kernel_rfl
theorem c7 {K : Value → World → Prop} {x0 x1 : Value} {w : World} (h : p7 Tryz.prog K x0 x1 w) : CallsR Tryz.prog 7 #[x0, x1] K w := by
  rw [e7] at h
  exact denF_sound mixed Tryz.func7 h

end Go.Gx.S
-- 7
end

section
/- What the functions of this program ask. -/
set_option linter.unusedVariables false
set_option maxRecDepth 100000
namespace Go.Gx.S
open Go Go.Gx Go.Proofs
-- gemel/gemellaw12.awake
def p10 (P : Program) (K : Value → World → Prop) : World → Prop :=
  opS P (S.cl 33 [(.int .i64 3)]) fun x0 =>
  opS P (S.ext x0 0) fun x1 =>
  opS P (S.ext x0 1) fun x2 =>
  opS P (S.binI .neq x2 (.int .i64 0)) fun x3 =>
  brn x3 (
    K (.bool false)
  ) (
    opS P (S.binN .eql (S.isNilP x1)) fun x4 =>
    brn x4 (
      K (.bool false)
    ) (
      opS P (S.cl 29 [x1]) fun x5 =>
      opS P (S.binN .eql (S.isNilP x5)) fun x6 =>
      brn x6 (
        K (.bool false)
      ) (
        opS P (S.cl 14 [x1]) fun x7 =>
        opS P (S.binN .eql (S.isNilP x7)) fun x8 =>
        brn x8 (
          K (.bool false)
        ) (
          opS P (S.build 24 [(0, (.int .u8 4))]) fun x9 =>
          opS P (S.build 24 [(0, (.int .u8 2))]) fun x10 =>
          opS P (S.build 27 [(0, x9), (1, x10), (5, (.int .i64 2048))]) fun x11 =>
          opS P (S.cl 13 [x1, (.int .i64 1), x11, (.int .i64 0)]) fun x12 =>
          opS P (S.alloc 37) fun x13 =>
          opS P (S.st 37 x13 x12) fun x14 =>
          opS P (S.build 24 [(0, (.int .u8 2))]) fun x15 =>
          opS P (S.build 24 [(0, (.int .u8 4))]) fun x16 =>
          opS P (S.build 27 [(0, x15), (1, x16), (5, (.int .i64 2048))]) fun x17 =>
          opS P (S.cl 13 [x1, (.int .i64 2), x17, (.int .i64 0)]) fun x18 =>
          opS P (S.alloc 37) fun x19 =>
          opS P (S.st 37 x19 x18) fun x20 =>
          opS P (S.fa 37 x13 0) fun x21 =>
          opS P (S.ld 3 x21) fun x22 =>
          opS P (S.binI .eql x22 (.int .i64 0)) fun x23 =>
          brn x23 (
            opS P (S.fa 37 x13 3) fun x24 =>
            opS P (S.ld 35 x24) fun x25 =>
            opS P (S.len x25) fun x26 =>
            opS P (S.binI .eql x26 (.int .i64 2)) fun x27 =>
            brn x27 (
              opS P (S.fa 37 x19 3) fun x28 =>
              opS P (S.ld 35 x28) fun x29 =>
              opS P (S.len x29) fun x30 =>
              opS P (S.binI .eql x30 (.int .i64 1)) fun x31 =>
              brn x31 (
                opS P (S.fa 37 x19 2) fun x32 =>
                opS P (S.ld 3 x32) fun x33 =>
                opS P (S.binI .eql x33 (.int .i64 1)) fun x34 =>
                K x34
              ) (
                K (.bool false)
              )
            ) (
              K (.bool false)
            )
          ) (
            K (.bool false)
          )
        )
      )
    )
  )
instance fnb10 : FnB Tryz.prog 10 := ⟨Tryz.call10⟩
theorem e10 : p10 Tryz.prog = fun K => denF Tryz.prog Tryz.f10 [] K := by kernel_rfl
theorem c10 {K : Value → World → Prop} {w : World} (h : p10 Tryz.prog K w) : CallsR Tryz.prog 10 #[] K w := by
  rw [e10] at h
  exact denF_sound mixed Tryz.func10 h

-- gemel/gemellaw12.few
def p11 (P : Program) (K : Value → World → Prop) (x0 : Value) : World → Prop :=
  jnJ 0 (
    K (.bool true)
  ) fun j0 =>
  loopJ 1 (fun j1 x1 =>
    opS P (S.len x0) fun x2 =>
    opS P (S.binI .lss x1 x2) fun x3 =>
    brn x3 (
      opS P (S.binI .lss x1 (.int .i64 120)) fun x4 =>
      brn x4 (
        opS P (S.ia 22 x0 x1) fun x5 =>
        opS P (S.fa 29 x5 5) fun x6 =>
        opS P (S.fa 27 x6 6) fun x7 =>
        opS P (S.ld 25 x7) fun x8 =>
        opS P (S.len x8) fun x9 =>
        opS P (S.binI .gtr x9 (.int .i64 2000)) fun x10 =>
        brn x10 (
          K (.bool false)
        ) (
          opS P (S.binI .add x1 (.int .i64 1)) fun x11 =>
          j1 x11
        )
      ) (
        j0
      )
    ) (
      j0
    )
  ) (.int .i64 0)
instance fnb11 : FnB Tryz.prog 11 := ⟨Tryz.call11⟩
theorem e11 : p11 Tryz.prog = fun K x0 => denF Tryz.prog Tryz.f11 [x0] K := by kernel_rfl
theorem c11 {K : Value → World → Prop} {x0 : Value} {w : World} (h : p11 Tryz.prog K x0 w) : CallsR Tryz.prog 11 #[x0] K w := by
  rw [e11] at h
  exact denF_sound mixed Tryz.func11 h

-- gemel/gemellaw12.made
def p12 (P : Program) (K : Value → World → Prop) (x0 : Value) : World → Prop :=
  opS P (S.cl 33 [(.int .i64 4)]) fun x1 =>
  opS P (S.ext x1 0) fun x2 =>
  opS P (S.ext x1 1) fun x3 =>
  opS P (S.binI .neq x3 (.int .i64 0)) fun x4 =>
  brn x4 (
    K (.tuple #[(.pointer none), (.bool false)])
  ) (
    opS P (S.binN .eql (S.isNilP x2)) fun x5 =>
    brn x5 (
      K (.tuple #[(.pointer none), (.bool false)])
    ) (
      opS P (S.cl 26 [(.int .i64 4), (.int .i64 20)]) fun x6 =>
      opS P (S.ext x6 0) fun x7 =>
      opS P (S.ext x6 1) fun x8 =>
      jnJ 0 (
        K (.tuple #[x2, (.bool true)])
      ) fun j0 =>
      loopJ 1 (fun j1 x9 =>
        opS P (S.len x0) fun x10 =>
        opS P (S.binI .lss x9 x10) fun x11 =>
        brn x11 (
          opS P (S.binI .lss x9 (.int .i64 80)) fun x12 =>
          brn x12 (
            opS P (S.ia 22 x0 x9) fun x13 =>
            opS P (S.ld 29 x13) fun x14 =>
            opS P (S.cl 27 [x2, x7, x14]) fun x15 =>
            opS P (S.binI .add x9 (.int .i64 1)) fun x16 =>
            j1 x16
          ) (
            j0
          )
        ) (
          j0
        )
      ) (.int .i64 0)
    )
  )
instance fnb12 : FnB Tryz.prog 12 := ⟨Tryz.call12⟩
theorem e12 : p12 Tryz.prog = fun K x0 => denF Tryz.prog Tryz.f12 [x0] K := by kernel_rfl
theorem c12 {K : Value → World → Prop} {x0 : Value} {w : World} (h : p12 Tryz.prog K x0 w) : CallsR Tryz.prog 12 #[x0] K w := by
  rw [e12] at h
  exact denF_sound mixed Tryz.func12 h

-- gemel/gemellaw12.plain
def p33 (P : Program) (K : Value → World → Prop) (x0 : Value) : World → Prop :=
  opS P (S.cl 25 [x0, (.int .i64 20)]) fun x1 =>
  opS P (S.ext x1 0) fun x2 =>
  opS P (S.ext x1 1) fun x3 =>
  opS P (S.binI .neq x3 (.int .i64 0)) fun x4 =>
  brn x4 (
    K (.tuple #[(.pointer none), x3])
  ) (
    opS P (S.binN .eql (S.isNilP x2)) fun x5 =>
    brn x5 (
      K (.tuple #[(.pointer none), x3])
    ) (
      jnJ 0 (
        K (.tuple #[x2, (.int .i64 0)])
      ) fun j0 =>
      loopJ 1 (fun j1 x6 =>
        opS P (S.binI .leq x6 x0) fun x7 =>
        brn x7 (
          opS P (S.cl 29 [x2]) fun x8 =>
          opS P (S.cl 56 [x8, (.int .i64 1), x6, (.bool false)]) fun x9 =>
          opS P (S.cl 29 [x2]) fun x10 =>
          opS P (S.cl 58 [x10, x6, (.int .i64 1)]) fun x11 =>
          opS P (S.cl 23 [x2, x6, (.int .i64 2)]) fun x12 =>
          opS P (S.binI .add x6 (.int .i64 1)) fun x13 =>
          j1 x13
        ) (
          j0
        )
      ) (.int .i64 1)
    )
  )
instance fnb33 : FnB Tryz.prog 33 := ⟨Tryz.call33⟩
theorem e33 : p33 Tryz.prog = fun K x0 => denF Tryz.prog Tryz.f33 [x0] K := by kernel_rfl
theorem c33 {K : Value → World → Prop} {x0 : Value} {w : World} (h : p33 Tryz.prog K x0 w) : CallsR Tryz.prog 33 #[x0] K w := by
  rw [e33] at h
  exact denF_sound mixed Tryz.func33 h

end Go.Gx.S
-- 11 33 10 12
end

section
/- What the functions of this program ask. -/
set_option linter.unusedVariables false
set_option maxRecDepth 100000
namespace Go.Gx.S
open Go Go.Gx Go.Proofs
-- gemel/gemellaw12.step
def p27 (P : Program) (K : Value → World → Prop) (x0 : Value) (x1 : Value) (x2 : Value) : World → Prop :=
  opS P (S.box 29 x2) fun x3 =>
  opS P (S.fa 29 x3 0) fun x4 =>
  opS P (S.ld 3 x4) fun x5 =>
  opS P (S.binI .eql x5 (.int .i64 0)) fun x6 =>
  brn x6 (
    opS P (S.fa 29 x3 1) fun x7 =>
    opS P (S.ld 3 x7) fun x8 =>
    opS P (S.fa 29 x3 5) fun x9 =>
    opS P (S.ld 27 x9) fun x10 =>
    opS P (S.fa 29 x3 6) fun x11 =>
    opS P (S.ld 3 x11) fun x12 =>
    opS P (S.cl 13 [x0, x8, x10, x12]) fun x13 =>
    opS P (S.alloc 37) fun x14 =>
    opS P (S.st 37 x14 x13) fun x15 =>
    jnJ 1 (fun x16 =>
      K x16
    ) fun j0 =>
    drw <|
    opS P (S.fa 29 x3 1) fun x16 =>
    opS P (S.ld 3 x16) fun x17 =>
    opS P (S.fa 29 x3 5) fun x18 =>
    opS P (S.ld 27 x18) fun x19 =>
    opS P (S.fa 29 x3 6) fun x20 =>
    opS P (S.ld 3 x20) fun x21 =>
    allW (
      opS P (S.ld 37 x14) fun x22 =>
      opS P (S.cl 54 [x1, x17, x19, x21]) fun x23 =>
      opS P (S.cl 21 [x22, x23]) fun x24 =>
      j0 x24
    ) (
      opS P (S.cl 54 [x1, x17, x19, x21]) fun x22 =>
      opS P (S.ld 37 x14) fun x23 =>
      opS P (S.cl 21 [x23, x22]) fun x24 =>
      j0 x24
    )
  ) (
    opS P (S.binI .eql x5 (.int .i64 1)) fun x7 =>
    brn x7 (
      opS P (S.fa 29 x3 1) fun x8 =>
      opS P (S.ld 3 x8) fun x9 =>
      opS P (S.fa 29 x3 2) fun x10 =>
      opS P (S.ld 3 x10) fun x11 =>
      opS P (S.cl 23 [x0, x9, x11]) fun x12 =>
      opS P (S.fa 29 x3 1) fun x13 =>
      opS P (S.ld 3 x13) fun x14 =>
      opS P (S.fa 29 x3 2) fun x15 =>
      opS P (S.ld 3 x15) fun x16 =>
      opS P (S.cl 55 [x1, x14, x16]) fun x17 =>
      opS P (S.binI .eql x12 x17) fun x18 =>
      K x18
    ) (
      opS P (S.binI .eql x5 (.int .i64 2)) fun x8 =>
      brn x8 (
        jnJ 1 (fun x9 =>
          drw <|
          opS P (S.nc x1) fun x10 =>
          opS P (S.fa 113 x10 1) fun x11 =>
          opS P (S.ld 109 x11) fun x12 =>
          opS P (S.fa 29 x3 3) fun x13 =>
          opS P (S.ld 3 x13) fun x14 =>
          opS P (S.fa 29 x3 1) fun x15 =>
          opS P (S.ld 3 x15) fun x16 =>
          opS P (S.fa 29 x3 4) fun x17 =>
          opS P (S.ld 4 x17) fun x18 =>
          opS P (S.cl 57 [x12, x14, x16, x18]) fun x19 =>
          opS P (S.binI .eql x9 x19) fun x20 =>
          K x20
        ) fun j0 =>
        drw <|
        opS P (S.fa 29 x3 3) fun x9 =>
        opS P (S.fa 29 x3 1) fun x10 =>
        opS P (S.fa 29 x3 4) fun x11 =>
        allW (
          opS P (S.cl 29 [x0]) fun x12 =>
          opS P (S.ld 3 x9) fun x13 =>
          opS P (S.ld 3 x10) fun x14 =>
          opS P (S.ld 4 x11) fun x15 =>
          opS P (S.cl 56 [x12, x13, x14, x15]) fun x16 =>
          j0 x16
        ) (
          allW (
            opS P (S.ld 3 x9) fun x12 =>
            allW (
              opS P (S.cl 29 [x0]) fun x13 =>
              opS P (S.ld 3 x10) fun x14 =>
              opS P (S.ld 4 x11) fun x15 =>
              opS P (S.cl 56 [x13, x12, x14, x15]) fun x16 =>
              j0 x16
            ) (
              allW (
                opS P (S.ld 3 x10) fun x13 =>
                allW (
                  opS P (S.cl 29 [x0]) fun x14 =>
                  opS P (S.ld 4 x11) fun x15 =>
                  opS P (S.cl 56 [x14, x12, x13, x15]) fun x16 =>
                  j0 x16
                ) (
                  opS P (S.ld 4 x11) fun x14 =>
                  opS P (S.cl 29 [x0]) fun x15 =>
                  opS P (S.cl 56 [x15, x12, x13, x14]) fun x16 =>
                  j0 x16
                )
              ) (
                opS P (S.ld 4 x11) fun x13 =>
                allW (
                  opS P (S.cl 29 [x0]) fun x14 =>
                  opS P (S.ld 3 x10) fun x15 =>
                  opS P (S.cl 56 [x14, x12, x15, x13]) fun x16 =>
                  j0 x16
                ) (
                  opS P (S.ld 3 x10) fun x14 =>
                  opS P (S.cl 29 [x0]) fun x15 =>
                  opS P (S.cl 56 [x15, x12, x14, x13]) fun x16 =>
                  j0 x16
                )
              )
            )
          ) (
            allW (
              opS P (S.ld 3 x10) fun x12 =>
              allW (
                opS P (S.cl 29 [x0]) fun x13 =>
                opS P (S.ld 3 x9) fun x14 =>
                opS P (S.ld 4 x11) fun x15 =>
                opS P (S.cl 56 [x13, x14, x12, x15]) fun x16 =>
                j0 x16
              ) (
                allW (
                  opS P (S.ld 3 x9) fun x13 =>
                  allW (
                    opS P (S.cl 29 [x0]) fun x14 =>
                    opS P (S.ld 4 x11) fun x15 =>
                    opS P (S.cl 56 [x14, x13, x12, x15]) fun x16 =>
                    j0 x16
                  ) (
                    opS P (S.ld 4 x11) fun x14 =>
                    opS P (S.cl 29 [x0]) fun x15 =>
                    opS P (S.cl 56 [x15, x13, x12, x14]) fun x16 =>
                    j0 x16
                  )
                ) (
                  opS P (S.ld 4 x11) fun x13 =>
                  allW (
                    opS P (S.cl 29 [x0]) fun x14 =>
                    opS P (S.ld 3 x9) fun x15 =>
                    opS P (S.cl 56 [x14, x15, x12, x13]) fun x16 =>
                    j0 x16
                  ) (
                    opS P (S.ld 3 x9) fun x14 =>
                    opS P (S.cl 29 [x0]) fun x15 =>
                    opS P (S.cl 56 [x15, x14, x12, x13]) fun x16 =>
                    j0 x16
                  )
                )
              )
            ) (
              opS P (S.ld 4 x11) fun x12 =>
              allW (
                opS P (S.cl 29 [x0]) fun x13 =>
                opS P (S.ld 3 x9) fun x14 =>
                opS P (S.ld 3 x10) fun x15 =>
                opS P (S.cl 56 [x13, x14, x15, x12]) fun x16 =>
                j0 x16
              ) (
                allW (
                  opS P (S.ld 3 x9) fun x13 =>
                  allW (
                    opS P (S.cl 29 [x0]) fun x14 =>
                    opS P (S.ld 3 x10) fun x15 =>
                    opS P (S.cl 56 [x14, x13, x15, x12]) fun x16 =>
                    j0 x16
                  ) (
                    opS P (S.ld 3 x10) fun x14 =>
                    opS P (S.cl 29 [x0]) fun x15 =>
                    opS P (S.cl 56 [x15, x13, x14, x12]) fun x16 =>
                    j0 x16
                  )
                ) (
                  opS P (S.ld 3 x10) fun x13 =>
                  allW (
                    opS P (S.cl 29 [x0]) fun x14 =>
                    opS P (S.ld 3 x9) fun x15 =>
                    opS P (S.cl 56 [x14, x15, x13, x12]) fun x16 =>
                    j0 x16
                  ) (
                    opS P (S.ld 3 x9) fun x14 =>
                    opS P (S.cl 29 [x0]) fun x15 =>
                    opS P (S.cl 56 [x15, x14, x13, x12]) fun x16 =>
                    j0 x16
                  )
                )
              )
            )
          )
        )
      ) (
        opS P (S.binI .eql x5 (.int .i64 3)) fun x9 =>
        brn x9 (
          jnJ 1 (fun x10 =>
            drw <|
            opS P (S.nc x1) fun x11 =>
            opS P (S.fa 113 x11 1) fun x12 =>
            opS P (S.ld 109 x12) fun x13 =>
            opS P (S.fa 29 x3 1) fun x14 =>
            opS P (S.ld 3 x14) fun x15 =>
            opS P (S.fa 29 x3 3) fun x16 =>
            opS P (S.ld 3 x16) fun x17 =>
            opS P (S.cl 59 [x13, x15, x17]) fun x18 =>
            opS P (S.binI .eql x10 x18) fun x19 =>
            K x19
          ) fun j0 =>
          drw <|
          opS P (S.fa 29 x3 1) fun x10 =>
          opS P (S.fa 29 x3 3) fun x11 =>
          allW (
            opS P (S.cl 29 [x0]) fun x12 =>
            opS P (S.ld 3 x10) fun x13 =>
            opS P (S.ld 3 x11) fun x14 =>
            opS P (S.cl 58 [x12, x13, x14]) fun x15 =>
            j0 x15
          ) (
            allW (
              opS P (S.ld 3 x10) fun x12 =>
              allW (
                opS P (S.cl 29 [x0]) fun x13 =>
                opS P (S.ld 3 x11) fun x14 =>
                opS P (S.cl 58 [x13, x12, x14]) fun x15 =>
                j0 x15
              ) (
                opS P (S.ld 3 x11) fun x13 =>
                opS P (S.cl 29 [x0]) fun x14 =>
                opS P (S.cl 58 [x14, x12, x13]) fun x15 =>
                j0 x15
              )
            ) (
              opS P (S.ld 3 x11) fun x12 =>
              allW (
                opS P (S.cl 29 [x0]) fun x13 =>
                opS P (S.ld 3 x10) fun x14 =>
                opS P (S.cl 58 [x13, x14, x12]) fun x15 =>
                j0 x15
              ) (
                opS P (S.ld 3 x10) fun x13 =>
                opS P (S.cl 29 [x0]) fun x14 =>
                opS P (S.cl 58 [x14, x13, x12]) fun x15 =>
                j0 x15
              )
            )
          )
        ) (
          opS P (S.binI .eql x5 (.int .i64 4)) fun x10 =>
          brn x10 (
            jnJ 1 (fun x11 =>
              drw <|
              opS P (S.nc x1) fun x12 =>
              opS P (S.fa 113 x12 1) fun x13 =>
              opS P (S.ld 109 x13) fun x14 =>
              opS P (S.fa 29 x3 3) fun x15 =>
              opS P (S.ld 3 x15) fun x16 =>
              opS P (S.fa 29 x3 1) fun x17 =>
              opS P (S.ld 3 x17) fun x18 =>
              opS P (S.cl 61 [x14, x16, x18]) fun x19 =>
              opS P (S.binI .eql x11 x19) fun x20 =>
              K x20
            ) fun j0 =>
            drw <|
            opS P (S.fa 29 x3 3) fun x11 =>
            opS P (S.fa 29 x3 1) fun x12 =>
            allW (
              opS P (S.cl 29 [x0]) fun x13 =>
              opS P (S.ld 3 x11) fun x14 =>
              opS P (S.ld 3 x12) fun x15 =>
              opS P (S.cl 60 [x13, x14, x15]) fun x16 =>
              j0 x16
            ) (
              allW (
                opS P (S.ld 3 x11) fun x13 =>
                allW (
                  opS P (S.cl 29 [x0]) fun x14 =>
                  opS P (S.ld 3 x12) fun x15 =>
                  opS P (S.cl 60 [x14, x13, x15]) fun x16 =>
                  j0 x16
                ) (
                  opS P (S.ld 3 x12) fun x14 =>
                  opS P (S.cl 29 [x0]) fun x15 =>
                  opS P (S.cl 60 [x15, x13, x14]) fun x16 =>
                  j0 x16
                )
              ) (
                opS P (S.ld 3 x12) fun x13 =>
                allW (
                  opS P (S.cl 29 [x0]) fun x14 =>
                  opS P (S.ld 3 x11) fun x15 =>
                  opS P (S.cl 60 [x14, x15, x13]) fun x16 =>
                  j0 x16
                ) (
                  opS P (S.ld 3 x11) fun x14 =>
                  opS P (S.cl 29 [x0]) fun x15 =>
                  opS P (S.cl 60 [x15, x14, x13]) fun x16 =>
                  j0 x16
                )
              )
            )
          ) (
            opS P (S.binI .eql x5 (.int .i64 5)) fun x11 =>
            brn x11 (
              jnJ 1 (fun x12 =>
                drw <|
                opS P (S.nc x1) fun x13 =>
                opS P (S.fa 113 x13 2) fun x14 =>
                opS P (S.ld 106 x14) fun x15 =>
                opS P (S.fa 29 x3 6) fun x16 =>
                opS P (S.ld 3 x16) fun x17 =>
                opS P (S.fa 29 x3 2) fun x18 =>
                opS P (S.ld 3 x18) fun x19 =>
                opS P (S.cl 63 [x15, x17, x19]) fun x20 =>
                opS P (S.cl 20 [x12, x20]) fun x21 =>
                K x21
              ) fun j0 =>
              drw <|
              opS P (S.fa 29 x3 6) fun x12 =>
              opS P (S.fa 29 x3 2) fun x13 =>
              allW (
                opS P (S.cl 14 [x0]) fun x14 =>
                opS P (S.ld 3 x12) fun x15 =>
                opS P (S.ld 3 x13) fun x16 =>
                opS P (S.cl 62 [x14, x15, x16]) fun x17 =>
                j0 x17
              ) (
                allW (
                  opS P (S.ld 3 x12) fun x14 =>
                  allW (
                    opS P (S.cl 14 [x0]) fun x15 =>
                    opS P (S.ld 3 x13) fun x16 =>
                    opS P (S.cl 62 [x15, x14, x16]) fun x17 =>
                    j0 x17
                  ) (
                    opS P (S.ld 3 x13) fun x15 =>
                    opS P (S.cl 14 [x0]) fun x16 =>
                    opS P (S.cl 62 [x16, x14, x15]) fun x17 =>
                    j0 x17
                  )
                ) (
                  opS P (S.ld 3 x13) fun x14 =>
                  allW (
                    opS P (S.cl 14 [x0]) fun x15 =>
                    opS P (S.ld 3 x12) fun x16 =>
                    opS P (S.cl 62 [x15, x16, x14]) fun x17 =>
                    j0 x17
                  ) (
                    opS P (S.ld 3 x12) fun x15 =>
                    opS P (S.cl 14 [x0]) fun x16 =>
                    opS P (S.cl 62 [x16, x15, x14]) fun x17 =>
                    j0 x17
                  )
                )
              )
            ) (
              opS P (S.binI .eql x5 (.int .i64 6)) fun x12 =>
              brn x12 (
                jnJ 1 (fun x13 =>
                  drw <|
                  opS P (S.nc x1) fun x14 =>
                  opS P (S.fa 113 x14 2) fun x15 =>
                  opS P (S.ld 106 x15) fun x16 =>
                  opS P (S.fa 29 x3 3) fun x17 =>
                  opS P (S.ld 3 x17) fun x18 =>
                  opS P (S.fa 29 x3 5) fun x19 =>
                  opS P (S.fa 27 x19 1) fun x20 =>
                  opS P (S.ld 24 x20) fun x21 =>
                  opS P (S.fa 29 x3 1) fun x22 =>
                  opS P (S.ld 3 x22) fun x23 =>
                  opS P (S.cl 65 [x16, x18, x21, x23]) fun x24 =>
                  opS P (S.binI .eql x13 x24) fun x25 =>
                  K x25
                ) fun j0 =>
                drw <|
                opS P (S.fa 29 x3 3) fun x13 =>
                opS P (S.fa 29 x3 5) fun x14 =>
                opS P (S.fa 27 x14 1) fun x15 =>
                opS P (S.fa 29 x3 1) fun x16 =>
                allW (
                  opS P (S.cl 14 [x0]) fun x17 =>
                  opS P (S.ld 3 x13) fun x18 =>
                  opS P (S.ld 24 x15) fun x19 =>
                  opS P (S.ld 3 x16) fun x20 =>
                  opS P (S.cl 64 [x17, x18, x19, x20]) fun x21 =>
                  j0 x21
                ) (
                  allW (
                    opS P (S.ld 3 x13) fun x17 =>
                    allW (
                      opS P (S.cl 14 [x0]) fun x18 =>
                      opS P (S.ld 24 x15) fun x19 =>
                      opS P (S.ld 3 x16) fun x20 =>
                      opS P (S.cl 64 [x18, x17, x19, x20]) fun x21 =>
                      j0 x21
                    ) (
                      allW (
                        opS P (S.ld 24 x15) fun x18 =>
                        allW (
                          opS P (S.cl 14 [x0]) fun x19 =>
                          opS P (S.ld 3 x16) fun x20 =>
                          opS P (S.cl 64 [x19, x17, x18, x20]) fun x21 =>
                          j0 x21
                        ) (
                          opS P (S.ld 3 x16) fun x19 =>
                          opS P (S.cl 14 [x0]) fun x20 =>
                          opS P (S.cl 64 [x20, x17, x18, x19]) fun x21 =>
                          j0 x21
                        )
                      ) (
                        opS P (S.ld 3 x16) fun x18 =>
                        allW (
                          opS P (S.cl 14 [x0]) fun x19 =>
                          opS P (S.ld 24 x15) fun x20 =>
                          opS P (S.cl 64 [x19, x17, x20, x18]) fun x21 =>
                          j0 x21
                        ) (
                          opS P (S.ld 24 x15) fun x19 =>
                          opS P (S.cl 14 [x0]) fun x20 =>
                          opS P (S.cl 64 [x20, x17, x19, x18]) fun x21 =>
                          j0 x21
                        )
                      )
                    )
                  ) (
                    allW (
                      opS P (S.ld 24 x15) fun x17 =>
                      allW (
                        opS P (S.cl 14 [x0]) fun x18 =>
                        opS P (S.ld 3 x13) fun x19 =>
                        opS P (S.ld 3 x16) fun x20 =>
                        opS P (S.cl 64 [x18, x19, x17, x20]) fun x21 =>
                        j0 x21
                      ) (
                        allW (
                          opS P (S.ld 3 x13) fun x18 =>
                          allW (
                            opS P (S.cl 14 [x0]) fun x19 =>
                            opS P (S.ld 3 x16) fun x20 =>
                            opS P (S.cl 64 [x19, x18, x17, x20]) fun x21 =>
                            j0 x21
                          ) (
                            opS P (S.ld 3 x16) fun x19 =>
                            opS P (S.cl 14 [x0]) fun x20 =>
                            opS P (S.cl 64 [x20, x18, x17, x19]) fun x21 =>
                            j0 x21
                          )
                        ) (
                          opS P (S.ld 3 x16) fun x18 =>
                          allW (
                            opS P (S.cl 14 [x0]) fun x19 =>
                            opS P (S.ld 3 x13) fun x20 =>
                            opS P (S.cl 64 [x19, x20, x17, x18]) fun x21 =>
                            j0 x21
                          ) (
                            opS P (S.ld 3 x13) fun x19 =>
                            opS P (S.cl 14 [x0]) fun x20 =>
                            opS P (S.cl 64 [x20, x19, x17, x18]) fun x21 =>
                            j0 x21
                          )
                        )
                      )
                    ) (
                      opS P (S.ld 3 x16) fun x17 =>
                      allW (
                        opS P (S.cl 14 [x0]) fun x18 =>
                        opS P (S.ld 3 x13) fun x19 =>
                        opS P (S.ld 24 x15) fun x20 =>
                        opS P (S.cl 64 [x18, x19, x20, x17]) fun x21 =>
                        j0 x21
                      ) (
                        allW (
                          opS P (S.ld 3 x13) fun x18 =>
                          allW (
                            opS P (S.cl 14 [x0]) fun x19 =>
                            opS P (S.ld 24 x15) fun x20 =>
                            opS P (S.cl 64 [x19, x18, x20, x17]) fun x21 =>
                            j0 x21
                          ) (
                            opS P (S.ld 24 x15) fun x19 =>
                            opS P (S.cl 14 [x0]) fun x20 =>
                            opS P (S.cl 64 [x20, x18, x19, x17]) fun x21 =>
                            j0 x21
                          )
                        ) (
                          opS P (S.ld 24 x15) fun x18 =>
                          allW (
                            opS P (S.cl 14 [x0]) fun x19 =>
                            opS P (S.ld 3 x13) fun x20 =>
                            opS P (S.cl 64 [x19, x20, x18, x17]) fun x21 =>
                            j0 x21
                          ) (
                            opS P (S.ld 3 x13) fun x19 =>
                            opS P (S.cl 14 [x0]) fun x20 =>
                            opS P (S.cl 64 [x20, x19, x18, x17]) fun x21 =>
                            j0 x21
                          )
                        )
                      )
                    )
                  )
                )
              ) (
                opS P (S.fa 29 x3 3) fun x13 =>
                opS P (S.ld 3 x13) fun x14 =>
                opS P (S.fa 29 x3 1) fun x15 =>
                opS P (S.ld 3 x15) fun x16 =>
                opS P (S.fa 29 x3 2) fun x17 =>
                opS P (S.ld 3 x17) fun x18 =>
                opS P (S.fa 29 x3 5) fun x19 =>
                opS P (S.ld 27 x19) fun x20 =>
                opS P (S.cl 17 [x0, x14, x16, x18, x20]) fun x21 =>
                opS P (S.fa 29 x3 3) fun x22 =>
                opS P (S.ld 3 x22) fun x23 =>
                opS P (S.fa 29 x3 1) fun x24 =>
                opS P (S.ld 3 x24) fun x25 =>
                opS P (S.fa 29 x3 2) fun x26 =>
                opS P (S.ld 3 x26) fun x27 =>
                opS P (S.fa 29 x3 5) fun x28 =>
                opS P (S.ld 27 x28) fun x29 =>
                opS P (S.cl 66 [x1, x23, x25, x27, x29]) fun x30 =>
                opS P (S.cl 18 [x21, x30]) fun x31 =>
                K x31
              )
            )
          )
        )
      )
    )
  )
instance fnb27 : FnB Tryz.prog 27 := ⟨Tryz.call27⟩
theorem e27 : p27 Tryz.prog = fun K x0 x1 x2 => denF Tryz.prog Tryz.f27 [x0, x1, x2] K := by kernel_rfl
theorem c27 {K : Value → World → Prop} {x0 x1 x2 : Value} {w : World} (h : p27 Tryz.prog K x0 x1 x2 w) : CallsR Tryz.prog 27 #[x0, x1, x2] K w := by
  rw [e27] at h
  exact denF_sound mixed Tryz.func27 h

-- gemel/gemellaw12.alike
def p28 (P : Program) (K : Value → World → Prop) (x0 : Value) (x1 : Value) (x2 : Value) : World → Prop :=
  jnJ 1 (fun x3 =>
    drw <|
    brn x3 (
      opS P (S.cl 24 [x0, x2]) fun x4 =>
      opS P (S.cl 67 [x1, x2]) fun x5 =>
      opS P (S.binI .eql x4 x5) fun x6 =>
      brn x6 (
        opS P (S.nc x1) fun x7 =>
        opS P (S.fa 113 x7 4) fun x8 =>
        allW (
          opS P (S.cl 22 [x0]) fun x9 =>
          opS P (S.ld 55 x8) fun x10 =>
          opS P (S.binG .eql 55 x9 x10) fun x11 =>
          brn x11 (
            opS P (S.nc x1) fun x12 =>
            opS P (S.fa 113 x12 5) fun x13 =>
            allW (
              opS P (S.cl 68 [x0]) fun x14 =>
              opS P (S.ld 81 x13) fun x15 =>
              opS P (S.binG .eql 81 x14 x15) fun x16 =>
              K x16
            ) (
              opS P (S.ld 81 x13) fun x14 =>
              opS P (S.cl 68 [x0]) fun x15 =>
              opS P (S.binG .eql 81 x15 x14) fun x16 =>
              K x16
            )
          ) (
            allW (
              K (.bool false)
            ) (
              K (.bool false)
            )
          )
        ) (
          opS P (S.ld 55 x8) fun x9 =>
          opS P (S.cl 22 [x0]) fun x10 =>
          opS P (S.binG .eql 55 x10 x9) fun x11 =>
          brn x11 (
            opS P (S.nc x1) fun x12 =>
            opS P (S.fa 113 x12 5) fun x13 =>
            allW (
              opS P (S.cl 68 [x0]) fun x14 =>
              opS P (S.ld 81 x13) fun x15 =>
              opS P (S.binG .eql 81 x14 x15) fun x16 =>
              K x16
            ) (
              opS P (S.ld 81 x13) fun x14 =>
              opS P (S.cl 68 [x0]) fun x15 =>
              opS P (S.binG .eql 81 x15 x14) fun x16 =>
              K x16
            )
          ) (
            allW (
              K (.bool false)
            ) (
              K (.bool false)
            )
          )
        )
      ) (
        allW (
          allW (
            K (.bool false)
          ) (
            K (.bool false)
          )
        ) (
          allW (
            K (.bool false)
          ) (
            K (.bool false)
          )
        )
      )
    ) (
      allW (
        allW (
          K (.bool false)
        ) (
          K (.bool false)
        )
      ) (
        allW (
          K (.bool false)
        ) (
          K (.bool false)
        )
      )
    )
  ) fun j0 =>
  drw <|
  opS P (S.nc x1) fun x3 =>
  opS P (S.fa 113 x3 2) fun x4 =>
  allW (
    opS P (S.cl 14 [x0]) fun x5 =>
    allW (
      opS P (S.cl 19 [x5]) fun x6 =>
      opS P (S.ld 106 x4) fun x7 =>
      opS P (S.nc x7) fun x8 =>
      opS P (S.fa 118 x8 1) fun x9 =>
      opS P (S.ld 51 x9) fun x10 =>
      opS P (S.cl 20 [x6, x10]) fun x11 =>
      j0 x11
    ) (
      opS P (S.ld 106 x4) fun x6 =>
      opS P (S.nc x6) fun x7 =>
      opS P (S.fa 118 x7 1) fun x8 =>
      allW (
        opS P (S.cl 19 [x5]) fun x9 =>
        opS P (S.ld 51 x8) fun x10 =>
        opS P (S.cl 20 [x9, x10]) fun x11 =>
        j0 x11
      ) (
        opS P (S.ld 51 x8) fun x9 =>
        opS P (S.cl 19 [x5]) fun x10 =>
        opS P (S.cl 20 [x10, x9]) fun x11 =>
        j0 x11
      )
    )
  ) (
    opS P (S.ld 106 x4) fun x5 =>
    opS P (S.nc x5) fun x6 =>
    opS P (S.fa 118 x6 1) fun x7 =>
    allW (
      opS P (S.cl 14 [x0]) fun x8 =>
      allW (
        opS P (S.cl 19 [x8]) fun x9 =>
        opS P (S.ld 51 x7) fun x10 =>
        opS P (S.cl 20 [x9, x10]) fun x11 =>
        j0 x11
      ) (
        opS P (S.ld 51 x7) fun x9 =>
        opS P (S.cl 19 [x8]) fun x10 =>
        opS P (S.cl 20 [x10, x9]) fun x11 =>
        j0 x11
      )
    ) (
      opS P (S.ld 51 x7) fun x8 =>
      opS P (S.cl 14 [x0]) fun x9 =>
      opS P (S.cl 19 [x9]) fun x10 =>
      opS P (S.cl 20 [x10, x8]) fun x11 =>
      j0 x11
    )
  )
instance fnb28 : FnB Tryz.prog 28 := ⟨Tryz.call28⟩
theorem e28 : p28 Tryz.prog = fun K x0 x1 x2 => denF Tryz.prog Tryz.f28 [x0, x1, x2] K := by kernel_rfl
theorem c28 {K : Value → World → Prop} {x0 x1 x2 : Value} {w : World} (h : p28 Tryz.prog K x0 x1 x2 w) : CallsR Tryz.prog 28 #[x0, x1, x2] K w := by
  rw [e28] at h
  exact denF_sound mixed Tryz.func28 h

end Go.Gx.S
-- 27 28
end

section
/- What the functions of this program ask. -/
set_option linter.unusedVariables false
set_option maxRecDepth 100000
namespace Go.Gx.S
open Go Go.Gx Go.Proofs
-- gemel/gemelref12.SameOuts
def p18 (P : Program) (K : Value → World → Prop) (x0 : Value) (x1 : Value) : World → Prop :=
  opS P (S.len x0) fun x2 =>
  opS P (S.len x1) fun x3 =>
  opS P (S.binI .neq x2 x3) fun x4 =>
  brn x4 (
    K (.bool false)
  ) (
    jnJ 0 (
      K (.bool true)
    ) fun j0 =>
    loopJ 1 (fun j1 x5 =>
      opS P (S.len x0) fun x6 =>
      opS P (S.binI .lss x5 x6) fun x7 =>
      brn x7 (
        drw <|
        opS P (S.ia 35 x0 x5) fun x8 =>
        opS P (S.fa 49 x8 1) fun x9 =>
        opS P (S.ld 27 x9) fun x10 =>
        opS P (S.ia 35 x1 x5) fun x11 =>
        opS P (S.fa 49 x11 1) fun x12 =>
        opS P (S.ld 27 x12) fun x13 =>
        opS P (S.cl 40 [x10, x13]) fun x14 =>
        drw <|
        opS P (S.ia 35 x0 x5) fun x15 =>
        opS P (S.fa 49 x15 0) fun x16 =>
        opS P (S.ld 3 x16) fun x17 =>
        opS P (S.ia 35 x1 x5) fun x18 =>
        opS P (S.fa 49 x18 0) fun x19 =>
        opS P (S.ld 3 x19) fun x20 =>
        opS P (S.binI .neq x17 x20) fun x21 =>
        brn x21 (
          K (.bool false)
        ) (
          opS P (S.un .not x14) fun x22 =>
          brn x22 (
            K (.bool false)
          ) (
            opS P (S.binI .add x5 (.int .i64 1)) fun x23 =>
            j1 x23
          )
        )
      ) (
        j0
      )
    ) (.int .i64 0)
  )
instance fnb18 : FnB Tryz.prog 18 := ⟨Tryz.call18⟩
theorem e18 : p18 Tryz.prog = fun K x0 x1 => denF Tryz.prog Tryz.f18 [x0, x1] K := by kernel_rfl
theorem c18 {K : Value → World → Prop} {x0 x1 : Value} {w : World} (h : p18 Tryz.prog K x0 x1 w) : CallsR Tryz.prog 18 #[x0, x1] K w := by
  rw [e18] at h
  exact denF_sound mixed Tryz.func18 h

-- gemel/gemelref12.Same
def p21 (P : Program) (K : Value → World → Prop) (x0 : Value) (x1 : Value) : World → Prop :=
  opS P (S.box 37 x0) fun x2 =>
  opS P (S.box 37 x1) fun x3 =>
  opS P (S.fa 37 x2 3) fun x4 =>
  opS P (S.ld 35 x4) fun x5 =>
  opS P (S.fa 37 x3 3) fun x6 =>
  opS P (S.ld 35 x6) fun x7 =>
  opS P (S.cl 18 [x5, x7]) fun x8 =>
  opS P (S.fa 37 x2 0) fun x9 =>
  opS P (S.ld 3 x9) fun x10 =>
  opS P (S.fa 37 x3 0) fun x11 =>
  opS P (S.ld 3 x11) fun x12 =>
  opS P (S.binI .eql x10 x12) fun x13 =>
  brn x13 (
    opS P (S.fa 37 x2 1) fun x14 =>
    opS P (S.ld 3 x14) fun x15 =>
    opS P (S.fa 37 x3 1) fun x16 =>
    opS P (S.ld 3 x16) fun x17 =>
    opS P (S.binI .eql x15 x17) fun x18 =>
    brn x18 (
      opS P (S.fa 37 x2 2) fun x19 =>
      opS P (S.ld 3 x19) fun x20 =>
      opS P (S.fa 37 x3 2) fun x21 =>
      opS P (S.ld 3 x21) fun x22 =>
      opS P (S.binI .eql x20 x22) fun x23 =>
      brn x23 (
        K x8
      ) (
        K (.bool false)
      )
    ) (
      K (.bool false)
    )
  ) (
    K (.bool false)
  )
instance fnb21 : FnB Tryz.prog 21 := ⟨Tryz.call21⟩
theorem e21 : p21 Tryz.prog = fun K x0 x1 => denF Tryz.prog Tryz.f21 [x0, x1] K := by kernel_rfl
theorem c21 {K : Value → World → Prop} {x0 x1 : Value} {w : World} (h : p21 Tryz.prog K x0 x1 w) : CallsR Tryz.prog 21 #[x0, x1] K w := by
  rw [e21] at h
  exact denF_sound mixed Tryz.func21 h

-- gemel/flow.New
def p25 (P : Program) (K : Value → World → Prop) (x0 : Value) (x1 : Value) : World → Prop :=
  opS P (S.binI .lss x0 (.int .i64 1)) fun x2 =>
  brn x2 (
    K (.tuple #[(.pointer none), (.int .i64 1)])
  ) (
    opS P (S.binI .gtr x0 (.int .i64 63)) fun x3 =>
    brn x3 (
      K (.tuple #[(.pointer none), (.int .i64 1)])
    ) (
      opS P (S.binI .add x0 (.int .i64 1)) fun x4 =>
      opS P (S.cl 50 [x4]) fun x5 =>
      opS P (S.ext x5 0) fun x6 =>
      opS P (S.ext x5 1) fun x7 =>
      opS P (S.cl 51 [x1]) fun x8 =>
      opS P (S.ext x8 0) fun x9 =>
      opS P (S.ext x8 1) fun x10 =>
      opS P (S.binI .neq x10 (.int .i64 0)) fun x11 =>
      brn x11 (
        K (.tuple #[(.pointer none), x10])
      ) (
        opS P (S.binI .add x0 (.int .i64 1)) fun x12 =>
        opS P (S.mks 70 x12 x12) fun x13 =>
        opS P (S.build 83 [(0, x6), (1, x9), (2, x13)]) fun x14 =>
        opS P (S.box 83 x14) fun x15 =>
        K (.tuple #[x15, (.int .i64 0)])
      )
    )
  )
instance fnb25 : FnB Tryz.prog 25 := ⟨Tryz.call25⟩
theorem e25 : p25 Tryz.prog = fun K x0 x1 => denF Tryz.prog Tryz.f25 [x0, x1] K := by kernel_rfl
theorem c25 {K : Value → World → Prop} {x0 x1 : Value} {w : World} (h : p25 Tryz.prog K x0 x1 w) : CallsR Tryz.prog 25 #[x0, x1] K w := by
  rw [e25] at h
  exact denF_sound mixed Tryz.func25 h

-- gemel/gemelref12.New
def p26 (P : Program) (K : Value → World → Prop) (x0 : Value) (x1 : Value) : World → Prop :=
  opS P (S.cl 52 [x1]) fun x2 =>
  opS P (S.ext x2 0) fun x3 =>
  opS P (S.ext x2 1) fun x4 =>
  opS P (S.binI .lss x0 (.int .i64 1)) fun x5 =>
  brn x5 (
    K (.tuple #[(.pointer none), (.int .i64 1)])
  ) (
    opS P (S.binI .gtr x0 (.int .i64 63)) fun x6 =>
    brn x6 (
      K (.tuple #[(.pointer none), (.int .i64 1)])
    ) (
      opS P (S.binI .neq x4 (.int .i64 0)) fun x7 =>
      brn x7 (
        K (.tuple #[(.pointer none), (.int .i64 1)])
      ) (
        opS P (S.binI .add x0 (.int .i64 1)) fun x8 =>
        opS P (S.cl 53 [x8]) fun x9 =>
        opS P (S.ext x9 0) fun x10 =>
        opS P (S.ext x9 1) fun x11 =>
        opS P (S.binI .add x0 (.int .i64 1)) fun x12 =>
        opS P (S.mks 70 x12 x12) fun x13 =>
        opS P (S.build 113 [(0, x0), (1, x10), (2, x3), (3, x13)]) fun x14 =>
        opS P (S.box 113 x14) fun x15 =>
        K (.tuple #[x15, (.int .i64 0)])
      )
    )
  )
instance fnb26 : FnB Tryz.prog 26 := ⟨Tryz.call26⟩
theorem e26 : p26 Tryz.prog = fun K x0 x1 => denF Tryz.prog Tryz.f26 [x0, x1] K := by kernel_rfl
theorem c26 {K : Value → World → Prop} {x0 x1 : Value} {w : World} (h : p26 Tryz.prog K x0 x1 w) : CallsR Tryz.prog 26 #[x0, x1] K w := by
  rw [e26] at h
  exact denF_sound mixed Tryz.func26 h

-- (*gemel/gemelref12.Bridge).Take
def p54 (P : Program) (K : Value → World → Prop) (x0 : Value) (x1 : Value) (x2 : Value) (x3 : Value) : World → Prop :=
  opS P (S.box 27 x2) fun x4 =>
  opS P (S.alloc 37) fun x5 =>
  opS P (S.ld 27 x4) fun x6 =>
  opS P (S.cl 83 [x0, x1, x6, x3]) fun x7 =>
  opS P (S.alloc 37) fun x8 =>
  opS P (S.st 37 x8 x7) fun x9 =>
  drw <|
  opS P (S.fa 37 x8 0) fun x10 =>
  opS P (S.ld 3 x10) fun x11 =>
  opS P (S.nc x0) fun x12 =>
  opS P (S.fa 113 x12 4) fun x13 =>
  opS P (S.ia 55 x13 x11) fun x14 =>
  opS P (S.ld 3 x14) fun x15 =>
  opS P (S.binI .add x15 (.int .i64 1)) fun x16 =>
  opS P (S.nc x0) fun x17 =>
  opS P (S.fa 113 x17 4) fun x18 =>
  opS P (S.ia 55 x18 x11) fun x19 =>
  opS P (S.st 3 x19 x16) fun x20 =>
  opS P (S.ld 37 x8) fun x21 =>
  opS P (S.st 37 x5 x21) fun x22 =>
  opS P (S.ld 37 x5) fun x23 =>
  K x23
instance fnb54 : FnB Tryz.prog 54 := ⟨Tryz.call54⟩
theorem e54 : p54 Tryz.prog = fun K x0 x1 x2 x3 => denF Tryz.prog Tryz.f54 [x0, x1, x2, x3] K := by kernel_rfl
theorem c54 {K : Value → World → Prop} {x0 x1 x2 x3 : Value} {w : World} (h : p54 Tryz.prog K x0 x1 x2 x3 w) : CallsR Tryz.prog 54 #[x0, x1, x2, x3] K w := by
  rw [e54] at h
  exact denF_sound mixed Tryz.func54 h

end Go.Gx.S
-- 54 25 26 18 21
end

section
/- What the functions of this program ask. -/
set_option linter.unusedVariables false
set_option maxRecDepth 100000
namespace Go.Gx.S
open Go Go.Gx Go.Proofs
-- (*gemel/gemelref12.Bridge).way
def p83 (P : Program) (K : Value → World → Prop) (x0 : Value) (x1 : Value) (x2 : Value) (x3 : Value) : World → Prop :=
  opS P (S.box 27 x2) fun x4 =>
  opS P (S.alloc 37) fun x5 =>
  opS P (S.ld 27 x4) fun x6 =>
  opS P (S.cl 113 [x6]) fun x7 =>
  opS P (S.cl 84 [x0, x1]) fun x8 =>
  opS P (S.un .not x7) fun x9 =>
  brn x9 (
    opS P (S.build 37 [(0, (.int .i64 1))]) fun x10 =>
    opS P (S.st 37 x5 x10) fun x11 =>
    opS P (S.ld 37 x5) fun x12 =>
    K x12
  ) (
    opS P (S.un .not x8) fun x10 =>
    brn x10 (
      opS P (S.build 37 [(0, (.int .i64 1))]) fun x11 =>
      opS P (S.st 37 x5 x11) fun x12 =>
      opS P (S.ld 37 x5) fun x13 =>
      K x13
    ) (
      opS P (S.binI .lss x3 (.int .i64 0)) fun x11 =>
      brn x11 (
        opS P (S.build 37 [(0, (.int .i64 1))]) fun x12 =>
        opS P (S.st 37 x5 x12) fun x13 =>
        opS P (S.ld 37 x5) fun x14 =>
        K x14
      ) (
        opS P (S.binI .gtr x3 (.int .i64 1099511627776)) fun x12 =>
        brn x12 (
          opS P (S.build 37 [(0, (.int .i64 1))]) fun x13 =>
          opS P (S.st 37 x5 x13) fun x14 =>
          opS P (S.ld 37 x5) fun x15 =>
          K x15
        ) (
          opS P (S.fa 27 x4 0) fun x13 =>
          opS P (S.ld 24 x13) fun x14 =>
          opS P (S.cl 114 [x14]) fun x15 =>
          brn x15 (
            opS P (S.build 37 [(0, (.int .i64 2))]) fun x16 =>
            opS P (S.st 37 x5 x16) fun x17 =>
            opS P (S.ld 37 x5) fun x18 =>
            K x18
          ) (
            opS P (S.nc x0) fun x16 =>
            opS P (S.fa 113 x16 3) fun x17 =>
            opS P (S.ld 70 x17) fun x18 =>
            opS P (S.ia 70 x18 x1) fun x19 =>
            opS P (S.ld 3 x19) fun x20 =>
            opS P (S.binI .eql x20 (.int .i64 0)) fun x21 =>
            brn x21 (
              opS P (S.build 37 [(0, (.int .i64 3))]) fun x22 =>
              opS P (S.st 37 x5 x22) fun x23 =>
              opS P (S.ld 37 x5) fun x24 =>
              K x24
            ) (
              drw <|
              opS P (S.nc x0) fun x22 =>
              opS P (S.fa 113 x22 1) fun x23 =>
              opS P (S.ld 109 x23) fun x24 =>
              opS P (S.ld 27 x4) fun x25 =>
              opS P (S.cl 115 [x24, x1, x25]) fun x26 =>
              opS P (S.ext x26 0) fun x27 =>
              opS P (S.ext x26 1) fun x28 =>
              opS P (S.binI .neq x28 (.int .i64 0)) fun x29 =>
              brn x29 (
                opS P (S.build 37 [(0, (.int .i64 4))]) fun x30 =>
                opS P (S.st 37 x5 x30) fun x31 =>
                opS P (S.ld 37 x5) fun x32 =>
                K x32
              ) (
                opS P (S.fa 27 x4 1) fun x30 =>
                opS P (S.ld 24 x30) fun x31 =>
                opS P (S.cl 16 [x31]) fun x32 =>
                brn x32 (
                  opS P (S.build 37 [(0, (.int .i64 5)), (1, x27)]) fun x33 =>
                  opS P (S.st 37 x5 x33) fun x34 =>
                  opS P (S.ld 37 x5) fun x35 =>
                  K x35
                ) (
                  opS P (S.fa 27 x4 1) fun x33 =>
                  opS P (S.ld 24 x33) fun x34 =>
                  opS P (S.cl 116 [x0, x27, x34, x1, x3]) fun x35 =>
                  opS P (S.nc x0) fun x36 =>
                  opS P (S.fa 113 x36 3) fun x37 =>
                  opS P (S.ld 70 x37) fun x38 =>
                  opS P (S.ia 70 x38 x1) fun x39 =>
                  opS P (S.ld 3 x39) fun x40 =>
                  opS P (S.binI .eql x40 (.int .i64 1)) fun x41 =>
                  brn x41 (
                    opS P (S.build 37 [(0, (.int .i64 6)), (1, x27)]) fun x42 =>
                    opS P (S.st 37 x5 x42) fun x43 =>
                    opS P (S.ld 37 x5) fun x44 =>
                    K x44
                  ) (
                    jnJ 2 (fun x42 x43 =>
                      jnJ 1 (fun x44 =>
                        jnJ 1 (fun x45 =>
                          opS P (S.len x45) fun x46 =>
                          opS P (S.binI .eql x46 (.int .i64 0)) fun x47 =>
                          brn x47 (
                            opS P (S.build 37 [(0, (.int .i64 8)), (1, x27), (2, x44)]) fun x48 =>
                            opS P (S.st 37 x5 x48) fun x49 =>
                            opS P (S.ld 37 x5) fun x50 =>
                            K x50
                          ) (
                            opS P (S.build 37 [(1, x27), (2, x44), (3, x45)]) fun x48 =>
                            opS P (S.st 37 x5 x48) fun x49 =>
                            opS P (S.ld 37 x5) fun x50 =>
                            K x50
                          )
                        ) fun j0 =>
                        jnJ 0 (
                          opS P (S.ld 27 x4) fun x45 =>
                          opS P (S.cl 66 [x0, x27, x1, x44, x45]) fun x46 =>
                          j0 x46
                        ) fun j1 =>
                        opS P (S.un .not x43) fun x45 =>
                        brn x45 (
                          j1
                        ) (
                          opS P (S.binI .gtr x44 (.int .i64 0)) fun x46 =>
                          brn x46 (
                            j1
                          ) (
                            j0 (.slice none 0 0)
                          )
                        )
                      ) fun j0 =>
                      jnJ 0 (
                        j0 (.int .i64 0)
                      ) fun j1 =>
                      brn x43 (
                        opS P (S.fa 27 x4 0) fun x44 =>
                        opS P (S.ld 24 x44) fun x45 =>
                        opS P (S.cl 16 [x45]) fun x46 =>
                        opS P (S.un .not x46) fun x47 =>
                        brn x47 (
                          opS P (S.fa 40 x42 2) fun x48 =>
                          opS P (S.ld 3 x48) fun x49 =>
                          opS P (S.binI .eql x49 x1) fun x50 =>
                          brn x50 (
                            opS P (S.build 37 [(0, (.int .i64 7)), (1, x27)]) fun x51 =>
                            opS P (S.st 37 x5 x51) fun x52 =>
                            opS P (S.ld 37 x5) fun x53 =>
                            K x53
                          ) (
                            opS P (S.fa 40 x42 2) fun x51 =>
                            opS P (S.ld 3 x51) fun x52 =>
                            j0 x52
                          )
                        ) (
                          j1
                        )
                      ) (
                        j1
                      )
                    ) fun j0 =>
                    drw <|
                    opS P (S.nc x0) fun x42 =>
                    opS P (S.fa 113 x42 2) fun x43 =>
                    opS P (S.fa 27 x4 0) fun x44 =>
                    allW (
                      opS P (S.ld 106 x43) fun x45 =>
                      allW (
                        opS P (S.ld 24 x44) fun x46 =>
                        allW (
                          opS P (S.cl 117 [x45, x27, x46]) fun x47 =>
                          opS P (S.ext x47 0) fun x48 =>
                          opS P (S.ext x47 1) fun x49 =>
                          opS P (S.alloc 40) fun x50 =>
                          opS P (S.st 40 x50 x48) fun x51 =>
                          j0 x50 x49
                        ) (
                          opS P (S.alloc 40) fun x47 =>
                          opS P (S.cl 117 [x45, x27, x46]) fun x48 =>
                          opS P (S.ext x48 0) fun x49 =>
                          opS P (S.ext x48 1) fun x50 =>
                          opS P (S.st 40 x47 x49) fun x51 =>
                          j0 x47 x50
                        )
                      ) (
                        opS P (S.alloc 40) fun x46 =>
                        opS P (S.ld 24 x44) fun x47 =>
                        opS P (S.cl 117 [x45, x27, x47]) fun x48 =>
                        opS P (S.ext x48 0) fun x49 =>
                        opS P (S.ext x48 1) fun x50 =>
                        opS P (S.st 40 x46 x49) fun x51 =>
                        j0 x46 x50
                      )
                    ) (
                      allW (
                        opS P (S.ld 24 x44) fun x45 =>
                        allW (
                          opS P (S.ld 106 x43) fun x46 =>
                          allW (
                            opS P (S.cl 117 [x46, x27, x45]) fun x47 =>
                            opS P (S.ext x47 0) fun x48 =>
                            opS P (S.ext x47 1) fun x49 =>
                            opS P (S.alloc 40) fun x50 =>
                            opS P (S.st 40 x50 x48) fun x51 =>
                            j0 x50 x49
                          ) (
                            opS P (S.alloc 40) fun x47 =>
                            opS P (S.cl 117 [x46, x27, x45]) fun x48 =>
                            opS P (S.ext x48 0) fun x49 =>
                            opS P (S.ext x48 1) fun x50 =>
                            opS P (S.st 40 x47 x49) fun x51 =>
                            j0 x47 x50
                          )
                        ) (
                          opS P (S.alloc 40) fun x46 =>
                          opS P (S.ld 106 x43) fun x47 =>
                          opS P (S.cl 117 [x47, x27, x45]) fun x48 =>
                          opS P (S.ext x48 0) fun x49 =>
                          opS P (S.ext x48 1) fun x50 =>
                          opS P (S.st 40 x46 x49) fun x51 =>
                          j0 x46 x50
                        )
                      ) (
                        opS P (S.alloc 40) fun x45 =>
                        opS P (S.ld 106 x43) fun x46 =>
                        opS P (S.ld 24 x44) fun x47 =>
                        opS P (S.cl 117 [x46, x27, x47]) fun x48 =>
                        opS P (S.ext x48 0) fun x49 =>
                        opS P (S.ext x48 1) fun x50 =>
                        opS P (S.st 40 x45 x49) fun x51 =>
                        j0 x45 x50
                      )
                    )
                  )
                )
              )
            )
          )
        )
      )
    )
  )
instance fnb83 : FnB Tryz.prog 83 := ⟨Tryz.call83⟩
theorem e83 : p83 Tryz.prog = fun K x0 x1 x2 x3 => denF Tryz.prog Tryz.f83 [x0, x1, x2, x3] K := by kernel_rfl
theorem c83 {K : Value → World → Prop} {x0 x1 x2 x3 : Value} {w : World} (h : p83 Tryz.prog K x0 x1 x2 x3 w) : CallsR Tryz.prog 83 #[x0, x1, x2, x3] K w := by
  rw [e83] at h
  exact denF_sound mixed Tryz.func83 h

end Go.Gx.S
-- 83
end

section
/- What the functions of this program ask. -/
set_option linter.unusedVariables false
set_option maxRecDepth 100000
namespace Go.Gx.S
open Go Go.Gx Go.Proofs
-- (*gemel/gemelref12.Bridge).Relay
def p66 (P : Program) (K : Value → World → Prop) (x0 : Value) (x1 : Value) (x2 : Value) (x3 : Value) (x4 : Value) : World → Prop :=
  opS P (S.box 27 x4) fun x5 =>
  jnJ 1 (fun x6 =>
    K x6
  ) fun j0 =>
  loopJ 2 (fun j1 x6 x7 =>
    opS P (S.nc x0) fun x8 =>
    opS P (S.fa 113 x8 0) fun x9 =>
    opS P (S.ld 3 x9) fun x10 =>
    opS P (S.binI .leq x7 x10) fun x11 =>
    brn x11 (
      jnJ 0 (
        jnJ 2 (fun x12 x13 =>
          opS P (S.binI .eql x13 (.int .i64 0)) fun x14 =>
          brn x14 (
            opS P (S.ld 27 x12) fun x15 =>
            opS P (S.build 49 [(0, x7), (1, x15)]) fun x16 =>
            opS P (S.buildS 35 1 [(0, x16)]) fun x17 =>
            opS P (S.bi .append #[35, 35] 35 [x6, x17]) fun x18 =>
            opS P (S.binI .add x7 (.int .i64 1)) fun x19 =>
            j1 x18 x19
          ) (
            opS P (S.binI .add x7 (.int .i64 1)) fun x15 =>
            j1 x6 x15
          )
        ) fun j2 =>
        drw <|
        opS P (S.nc x0) fun x12 =>
        opS P (S.fa 113 x12 1) fun x13 =>
        allW (
          opS P (S.ld 109 x13) fun x14 =>
          allW (
            opS P (S.ld 27 x5) fun x15 =>
            allW (
              opS P (S.cl 98 [x14, x1, x7, x15]) fun x16 =>
              opS P (S.ext x16 0) fun x17 =>
              opS P (S.ext x16 1) fun x18 =>
              opS P (S.alloc 27) fun x19 =>
              opS P (S.st 27 x19 x17) fun x20 =>
              j2 x19 x18
            ) (
              opS P (S.alloc 27) fun x16 =>
              opS P (S.cl 98 [x14, x1, x7, x15]) fun x17 =>
              opS P (S.ext x17 0) fun x18 =>
              opS P (S.ext x17 1) fun x19 =>
              opS P (S.st 27 x16 x18) fun x20 =>
              j2 x16 x19
            )
          ) (
            opS P (S.alloc 27) fun x15 =>
            opS P (S.ld 27 x5) fun x16 =>
            opS P (S.cl 98 [x14, x1, x7, x16]) fun x17 =>
            opS P (S.ext x17 0) fun x18 =>
            opS P (S.ext x17 1) fun x19 =>
            opS P (S.st 27 x15 x18) fun x20 =>
            j2 x15 x19
          )
        ) (
          allW (
            opS P (S.ld 27 x5) fun x14 =>
            allW (
              opS P (S.ld 109 x13) fun x15 =>
              allW (
                opS P (S.cl 98 [x15, x1, x7, x14]) fun x16 =>
                opS P (S.ext x16 0) fun x17 =>
                opS P (S.ext x16 1) fun x18 =>
                opS P (S.alloc 27) fun x19 =>
                opS P (S.st 27 x19 x17) fun x20 =>
                j2 x19 x18
              ) (
                opS P (S.alloc 27) fun x16 =>
                opS P (S.cl 98 [x15, x1, x7, x14]) fun x17 =>
                opS P (S.ext x17 0) fun x18 =>
                opS P (S.ext x17 1) fun x19 =>
                opS P (S.st 27 x16 x18) fun x20 =>
                j2 x16 x19
              )
            ) (
              opS P (S.alloc 27) fun x15 =>
              opS P (S.ld 109 x13) fun x16 =>
              opS P (S.cl 98 [x16, x1, x7, x14]) fun x17 =>
              opS P (S.ext x17 0) fun x18 =>
              opS P (S.ext x17 1) fun x19 =>
              opS P (S.st 27 x15 x18) fun x20 =>
              j2 x15 x19
            )
          ) (
            opS P (S.alloc 27) fun x14 =>
            opS P (S.ld 109 x13) fun x15 =>
            opS P (S.ld 27 x5) fun x16 =>
            opS P (S.cl 98 [x15, x1, x7, x16]) fun x17 =>
            opS P (S.ext x17 0) fun x18 =>
            opS P (S.ext x17 1) fun x19 =>
            opS P (S.st 27 x14 x18) fun x20 =>
            j2 x14 x19
          )
        )
      ) fun j2 =>
      opS P (S.binI .eql x7 x2) fun x12 =>
      brn x12 (
        opS P (S.binI .add x7 (.int .i64 1)) fun x13 =>
        j1 x6 x13
      ) (
        opS P (S.binI .neq x3 (.int .i64 0)) fun x13 =>
        brn x13 (
          opS P (S.binI .neq x7 x3) fun x14 =>
          brn x14 (
            opS P (S.binI .add x7 (.int .i64 1)) fun x15 =>
            j1 x6 x15
          ) (
            opS P (S.nc x0) fun x15 =>
            opS P (S.fa 113 x15 3) fun x16 =>
            opS P (S.ld 70 x16) fun x17 =>
            opS P (S.ia 70 x17 x7) fun x18 =>
            opS P (S.ld 3 x18) fun x19 =>
            opS P (S.binI .neq x19 (.int .i64 2)) fun x20 =>
            brn x20 (
              opS P (S.binI .add x7 (.int .i64 1)) fun x21 =>
              j1 x6 x21
            ) (
              j2
            )
          )
        ) (
          opS P (S.nc x0) fun x14 =>
          opS P (S.fa 113 x14 3) fun x15 =>
          opS P (S.ld 70 x15) fun x16 =>
          opS P (S.ia 70 x16 x7) fun x17 =>
          opS P (S.ld 3 x17) fun x18 =>
          opS P (S.binI .neq x18 (.int .i64 2)) fun x19 =>
          brn x19 (
            opS P (S.binI .add x7 (.int .i64 1)) fun x20 =>
            j1 x6 x20
          ) (
            j2
          )
        )
      )
    ) (
      j0 x6
    )
  ) (.slice none 0 0) (.int .i64 1)
instance fnb66 : FnB Tryz.prog 66 := ⟨Tryz.call66⟩
theorem e66 : p66 Tryz.prog = fun K x0 x1 x2 x3 x4 => denF Tryz.prog Tryz.f66 [x0, x1, x2, x3, x4] K := by kernel_rfl
theorem c66 {K : Value → World → Prop} {x0 x1 x2 x3 x4 : Value} {w : World} (h : p66 Tryz.prog K x0 x1 x2 x3 x4 w) : CallsR Tryz.prog 66 #[x0, x1, x2, x3, x4] K w := by
  rw [e66] at h
  exact denF_sound mixed Tryz.func66 h

end Go.Gx.S
-- 66
end

section
/- What the functions of this program ask. -/
set_option linter.unusedVariables false
set_option maxRecDepth 100000
namespace Go.Gx.S
open Go Go.Gx Go.Proofs
-- (*gemel/gemelref12.Bridge).Set
def p55 (P : Program) (K : Value → World → Prop) (x0 : Value) (x1 : Value) (x2 : Value) : World → Prop :=
  opS P (S.cl 84 [x0, x1]) fun x3 =>
  opS P (S.un .not x3) fun x4 =>
  brn x4 (
    K (.int .i64 1)
  ) (
    opS P (S.binI .lss x2 (.int .i64 0)) fun x5 =>
    brn x5 (
      K (.int .i64 1)
    ) (
      opS P (S.binI .gtr x2 (.int .i64 2)) fun x6 =>
      brn x6 (
        K (.int .i64 1)
      ) (
        opS P (S.nc x0) fun x7 =>
        opS P (S.fa 113 x7 3) fun x8 =>
        opS P (S.ld 70 x8) fun x9 =>
        opS P (S.ia 70 x9 x1) fun x10 =>
        opS P (S.st 3 x10 x2) fun x11 =>
        K (.int .i64 0)
      )
    )
  )
instance fnb55 : FnB Tryz.prog 55 := ⟨Tryz.call55⟩
theorem e55 : p55 Tryz.prog = fun K x0 x1 x2 => denF Tryz.prog Tryz.f55 [x0, x1, x2] K := by kernel_rfl
theorem c55 {K : Value → World → Prop} {x0 x1 x2 : Value} {w : World} (h : p55 Tryz.prog K x0 x1 x2 w) : CallsR Tryz.prog 55 #[x0, x1, x2] K w := by
  rw [e55] at h
  exact denF_sound mixed Tryz.func55 h

-- (*gemel/gemelref12.Bridge).State
def p67 (P : Program) (K : Value → World → Prop) (x0 : Value) (x1 : Value) : World → Prop :=
  opS P (S.cl 84 [x0, x1]) fun x2 =>
  opS P (S.un .not x2) fun x3 =>
  brn x3 (
    K (.int .i64 0)
  ) (
    opS P (S.nc x0) fun x4 =>
    opS P (S.fa 113 x4 3) fun x5 =>
    opS P (S.ld 70 x5) fun x6 =>
    opS P (S.ia 70 x6 x1) fun x7 =>
    opS P (S.ld 3 x7) fun x8 =>
    K x8
  )
instance fnb67 : FnB Tryz.prog 67 := ⟨Tryz.call67⟩
theorem e67 : p67 Tryz.prog = fun K x0 x1 => denF Tryz.prog Tryz.f67 [x0, x1] K := by kernel_rfl
theorem c67 {K : Value → World → Prop} {x0 x1 : Value} {w : World} (h : p67 Tryz.prog K x0 x1 w) : CallsR Tryz.prog 67 #[x0, x1] K w := by
  rw [e67] at h
  exact denF_sound mixed Tryz.func67 h

-- (*gemel/gemelref12.Bridge).has
def p84 (P : Program) (K : Value → World → Prop) (x0 : Value) (x1 : Value) : World → Prop :=
  opS P (S.binI .geq x1 (.int .i64 1)) fun x2 =>
  brn x2 (
    opS P (S.nc x0) fun x3 =>
    opS P (S.fa 113 x3 0) fun x4 =>
    opS P (S.ld 3 x4) fun x5 =>
    opS P (S.binI .leq x1 x5) fun x6 =>
    K x6
  ) (
    K (.bool false)
  )
instance fnb84 : FnB Tryz.prog 84 := ⟨Tryz.call84⟩
theorem e84 : p84 Tryz.prog = fun K x0 x1 => denF Tryz.prog Tryz.f84 [x0, x1] K := by kernel_rfl
theorem c84 {K : Value → World → Prop} {x0 x1 : Value} {w : World} (h : p84 Tryz.prog K x0 x1 w) : CallsR Tryz.prog 84 #[x0, x1] K w := by
  rw [e84] at h
  exact denF_sound mixed Tryz.func84 h

-- gemel/gemelref01.Reserved
def p114 (P : Program) (K : Value → World → Prop) (x0 : Value) : World → Prop :=
  opS P (S.box 24 x0) fun x1 =>
  opS P (S.ld 24 x1) fun x2 =>
  opS P (S.cl 128 [x2]) fun x3 =>
  opS P (S.binI .quo x3 (.int .u64 16)) fun x4 =>
  opS P (S.binI .eql x4 (.int .u64 103282638848)) fun x5 =>
  K x5
instance fnb114 : FnB Tryz.prog 114 := ⟨Tryz.call114⟩
theorem e114 : p114 Tryz.prog = fun K x0 => denF Tryz.prog Tryz.f114 [x0] K := by kernel_rfl
theorem c114 {K : Value → World → Prop} {x0 : Value} {w : World} (h : p114 Tryz.prog K x0 w) : CallsR Tryz.prog 114 #[x0] K w := by
  rw [e114] at h
  exact denF_sound mixed Tryz.func114 h

-- (*gemel/gemelref12.Bridge).learn
def p116 (P : Program) (K : Value → World → Prop) (x0 : Value) (x1 : Value) (x2 : Value) (x3 : Value) (x4 : Value) : World → Prop :=
  opS P (S.box 24 x2) fun x5 =>
  drw <|
  opS P (S.nc x0) fun x6 =>
  opS P (S.fa 113 x6 2) fun x7 =>
  opS P (S.ld 106 x7) fun x8 =>
  opS P (S.ld 24 x5) fun x9 =>
  opS P (S.cl 129 [x8, x1, x9, x3, x4]) fun x10 =>
  opS P (S.ext x10 0) fun x11 =>
  opS P (S.ext x10 1) fun x12 =>
  opS P (S.binI .neq x12 (.int .i64 0)) fun x13 =>
  brn x13 (
    drw <|
    opS P (S.nc x0) fun x14 =>
    opS P (S.fa 113 x14 5) fun x15 =>
    opS P (S.ia 81 x15 (.int .i64 2)) fun x16 =>
    opS P (S.ld 3 x16) fun x17 =>
    opS P (S.binI .add x17 (.int .i64 1)) fun x18 =>
    opS P (S.nc x0) fun x19 =>
    opS P (S.fa 113 x19 5) fun x20 =>
    opS P (S.ia 81 x20 (.int .i64 2)) fun x21 =>
    opS P (S.st 3 x21 x18) fun x22 =>
    K (.tuple #[])
  ) (
    opS P (S.binI .gtr x11 (.int .i64 0)) fun x14 =>
    brn x14 (
      drw <|
      opS P (S.binI .sub x11 (.int .i64 1)) fun x15 =>
      opS P (S.nc x0) fun x16 =>
      opS P (S.fa 113 x16 5) fun x17 =>
      opS P (S.ia 81 x17 x15) fun x18 =>
      opS P (S.ld 3 x18) fun x19 =>
      opS P (S.binI .add x19 (.int .i64 1)) fun x20 =>
      opS P (S.nc x0) fun x21 =>
      opS P (S.fa 113 x21 5) fun x22 =>
      opS P (S.ia 81 x22 x15) fun x23 =>
      opS P (S.st 3 x23 x20) fun x24 =>
      K (.tuple #[])
    ) (
      K (.tuple #[])
    )
  )
instance fnb116 : FnB Tryz.prog 116 := ⟨Tryz.call116⟩
theorem e116 : p116 Tryz.prog = fun K x0 x1 x2 x3 x4 => denF Tryz.prog Tryz.f116 [x0, x1, x2, x3, x4] K := by kernel_rfl
theorem c116 {K : Value → World → Prop} {x0 x1 x2 x3 x4 : Value} {w : World} (h : p116 Tryz.prog K x0 x1 x2 x3 x4 w) : CallsR Tryz.prog 116 #[x0, x1, x2, x3, x4] K w := by
  rw [e116] at h
  exact denF_sound mixed Tryz.func116 h

end Go.Gx.S
-- 84 55 67 116 114
end

section
/- What the functions of this program ask. -/
set_option linter.unusedVariables false
set_option maxRecDepth 100000
namespace Go.Gx.S
open Go Go.Gx Go.Proofs
-- (*gemel/flow.Bridge).Take
def p13 (P : Program) (K : Value → World → Prop) (x0 : Value) (x1 : Value) (x2 : Value) (x3 : Value) : World → Prop :=
  opS P (S.box 27 x2) fun x4 =>
  opS P (S.alloc 37) fun x5 =>
  opS P (S.ld 27 x4) fun x6 =>
  opS P (S.cl 34 [x0, x1, x6, x3]) fun x7 =>
  opS P (S.ext x7 0) fun x8 =>
  opS P (S.ext x7 1) fun x9 =>
  opS P (S.build 37 [(0, x8), (1, x9)]) fun x10 =>
  opS P (S.alloc 37) fun x11 =>
  opS P (S.st 37 x11 x10) fun x12 =>
  jnJ 0 (
    drw <|
    opS P (S.fa 37 x11 0) fun x13 =>
    opS P (S.ld 3 x13) fun x14 =>
    opS P (S.nc x0) fun x15 =>
    opS P (S.fa 83 x15 3) fun x16 =>
    opS P (S.ia 55 x16 x14) fun x17 =>
    opS P (S.ld 3 x17) fun x18 =>
    opS P (S.binI .add x18 (.int .i64 1)) fun x19 =>
    opS P (S.nc x0) fun x20 =>
    opS P (S.fa 83 x20 3) fun x21 =>
    opS P (S.ia 55 x21 x14) fun x22 =>
    opS P (S.st 3 x22 x19) fun x23 =>
    opS P (S.ld 37 x11) fun x24 =>
    opS P (S.st 37 x5 x24) fun x25 =>
    opS P (S.ld 37 x5) fun x26 =>
    K x26
  ) fun j0 =>
  opS P (S.binI .eql x8 (.int .i64 0)) fun x13 =>
  brn x13 (
    opS P (S.fa 27 x4 1) fun x14 =>
    opS P (S.ld 24 x14) fun x15 =>
    opS P (S.cl 35 [x0, x9, x15, x1, x3]) fun x16 =>
    opS P (S.ld 27 x4) fun x17 =>
    opS P (S.cl 36 [x0, x9, x1, x17]) fun x18 =>
    opS P (S.st 37 x11 x18) fun x19 =>
    j0
  ) (
    j0
  )
instance fnb13 : FnB Tryz.prog 13 := ⟨Tryz.call13⟩
theorem e13 : p13 Tryz.prog = fun K x0 x1 x2 x3 => denF Tryz.prog Tryz.f13 [x0, x1, x2, x3] K := by kernel_rfl
theorem c13 {K : Value → World → Prop} {x0 x1 x2 x3 : Value} {w : World} (h : p13 Tryz.prog K x0 x1 x2 x3 w) : CallsR Tryz.prog 13 #[x0, x1, x2, x3] K w := by
  rw [e13] at h
  exact denF_sound mixed Tryz.func13 h

-- (*gemel/flow.Bridge).Counts
def p22 (P : Program) (K : Value → World → Prop) (x0 : Value) : World → Prop :=
  opS P (S.alloc 55) fun x1 =>
  opS P (S.nc x0) fun x2 =>
  opS P (S.fa 83 x2 3) fun x3 =>
  opS P (S.ld 55 x3) fun x4 =>
  opS P (S.st 55 x1 x4) fun x5 =>
  opS P (S.ld 55 x1) fun x6 =>
  K x6
instance fnb22 : FnB Tryz.prog 22 := ⟨Tryz.call22⟩
theorem e22 : p22 Tryz.prog = fun K x0 => denF Tryz.prog Tryz.f22 [x0] K := by kernel_rfl
theorem c22 {K : Value → World → Prop} {x0 : Value} {w : World} (h : p22 Tryz.prog K x0 w) : CallsR Tryz.prog 22 #[x0] K w := by
  rw [e22] at h
  exact denF_sound mixed Tryz.func22 h

-- (*gemel/flow.Bridge).sent
def p36 (P : Program) (K : Value → World → Prop) (x0 : Value) (x1 : Value) (x2 : Value) (x3 : Value) : World → Prop :=
  opS P (S.box 27 x3) fun x4 =>
  opS P (S.alloc 37) fun x5 =>
  opS P (S.build 37 [(1, x1)]) fun x6 =>
  opS P (S.alloc 37) fun x7 =>
  opS P (S.st 37 x7 x6) fun x8 =>
  jnJ 2 (fun x9 x10 =>
    jnJ 0 (
      opS P (S.fa 37 x7 0) fun x11 =>
      opS P (S.ld 3 x11) fun x12 =>
      opS P (S.binI .eql x12 (.int .i64 0)) fun x13 =>
      brn x13 (
        opS P (S.fa 37 x7 3) fun x14 =>
        opS P (S.ld 35 x14) fun x15 =>
        opS P (S.len x15) fun x16 =>
        opS P (S.binI .eql x16 (.int .i64 0)) fun x17 =>
        brn x17 (
          opS P (S.fa 37 x7 0) fun x18 =>
          opS P (S.st 3 x18 (.int .i64 8)) fun x19 =>
          opS P (S.ld 37 x7) fun x20 =>
          opS P (S.st 37 x5 x20) fun x21 =>
          opS P (S.ld 37 x5) fun x22 =>
          K x22
        ) (
          opS P (S.ld 37 x7) fun x18 =>
          opS P (S.st 37 x5 x18) fun x19 =>
          opS P (S.ld 37 x5) fun x20 =>
          K x20
        )
      ) (
        opS P (S.ld 37 x7) fun x14 =>
        opS P (S.st 37 x5 x14) fun x15 =>
        opS P (S.ld 37 x5) fun x16 =>
        K x16
      )
    ) fun j0 =>
    opS P (S.nc x0) fun x11 =>
    opS P (S.fa 83 x11 2) fun x12 =>
    opS P (S.ld 70 x12) fun x13 =>
    opS P (S.ia 70 x13 x2) fun x14 =>
    opS P (S.ld 3 x14) fun x15 =>
    opS P (S.binI .eql x15 (.int .i64 1)) fun x16 =>
    brn x16 (
      opS P (S.fa 37 x7 0) fun x17 =>
      opS P (S.st 3 x17 (.int .i64 6)) fun x18 =>
      j0
    ) (
      jnJ 0 (
        j0
      ) fun j1 =>
      jnJ 0 (
        jnJ 0 (
          j1
        ) fun j2 =>
        brn x10 (
          opS P (S.fa 40 x9 2) fun x17 =>
          opS P (S.ld 3 x17) fun x18 =>
          opS P (S.fa 37 x7 2) fun x19 =>
          opS P (S.st 3 x19 x18) fun x20 =>
          jnJ 0 (
            j2
          ) fun j3 =>
          opS P (S.fa 37 x7 2) fun x21 =>
          opS P (S.ld 3 x21) fun x22 =>
          opS P (S.binI .gtr x22 (.int .i64 0)) fun x23 =>
          brn x23 (
            opS P (S.fa 37 x7 2) fun x24 =>
            opS P (S.ld 3 x24) fun x25 =>
            opS P (S.ld 27 x4) fun x26 =>
            opS P (S.cl 17 [x0, x1, x2, x25, x26]) fun x27 =>
            opS P (S.fa 37 x7 3) fun x28 =>
            opS P (S.st 35 x28 x27) fun x29 =>
            j3
          ) (
            j3
          )
        ) (
          opS P (S.ld 27 x4) fun x17 =>
          opS P (S.cl 17 [x0, x1, x2, (.int .i64 0), x17]) fun x18 =>
          opS P (S.fa 37 x7 3) fun x19 =>
          opS P (S.st 35 x19 x18) fun x20 =>
          j2
        )
      ) fun j2 =>
      brn x10 (
        opS P (S.fa 40 x9 2) fun x17 =>
        opS P (S.ld 3 x17) fun x18 =>
        opS P (S.binI .eql x18 x2) fun x19 =>
        brn x19 (
          opS P (S.fa 37 x7 0) fun x20 =>
          opS P (S.st 3 x20 (.int .i64 7)) fun x21 =>
          j1
        ) (
          j2
        )
      ) (
        j2
      )
    )
  ) fun j0 =>
  drw <|
  opS P (S.nc x0) fun x9 =>
  opS P (S.fa 83 x9 1) fun x10 =>
  opS P (S.fa 27 x4 0) fun x11 =>
  allW (
    opS P (S.ld 42 x10) fun x12 =>
    allW (
      opS P (S.ld 24 x11) fun x13 =>
      allW (
        opS P (S.cl 15 [x12, x1, x13]) fun x14 =>
        opS P (S.ext x14 0) fun x15 =>
        opS P (S.ext x14 1) fun x16 =>
        opS P (S.alloc 40) fun x17 =>
        opS P (S.st 40 x17 x15) fun x18 =>
        j0 x17 x16
      ) (
        opS P (S.alloc 40) fun x14 =>
        opS P (S.cl 15 [x12, x1, x13]) fun x15 =>
        opS P (S.ext x15 0) fun x16 =>
        opS P (S.ext x15 1) fun x17 =>
        opS P (S.st 40 x14 x16) fun x18 =>
        j0 x14 x17
      )
    ) (
      opS P (S.alloc 40) fun x13 =>
      opS P (S.ld 24 x11) fun x14 =>
      opS P (S.cl 15 [x12, x1, x14]) fun x15 =>
      opS P (S.ext x15 0) fun x16 =>
      opS P (S.ext x15 1) fun x17 =>
      opS P (S.st 40 x13 x16) fun x18 =>
      j0 x13 x17
    )
  ) (
    allW (
      opS P (S.ld 24 x11) fun x12 =>
      allW (
        opS P (S.ld 42 x10) fun x13 =>
        allW (
          opS P (S.cl 15 [x13, x1, x12]) fun x14 =>
          opS P (S.ext x14 0) fun x15 =>
          opS P (S.ext x14 1) fun x16 =>
          opS P (S.alloc 40) fun x17 =>
          opS P (S.st 40 x17 x15) fun x18 =>
          j0 x17 x16
        ) (
          opS P (S.alloc 40) fun x14 =>
          opS P (S.cl 15 [x13, x1, x12]) fun x15 =>
          opS P (S.ext x15 0) fun x16 =>
          opS P (S.ext x15 1) fun x17 =>
          opS P (S.st 40 x14 x16) fun x18 =>
          j0 x14 x17
        )
      ) (
        opS P (S.alloc 40) fun x13 =>
        opS P (S.ld 42 x10) fun x14 =>
        opS P (S.cl 15 [x14, x1, x12]) fun x15 =>
        opS P (S.ext x15 0) fun x16 =>
        opS P (S.ext x15 1) fun x17 =>
        opS P (S.st 40 x13 x16) fun x18 =>
        j0 x13 x17
      )
    ) (
      opS P (S.alloc 40) fun x12 =>
      opS P (S.ld 42 x10) fun x13 =>
      opS P (S.ld 24 x11) fun x14 =>
      opS P (S.cl 15 [x13, x1, x14]) fun x15 =>
      opS P (S.ext x15 0) fun x16 =>
      opS P (S.ext x15 1) fun x17 =>
      opS P (S.st 40 x12 x16) fun x18 =>
      j0 x12 x17
    )
  )
instance fnb36 : FnB Tryz.prog 36 := ⟨Tryz.call36⟩
theorem e36 : p36 Tryz.prog = fun K x0 x1 x2 x3 => denF Tryz.prog Tryz.f36 [x0, x1, x2, x3] K := by kernel_rfl
theorem c36 {K : Value → World → Prop} {x0 x1 x2 x3 : Value} {w : World} (h : p36 Tryz.prog K x0 x1 x2 x3 w) : CallsR Tryz.prog 36 #[x0, x1, x2, x3] K w := by
  rw [e36] at h
  exact denF_sound mixed Tryz.func36 h

-- (*gemel/flow.Bridge).Learned
def p68 (P : Program) (K : Value → World → Prop) (x0 : Value) : World → Prop :=
  opS P (S.alloc 81) fun x1 =>
  opS P (S.nc x0) fun x2 =>
  opS P (S.fa 83 x2 4) fun x3 =>
  opS P (S.ld 81 x3) fun x4 =>
  opS P (S.st 81 x1 x4) fun x5 =>
  opS P (S.ld 81 x1) fun x6 =>
  K x6
instance fnb68 : FnB Tryz.prog 68 := ⟨Tryz.call68⟩
theorem e68 : p68 Tryz.prog = fun K x0 => denF Tryz.prog Tryz.f68 [x0] K := by kernel_rfl
theorem c68 {K : Value → World → Prop} {x0 : Value} {w : World} (h : p68 Tryz.prog K x0 w) : CallsR Tryz.prog 68 #[x0] K w := by
  rw [e68] at h
  exact denF_sound mixed Tryz.func68 h

end Go.Gx.S
-- 36 13 22 68
end

section
/- What the functions of this program ask. -/
set_option linter.unusedVariables false
set_option maxRecDepth 100000
namespace Go.Gx.S
open Go Go.Gx Go.Proofs
-- (*gemel/flow.Bridge).Relay
def p17 (P : Program) (K : Value → World → Prop) (x0 : Value) (x1 : Value) (x2 : Value) (x3 : Value) (x4 : Value) : World → Prop :=
  opS P (S.box 3 x3) fun x5 =>
  opS P (S.box 27 x4) fun x6 =>
  opS P (S.alloc 35) fun x7 =>
  opS P (S.ld 27 x6) fun x8 =>
  opS P (S.cl 38 [x0, x1, x2, x8]) fun x9 =>
  rfS P x9 1 (fun bs K => JT.app 2 (fun x10 x11 =>
    opS P (S.alloc 49) fun x12 =>
    opS P (S.st 49 x12 x11) fun x13 =>
    opS P (S.beginR x10) fun x14 =>
    jnJ 0 (
      opS P (S.ld 35 x7) fun x15 =>
      opS P (S.ld 49 x12) fun x16 =>
      opS P (S.buildS 35 1 [(0, x16)]) fun x17 =>
      opS P (S.bi .append #[35, 35] 35 [x15, x17]) fun x18 =>
      opS P (S.st 35 x7 x18) fun x19 =>
      opS P (S.endR x10 none) fun x20 =>
      K x20
    ) fun j0 =>
    opS P (S.ld 3 x5) fun x15 =>
    opS P (S.binI .eql x15 (.int .i64 0)) fun x16 =>
    brn x16 (
      j0
    ) (
      opS P (S.fa 49 x12 0) fun x17 =>
      opS P (S.ld 3 x17) fun x18 =>
      opS P (S.ld 3 x5) fun x19 =>
      opS P (S.binI .eql x18 x19) fun x20 =>
      brn x20 (
        j0
      ) (
        opS P (S.endR x10 none) fun x21 =>
        K x21
      )
    )
  ) bs) (fun x10 =>
    opS P (S.ld 35 x7) fun x11 =>
    opS P (S.cl 39 [x11]) fun x12 =>
    takeD P x10 fun x13 =>
    K x12
  ) (fun x10 =>
    takeD P x10 fun x11 =>
    K (.slice none 0 0)
  ) 0 (fun x10 =>
    fun _ => False
  )
instance fnb17 : FnB Tryz.prog 17 := ⟨Tryz.call17⟩
theorem e17 : p17 Tryz.prog = fun K x0 x1 x2 x3 x4 => denF Tryz.prog Tryz.f17 [x0, x1, x2, x3, x4] K := by kernel_rfl
theorem c17 {K : Value → World → Prop} {x0 x1 x2 x3 x4 : Value} {w : World} (h : p17 Tryz.prog K x0 x1 x2 x3 x4 w) : CallsR Tryz.prog 17 #[x0, x1, x2, x3, x4] K w := by
  rw [e17] at h
  exact denF_sound mixed Tryz.func17 h

-- (*gemel/flow.Bridge).senders
def p38 (P : Program) (K : Value → World → Prop) (x0 : Value) (x1 : Value) (x2 : Value) (x3 : Value) : World → Prop :=
  opS P (S.box 32 x0) fun x4 =>
  opS P (S.box 3 x1) fun x5 =>
  opS P (S.box 3 x2) fun x6 =>
  opS P (S.box 27 x3) fun x7 =>
  opS P (S.mkf (.func 76) [] [x4, x6, x5, x7]) fun x8 =>
  K x8
instance fnb38 : FnB Tryz.prog 38 := ⟨Tryz.call38⟩
theorem e38 : p38 Tryz.prog = fun K x0 x1 x2 x3 => denF Tryz.prog Tryz.f38 [x0, x1, x2, x3] K := by kernel_rfl
theorem c38 {K : Value → World → Prop} {x0 x1 x2 x3 : Value} {w : World} (h : p38 Tryz.prog K x0 x1 x2 x3 w) : CallsR Tryz.prog 38 #[x0, x1, x2, x3] K w := by
  rw [e38] at h
  exact denF_sound mixed Tryz.func38 h

-- slices.Clip[[]gemel/api.Out,gemel/api.Out]
def p39 (P : Program) (K : Value → World → Prop) (x0 : Value) : World → Prop :=
  opS P (S.len x0) fun x1 =>
  opS P (S.len x0) fun x2 =>
  opS P (S.slc 35 x0 none (some x1) (some x2)) fun x3 =>
  K x3
instance fnb39 : FnB Tryz.prog 39 := ⟨Tryz.call39⟩
theorem e39 : p39 Tryz.prog = fun K x0 => denF Tryz.prog Tryz.f39 [x0] K := by kernel_rfl
theorem c39 {K : Value → World → Prop} {x0 : Value} {w : World} (h : p39 Tryz.prog K x0 w) : CallsR Tryz.prog 39 #[x0] K w := by
  rw [e39] at h
  exact denF_sound mixed Tryz.func39 h

-- (*gemel/flow.Bridge).senders$1
def p76 (P : Program) (K : Value → World → Prop) (x0 : Value) (x1 : Value) (x2 : Value) (x3 : Value) (x4 : Value) : World → Prop :=
  opS P (S.ld 32 x1) fun x5 =>
  opS P (S.nc x5) fun x6 =>
  opS P (S.fa 83 x6 2) fun x7 =>
  opS P (S.ld 70 x7) fun x8 =>
  opS P (S.len x8) fun x9 =>
  jnJ 0 (
    K (.tuple #[])
  ) fun j0 =>
  loopJ 1 (fun j1 x10 =>
    opS P (S.binI .lss x10 x9) fun x11 =>
    brn x11 (
      opS P (S.ia 70 x8 x10) fun x12 =>
      opS P (S.ld 3 x12) fun x13 =>
      opS P (S.ld 3 x2) fun x14 =>
      opS P (S.binI .eql x10 x14) fun x15 =>
      brn x15 (
        opS P (S.binI .add x10 (.int .i64 1)) fun x16 =>
        j1 x16
      ) (
        opS P (S.binI .neq x13 (.int .i64 2)) fun x16 =>
        brn x16 (
          opS P (S.binI .add x10 (.int .i64 1)) fun x17 =>
          j1 x17
        ) (
          jnJ 2 (fun x17 x18 =>
            opS P (S.binI .eql x18 (.int .i64 0)) fun x19 =>
            brn x19 (
              opS P (S.ld 27 x17) fun x20 =>
              opS P (S.build 49 [(0, x10), (1, x20)]) fun x21 =>
              opS P (S.call x0 [x21]) fun x22 =>
              opS P (S.un .not x22) fun x23 =>
              brn x23 (
                K (.tuple #[])
              ) (
                opS P (S.binI .add x10 (.int .i64 1)) fun x24 =>
                j1 x24
              )
            ) (
              opS P (S.binI .add x10 (.int .i64 1)) fun x20 =>
              j1 x20
            )
          ) fun j2 =>
          drw <|
          allW (
            opS P (S.ld 32 x1) fun x17 =>
            opS P (S.nc x17) fun x18 =>
            opS P (S.fa 83 x18 0) fun x19 =>
            allW (
              opS P (S.ld 71 x19) fun x20 =>
              allW (
                opS P (S.ld 3 x3) fun x21 =>
                allW (
                  opS P (S.ld 27 x4) fun x22 =>
                  allW (
                    opS P (S.cl 77 [x20, x21, x10, x22]) fun x23 =>
                    opS P (S.ext x23 0) fun x24 =>
                    opS P (S.ext x23 1) fun x25 =>
                    opS P (S.alloc 27) fun x26 =>
                    opS P (S.st 27 x26 x24) fun x27 =>
                    j2 x26 x25
                  ) (
                    opS P (S.alloc 27) fun x23 =>
                    opS P (S.cl 77 [x20, x21, x10, x22]) fun x24 =>
                    opS P (S.ext x24 0) fun x25 =>
                    opS P (S.ext x24 1) fun x26 =>
                    opS P (S.st 27 x23 x25) fun x27 =>
                    j2 x23 x26
                  )
                ) (
                  opS P (S.alloc 27) fun x22 =>
                  opS P (S.ld 27 x4) fun x23 =>
                  opS P (S.cl 77 [x20, x21, x10, x23]) fun x24 =>
                  opS P (S.ext x24 0) fun x25 =>
                  opS P (S.ext x24 1) fun x26 =>
                  opS P (S.st 27 x22 x25) fun x27 =>
                  j2 x22 x26
                )
              ) (
                allW (
                  opS P (S.ld 27 x4) fun x21 =>
                  allW (
                    opS P (S.ld 3 x3) fun x22 =>
                    allW (
                      opS P (S.cl 77 [x20, x22, x10, x21]) fun x23 =>
                      opS P (S.ext x23 0) fun x24 =>
                      opS P (S.ext x23 1) fun x25 =>
                      opS P (S.alloc 27) fun x26 =>
                      opS P (S.st 27 x26 x24) fun x27 =>
                      j2 x26 x25
                    ) (
                      opS P (S.alloc 27) fun x23 =>
                      opS P (S.cl 77 [x20, x22, x10, x21]) fun x24 =>
                      opS P (S.ext x24 0) fun x25 =>
                      opS P (S.ext x24 1) fun x26 =>
                      opS P (S.st 27 x23 x25) fun x27 =>
                      j2 x23 x26
                    )
                  ) (
                    opS P (S.alloc 27) fun x22 =>
                    opS P (S.ld 3 x3) fun x23 =>
                    opS P (S.cl 77 [x20, x23, x10, x21]) fun x24 =>
                    opS P (S.ext x24 0) fun x25 =>
                    opS P (S.ext x24 1) fun x26 =>
                    opS P (S.st 27 x22 x25) fun x27 =>
                    j2 x22 x26
                  )
                ) (
                  opS P (S.alloc 27) fun x21 =>
                  opS P (S.ld 3 x3) fun x22 =>
                  opS P (S.ld 27 x4) fun x23 =>
                  opS P (S.cl 77 [x20, x22, x10, x23]) fun x24 =>
                  opS P (S.ext x24 0) fun x25 =>
                  opS P (S.ext x24 1) fun x26 =>
                  opS P (S.st 27 x21 x25) fun x27 =>
                  j2 x21 x26
                )
              )
            ) (
              allW (
                opS P (S.ld 3 x3) fun x20 =>
                allW (
                  opS P (S.ld 71 x19) fun x21 =>
                  allW (
                    opS P (S.ld 27 x4) fun x22 =>
                    allW (
                      opS P (S.cl 77 [x21, x20, x10, x22]) fun x23 =>
                      opS P (S.ext x23 0) fun x24 =>
                      opS P (S.ext x23 1) fun x25 =>
                      opS P (S.alloc 27) fun x26 =>
                      opS P (S.st 27 x26 x24) fun x27 =>
                      j2 x26 x25
                    ) (
                      opS P (S.alloc 27) fun x23 =>
                      opS P (S.cl 77 [x21, x20, x10, x22]) fun x24 =>
                      opS P (S.ext x24 0) fun x25 =>
                      opS P (S.ext x24 1) fun x26 =>
                      opS P (S.st 27 x23 x25) fun x27 =>
                      j2 x23 x26
                    )
                  ) (
                    opS P (S.alloc 27) fun x22 =>
                    opS P (S.ld 27 x4) fun x23 =>
                    opS P (S.cl 77 [x21, x20, x10, x23]) fun x24 =>
                    opS P (S.ext x24 0) fun x25 =>
                    opS P (S.ext x24 1) fun x26 =>
                    opS P (S.st 27 x22 x25) fun x27 =>
                    j2 x22 x26
                  )
                ) (
                  allW (
                    opS P (S.ld 27 x4) fun x21 =>
                    allW (
                      opS P (S.ld 71 x19) fun x22 =>
                      allW (
                        opS P (S.cl 77 [x22, x20, x10, x21]) fun x23 =>
                        opS P (S.ext x23 0) fun x24 =>
                        opS P (S.ext x23 1) fun x25 =>
                        opS P (S.alloc 27) fun x26 =>
                        opS P (S.st 27 x26 x24) fun x27 =>
                        j2 x26 x25
                      ) (
                        opS P (S.alloc 27) fun x23 =>
                        opS P (S.cl 77 [x22, x20, x10, x21]) fun x24 =>
                        opS P (S.ext x24 0) fun x25 =>
                        opS P (S.ext x24 1) fun x26 =>
                        opS P (S.st 27 x23 x25) fun x27 =>
                        j2 x23 x26
                      )
                    ) (
                      opS P (S.alloc 27) fun x22 =>
                      opS P (S.ld 71 x19) fun x23 =>
                      opS P (S.cl 77 [x23, x20, x10, x21]) fun x24 =>
                      opS P (S.ext x24 0) fun x25 =>
                      opS P (S.ext x24 1) fun x26 =>
                      opS P (S.st 27 x22 x25) fun x27 =>
                      j2 x22 x26
                    )
                  ) (
                    opS P (S.alloc 27) fun x21 =>
                    opS P (S.ld 71 x19) fun x22 =>
                    opS P (S.ld 27 x4) fun x23 =>
                    opS P (S.cl 77 [x22, x20, x10, x23]) fun x24 =>
                    opS P (S.ext x24 0) fun x25 =>
                    opS P (S.ext x24 1) fun x26 =>
                    opS P (S.st 27 x21 x25) fun x27 =>
                    j2 x21 x26
                  )
                )
              ) (
                allW (
                  opS P (S.ld 27 x4) fun x20 =>
                  allW (
                    opS P (S.ld 71 x19) fun x21 =>
                    allW (
                      opS P (S.ld 3 x3) fun x22 =>
                      allW (
                        opS P (S.cl 77 [x21, x22, x10, x20]) fun x23 =>
                        opS P (S.ext x23 0) fun x24 =>
                        opS P (S.ext x23 1) fun x25 =>
                        opS P (S.alloc 27) fun x26 =>
                        opS P (S.st 27 x26 x24) fun x27 =>
                        j2 x26 x25
                      ) (
                        opS P (S.alloc 27) fun x23 =>
                        opS P (S.cl 77 [x21, x22, x10, x20]) fun x24 =>
                        opS P (S.ext x24 0) fun x25 =>
                        opS P (S.ext x24 1) fun x26 =>
                        opS P (S.st 27 x23 x25) fun x27 =>
                        j2 x23 x26
                      )
                    ) (
                      opS P (S.alloc 27) fun x22 =>
                      opS P (S.ld 3 x3) fun x23 =>
                      opS P (S.cl 77 [x21, x23, x10, x20]) fun x24 =>
                      opS P (S.ext x24 0) fun x25 =>
                      opS P (S.ext x24 1) fun x26 =>
                      opS P (S.st 27 x22 x25) fun x27 =>
                      j2 x22 x26
                    )
                  ) (
                    allW (
                      opS P (S.ld 3 x3) fun x21 =>
                      allW (
                        opS P (S.ld 71 x19) fun x22 =>
                        allW (
                          opS P (S.cl 77 [x22, x21, x10, x20]) fun x23 =>
                          opS P (S.ext x23 0) fun x24 =>
                          opS P (S.ext x23 1) fun x25 =>
                          opS P (S.alloc 27) fun x26 =>
                          opS P (S.st 27 x26 x24) fun x27 =>
                          j2 x26 x25
                        ) (
                          opS P (S.alloc 27) fun x23 =>
                          opS P (S.cl 77 [x22, x21, x10, x20]) fun x24 =>
                          opS P (S.ext x24 0) fun x25 =>
                          opS P (S.ext x24 1) fun x26 =>
                          opS P (S.st 27 x23 x25) fun x27 =>
                          j2 x23 x26
                        )
                      ) (
                        opS P (S.alloc 27) fun x22 =>
                        opS P (S.ld 71 x19) fun x23 =>
                        opS P (S.cl 77 [x23, x21, x10, x20]) fun x24 =>
                        opS P (S.ext x24 0) fun x25 =>
                        opS P (S.ext x24 1) fun x26 =>
                        opS P (S.st 27 x22 x25) fun x27 =>
                        j2 x22 x26
                      )
                    ) (
                      opS P (S.alloc 27) fun x21 =>
                      opS P (S.ld 71 x19) fun x22 =>
                      opS P (S.ld 3 x3) fun x23 =>
                      opS P (S.cl 77 [x22, x23, x10, x20]) fun x24 =>
                      opS P (S.ext x24 0) fun x25 =>
                      opS P (S.ext x24 1) fun x26 =>
                      opS P (S.st 27 x21 x25) fun x27 =>
                      j2 x21 x26
                    )
                  )
                ) (
                  opS P (S.alloc 27) fun x20 =>
                  opS P (S.ld 71 x19) fun x21 =>
                  opS P (S.ld 3 x3) fun x22 =>
                  opS P (S.ld 27 x4) fun x23 =>
                  opS P (S.cl 77 [x21, x22, x10, x23]) fun x24 =>
                  opS P (S.ext x24 0) fun x25 =>
                  opS P (S.ext x24 1) fun x26 =>
                  opS P (S.st 27 x20 x25) fun x27 =>
                  j2 x20 x26
                )
              )
            )
          ) (
            allW (
              opS P (S.ld 3 x3) fun x17 =>
              allW (
                opS P (S.ld 32 x1) fun x18 =>
                opS P (S.nc x18) fun x19 =>
                opS P (S.fa 83 x19 0) fun x20 =>
                allW (
                  opS P (S.ld 71 x20) fun x21 =>
                  allW (
                    opS P (S.ld 27 x4) fun x22 =>
                    allW (
                      opS P (S.cl 77 [x21, x17, x10, x22]) fun x23 =>
                      opS P (S.ext x23 0) fun x24 =>
                      opS P (S.ext x23 1) fun x25 =>
                      opS P (S.alloc 27) fun x26 =>
                      opS P (S.st 27 x26 x24) fun x27 =>
                      j2 x26 x25
                    ) (
                      opS P (S.alloc 27) fun x23 =>
                      opS P (S.cl 77 [x21, x17, x10, x22]) fun x24 =>
                      opS P (S.ext x24 0) fun x25 =>
                      opS P (S.ext x24 1) fun x26 =>
                      opS P (S.st 27 x23 x25) fun x27 =>
                      j2 x23 x26
                    )
                  ) (
                    opS P (S.alloc 27) fun x22 =>
                    opS P (S.ld 27 x4) fun x23 =>
                    opS P (S.cl 77 [x21, x17, x10, x23]) fun x24 =>
                    opS P (S.ext x24 0) fun x25 =>
                    opS P (S.ext x24 1) fun x26 =>
                    opS P (S.st 27 x22 x25) fun x27 =>
                    j2 x22 x26
                  )
                ) (
                  allW (
                    opS P (S.ld 27 x4) fun x21 =>
                    allW (
                      opS P (S.ld 71 x20) fun x22 =>
                      allW (
                        opS P (S.cl 77 [x22, x17, x10, x21]) fun x23 =>
                        opS P (S.ext x23 0) fun x24 =>
                        opS P (S.ext x23 1) fun x25 =>
                        opS P (S.alloc 27) fun x26 =>
                        opS P (S.st 27 x26 x24) fun x27 =>
                        j2 x26 x25
                      ) (
                        opS P (S.alloc 27) fun x23 =>
                        opS P (S.cl 77 [x22, x17, x10, x21]) fun x24 =>
                        opS P (S.ext x24 0) fun x25 =>
                        opS P (S.ext x24 1) fun x26 =>
                        opS P (S.st 27 x23 x25) fun x27 =>
                        j2 x23 x26
                      )
                    ) (
                      opS P (S.alloc 27) fun x22 =>
                      opS P (S.ld 71 x20) fun x23 =>
                      opS P (S.cl 77 [x23, x17, x10, x21]) fun x24 =>
                      opS P (S.ext x24 0) fun x25 =>
                      opS P (S.ext x24 1) fun x26 =>
                      opS P (S.st 27 x22 x25) fun x27 =>
                      j2 x22 x26
                    )
                  ) (
                    opS P (S.alloc 27) fun x21 =>
                    opS P (S.ld 71 x20) fun x22 =>
                    opS P (S.ld 27 x4) fun x23 =>
                    opS P (S.cl 77 [x22, x17, x10, x23]) fun x24 =>
                    opS P (S.ext x24 0) fun x25 =>
                    opS P (S.ext x24 1) fun x26 =>
                    opS P (S.st 27 x21 x25) fun x27 =>
                    j2 x21 x26
                  )
                )
              ) (
                allW (
                  opS P (S.ld 27 x4) fun x18 =>
                  allW (
                    opS P (S.ld 32 x1) fun x19 =>
                    opS P (S.nc x19) fun x20 =>
                    opS P (S.fa 83 x20 0) fun x21 =>
                    allW (
                      opS P (S.ld 71 x21) fun x22 =>
                      allW (
                        opS P (S.cl 77 [x22, x17, x10, x18]) fun x23 =>
                        opS P (S.ext x23 0) fun x24 =>
                        opS P (S.ext x23 1) fun x25 =>
                        opS P (S.alloc 27) fun x26 =>
                        opS P (S.st 27 x26 x24) fun x27 =>
                        j2 x26 x25
                      ) (
                        opS P (S.alloc 27) fun x23 =>
                        opS P (S.cl 77 [x22, x17, x10, x18]) fun x24 =>
                        opS P (S.ext x24 0) fun x25 =>
                        opS P (S.ext x24 1) fun x26 =>
                        opS P (S.st 27 x23 x25) fun x27 =>
                        j2 x23 x26
                      )
                    ) (
                      opS P (S.alloc 27) fun x22 =>
                      opS P (S.ld 71 x21) fun x23 =>
                      opS P (S.cl 77 [x23, x17, x10, x18]) fun x24 =>
                      opS P (S.ext x24 0) fun x25 =>
                      opS P (S.ext x24 1) fun x26 =>
                      opS P (S.st 27 x22 x25) fun x27 =>
                      j2 x22 x26
                    )
                  ) (
                    opS P (S.alloc 27) fun x19 =>
                    opS P (S.ld 32 x1) fun x20 =>
                    opS P (S.nc x20) fun x21 =>
                    opS P (S.fa 83 x21 0) fun x22 =>
                    opS P (S.ld 71 x22) fun x23 =>
                    opS P (S.cl 77 [x23, x17, x10, x18]) fun x24 =>
                    opS P (S.ext x24 0) fun x25 =>
                    opS P (S.ext x24 1) fun x26 =>
                    opS P (S.st 27 x19 x25) fun x27 =>
                    j2 x19 x26
                  )
                ) (
                  opS P (S.alloc 27) fun x18 =>
                  opS P (S.ld 32 x1) fun x19 =>
                  opS P (S.nc x19) fun x20 =>
                  opS P (S.fa 83 x20 0) fun x21 =>
                  opS P (S.ld 71 x21) fun x22 =>
                  opS P (S.ld 27 x4) fun x23 =>
                  opS P (S.cl 77 [x22, x17, x10, x23]) fun x24 =>
                  opS P (S.ext x24 0) fun x25 =>
                  opS P (S.ext x24 1) fun x26 =>
                  opS P (S.st 27 x18 x25) fun x27 =>
                  j2 x18 x26
                )
              )
            ) (
              allW (
                opS P (S.ld 27 x4) fun x17 =>
                allW (
                  opS P (S.ld 32 x1) fun x18 =>
                  opS P (S.nc x18) fun x19 =>
                  opS P (S.fa 83 x19 0) fun x20 =>
                  allW (
                    opS P (S.ld 71 x20) fun x21 =>
                    allW (
                      opS P (S.ld 3 x3) fun x22 =>
                      allW (
                        opS P (S.cl 77 [x21, x22, x10, x17]) fun x23 =>
                        opS P (S.ext x23 0) fun x24 =>
                        opS P (S.ext x23 1) fun x25 =>
                        opS P (S.alloc 27) fun x26 =>
                        opS P (S.st 27 x26 x24) fun x27 =>
                        j2 x26 x25
                      ) (
                        opS P (S.alloc 27) fun x23 =>
                        opS P (S.cl 77 [x21, x22, x10, x17]) fun x24 =>
                        opS P (S.ext x24 0) fun x25 =>
                        opS P (S.ext x24 1) fun x26 =>
                        opS P (S.st 27 x23 x25) fun x27 =>
                        j2 x23 x26
                      )
                    ) (
                      opS P (S.alloc 27) fun x22 =>
                      opS P (S.ld 3 x3) fun x23 =>
                      opS P (S.cl 77 [x21, x23, x10, x17]) fun x24 =>
                      opS P (S.ext x24 0) fun x25 =>
                      opS P (S.ext x24 1) fun x26 =>
                      opS P (S.st 27 x22 x25) fun x27 =>
                      j2 x22 x26
                    )
                  ) (
                    allW (
                      opS P (S.ld 3 x3) fun x21 =>
                      allW (
                        opS P (S.ld 71 x20) fun x22 =>
                        allW (
                          opS P (S.cl 77 [x22, x21, x10, x17]) fun x23 =>
                          opS P (S.ext x23 0) fun x24 =>
                          opS P (S.ext x23 1) fun x25 =>
                          opS P (S.alloc 27) fun x26 =>
                          opS P (S.st 27 x26 x24) fun x27 =>
                          j2 x26 x25
                        ) (
                          opS P (S.alloc 27) fun x23 =>
                          opS P (S.cl 77 [x22, x21, x10, x17]) fun x24 =>
                          opS P (S.ext x24 0) fun x25 =>
                          opS P (S.ext x24 1) fun x26 =>
                          opS P (S.st 27 x23 x25) fun x27 =>
                          j2 x23 x26
                        )
                      ) (
                        opS P (S.alloc 27) fun x22 =>
                        opS P (S.ld 71 x20) fun x23 =>
                        opS P (S.cl 77 [x23, x21, x10, x17]) fun x24 =>
                        opS P (S.ext x24 0) fun x25 =>
                        opS P (S.ext x24 1) fun x26 =>
                        opS P (S.st 27 x22 x25) fun x27 =>
                        j2 x22 x26
                      )
                    ) (
                      opS P (S.alloc 27) fun x21 =>
                      opS P (S.ld 71 x20) fun x22 =>
                      opS P (S.ld 3 x3) fun x23 =>
                      opS P (S.cl 77 [x22, x23, x10, x17]) fun x24 =>
                      opS P (S.ext x24 0) fun x25 =>
                      opS P (S.ext x24 1) fun x26 =>
                      opS P (S.st 27 x21 x25) fun x27 =>
                      j2 x21 x26
                    )
                  )
                ) (
                  allW (
                    opS P (S.ld 3 x3) fun x18 =>
                    allW (
                      opS P (S.ld 32 x1) fun x19 =>
                      opS P (S.nc x19) fun x20 =>
                      opS P (S.fa 83 x20 0) fun x21 =>
                      allW (
                        opS P (S.ld 71 x21) fun x22 =>
                        allW (
                          opS P (S.cl 77 [x22, x18, x10, x17]) fun x23 =>
                          opS P (S.ext x23 0) fun x24 =>
                          opS P (S.ext x23 1) fun x25 =>
                          opS P (S.alloc 27) fun x26 =>
                          opS P (S.st 27 x26 x24) fun x27 =>
                          j2 x26 x25
                        ) (
                          opS P (S.alloc 27) fun x23 =>
                          opS P (S.cl 77 [x22, x18, x10, x17]) fun x24 =>
                          opS P (S.ext x24 0) fun x25 =>
                          opS P (S.ext x24 1) fun x26 =>
                          opS P (S.st 27 x23 x25) fun x27 =>
                          j2 x23 x26
                        )
                      ) (
                        opS P (S.alloc 27) fun x22 =>
                        opS P (S.ld 71 x21) fun x23 =>
                        opS P (S.cl 77 [x23, x18, x10, x17]) fun x24 =>
                        opS P (S.ext x24 0) fun x25 =>
                        opS P (S.ext x24 1) fun x26 =>
                        opS P (S.st 27 x22 x25) fun x27 =>
                        j2 x22 x26
                      )
                    ) (
                      opS P (S.alloc 27) fun x19 =>
                      opS P (S.ld 32 x1) fun x20 =>
                      opS P (S.nc x20) fun x21 =>
                      opS P (S.fa 83 x21 0) fun x22 =>
                      opS P (S.ld 71 x22) fun x23 =>
                      opS P (S.cl 77 [x23, x18, x10, x17]) fun x24 =>
                      opS P (S.ext x24 0) fun x25 =>
                      opS P (S.ext x24 1) fun x26 =>
                      opS P (S.st 27 x19 x25) fun x27 =>
                      j2 x19 x26
                    )
                  ) (
                    opS P (S.alloc 27) fun x18 =>
                    opS P (S.ld 32 x1) fun x19 =>
                    opS P (S.nc x19) fun x20 =>
                    opS P (S.fa 83 x20 0) fun x21 =>
                    opS P (S.ld 71 x21) fun x22 =>
                    opS P (S.ld 3 x3) fun x23 =>
                    opS P (S.cl 77 [x22, x23, x10, x17]) fun x24 =>
                    opS P (S.ext x24 0) fun x25 =>
                    opS P (S.ext x24 1) fun x26 =>
                    opS P (S.st 27 x18 x25) fun x27 =>
                    j2 x18 x26
                  )
                )
              ) (
                opS P (S.alloc 27) fun x17 =>
                opS P (S.ld 32 x1) fun x18 =>
                opS P (S.nc x18) fun x19 =>
                opS P (S.fa 83 x19 0) fun x20 =>
                opS P (S.ld 71 x20) fun x21 =>
                opS P (S.ld 3 x3) fun x22 =>
                opS P (S.ld 27 x4) fun x23 =>
                opS P (S.cl 77 [x21, x22, x10, x23]) fun x24 =>
                opS P (S.ext x24 0) fun x25 =>
                opS P (S.ext x24 1) fun x26 =>
                opS P (S.st 27 x17 x25) fun x27 =>
                j2 x17 x26
              )
            )
          )
        )
      )
    ) (
      j0
    )
  ) (.int .i64 0)
instance fnb76 : FnB Tryz.prog 76 := ⟨Tryz.call76⟩
theorem e76 : p76 Tryz.prog = fun K x0 x1 x2 x3 x4 => denF Tryz.prog Tryz.f76 [x0, x1, x2, x3, x4] K := by kernel_rfl
theorem c76 {K : Value → World → Prop} {x0 x1 x2 x3 x4 : Value} {w : World} (h : p76 Tryz.prog K x0 x1 x2 x3 x4 w) : CallsR Tryz.prog 76 #[x0, x1, x2, x3, x4] K w := by
  rw [e76] at h
  exact denF_sound mixed Tryz.func76 h

end Go.Gx.S
-- 38 76 17 39
end

section
/- What the functions of this program ask. -/
set_option linter.unusedVariables false
set_option maxRecDepth 100000
namespace Go.Gx.S
open Go Go.Gx Go.Proofs
-- (*gemel/flow.Bridge).Stations
def p14 (P : Program) (K : Value → World → Prop) (x0 : Value) : World → Prop :=
  opS P (S.nc x0) fun x1 =>
  opS P (S.fa 83 x1 1) fun x2 =>
  opS P (S.ld 42 x2) fun x3 =>
  K x3
instance fnb14 : FnB Tryz.prog 14 := ⟨Tryz.call14⟩
theorem e14 : p14 Tryz.prog = fun K x0 => denF Tryz.prog Tryz.f14 [x0] K := by kernel_rfl
theorem c14 {K : Value → World → Prop} {x0 : Value} {w : World} (h : p14 Tryz.prog K x0 w) : CallsR Tryz.prog 14 #[x0] K w := by
  rw [e14] at h
  exact denF_sound mixed Tryz.func14 h

-- (*gemel/flow.Bridge).Set
def p23 (P : Program) (K : Value → World → Prop) (x0 : Value) (x1 : Value) (x2 : Value) : World → Prop :=
  opS P (S.cl 49 [x0, x1]) fun x3 =>
  opS P (S.un .not x3) fun x4 =>
  brn x4 (
    K (.int .i64 1)
  ) (
    opS P (S.binI .lss x2 (.int .i64 0)) fun x5 =>
    brn x5 (
      K (.int .i64 1)
    ) (
      opS P (S.binI .gtr x2 (.int .i64 2)) fun x6 =>
      brn x6 (
        K (.int .i64 1)
      ) (
        opS P (S.nc x0) fun x7 =>
        opS P (S.fa 83 x7 2) fun x8 =>
        opS P (S.ld 70 x8) fun x9 =>
        opS P (S.ia 70 x9 x1) fun x10 =>
        opS P (S.st 3 x10 x2) fun x11 =>
        K (.int .i64 0)
      )
    )
  )
instance fnb23 : FnB Tryz.prog 23 := ⟨Tryz.call23⟩
theorem e23 : p23 Tryz.prog = fun K x0 x1 x2 => denF Tryz.prog Tryz.f23 [x0, x1, x2] K := by kernel_rfl
theorem c23 {K : Value → World → Prop} {x0 x1 x2 : Value} {w : World} (h : p23 Tryz.prog K x0 x1 x2 w) : CallsR Tryz.prog 23 #[x0, x1, x2] K w := by
  rw [e23] at h
  exact denF_sound mixed Tryz.func23 h

-- (*gemel/flow.Bridge).State
def p24 (P : Program) (K : Value → World → Prop) (x0 : Value) (x1 : Value) : World → Prop :=
  opS P (S.cl 49 [x0, x1]) fun x2 =>
  opS P (S.un .not x2) fun x3 =>
  brn x3 (
    K (.int .i64 0)
  ) (
    opS P (S.nc x0) fun x4 =>
    opS P (S.fa 83 x4 2) fun x5 =>
    opS P (S.ld 70 x5) fun x6 =>
    opS P (S.ia 70 x6 x1) fun x7 =>
    opS P (S.ld 3 x7) fun x8 =>
    K x8
  )
instance fnb24 : FnB Tryz.prog 24 := ⟨Tryz.call24⟩
theorem e24 : p24 Tryz.prog = fun K x0 x1 => denF Tryz.prog Tryz.f24 [x0, x1] K := by kernel_rfl
theorem c24 {K : Value → World → Prop} {x0 x1 : Value} {w : World} (h : p24 Tryz.prog K x0 x1 w) : CallsR Tryz.prog 24 #[x0, x1] K w := by
  rw [e24] at h
  exact denF_sound mixed Tryz.func24 h

-- (*gemel/flow.Bridge).Vlans
def p29 (P : Program) (K : Value → World → Prop) (x0 : Value) : World → Prop :=
  opS P (S.nc x0) fun x1 =>
  opS P (S.fa 83 x1 0) fun x2 =>
  opS P (S.ld 71 x2) fun x3 =>
  K x3
instance fnb29 : FnB Tryz.prog 29 := ⟨Tryz.call29⟩
theorem e29 : p29 Tryz.prog = fun K x0 => denF Tryz.prog Tryz.f29 [x0] K := by kernel_rfl
theorem c29 {K : Value → World → Prop} {x0 : Value} {w : World} (h : p29 Tryz.prog K x0 w) : CallsR Tryz.prog 29 #[x0] K w := by
  rw [e29] at h
  exact denF_sound mixed Tryz.func29 h

-- (*gemel/flow.Bridge).refused
def p34 (P : Program) (K : Value → World → Prop) (x0 : Value) (x1 : Value) (x2 : Value) (x3 : Value) : World → Prop :=
  opS P (S.box 27 x2) fun x4 =>
  opS P (S.cl 49 [x0, x1]) fun x5 =>
  opS P (S.un .not x5) fun x6 =>
  brn x6 (
    K (.tuple #[(.int .i64 1), (.int .i64 0)])
  ) (
    opS P (S.ld 27 x4) fun x7 =>
    opS P (S.cl 69 [x7]) fun x8 =>
    opS P (S.un .not x8) fun x9 =>
    brn x9 (
      K (.tuple #[(.int .i64 1), (.int .i64 0)])
    ) (
      opS P (S.binI .lss x3 (.int .i64 0)) fun x10 =>
      brn x10 (
        K (.tuple #[(.int .i64 1), (.int .i64 0)])
      ) (
        opS P (S.binI .gtr x3 (.int .i64 1099511627776)) fun x11 =>
        brn x11 (
          K (.tuple #[(.int .i64 1), (.int .i64 0)])
        ) (
          opS P (S.fa 27 x4 0) fun x12 =>
          opS P (S.ld 24 x12) fun x13 =>
          opS P (S.cl 70 [x13]) fun x14 =>
          brn x14 (
            K (.tuple #[(.int .i64 2), (.int .i64 0)])
          ) (
            opS P (S.nc x0) fun x15 =>
            opS P (S.fa 83 x15 2) fun x16 =>
            opS P (S.ld 70 x16) fun x17 =>
            opS P (S.ia 70 x17 x1) fun x18 =>
            opS P (S.ld 3 x18) fun x19 =>
            opS P (S.binI .eql x19 (.int .i64 0)) fun x20 =>
            brn x20 (
              K (.tuple #[(.int .i64 3), (.int .i64 0)])
            ) (
              drw <|
              opS P (S.nc x0) fun x21 =>
              opS P (S.fa 83 x21 0) fun x22 =>
              opS P (S.ld 71 x22) fun x23 =>
              opS P (S.ld 27 x4) fun x24 =>
              opS P (S.cl 71 [x23, x1, x24]) fun x25 =>
              opS P (S.ext x25 0) fun x26 =>
              opS P (S.ext x25 1) fun x27 =>
              opS P (S.binI .neq x27 (.int .i64 0)) fun x28 =>
              brn x28 (
                K (.tuple #[(.int .i64 4), (.int .i64 0)])
              ) (
                opS P (S.fa 27 x4 1) fun x29 =>
                opS P (S.ld 24 x29) fun x30 =>
                opS P (S.cl 72 [x30]) fun x31 =>
                brn x31 (
                  K (.tuple #[(.int .i64 5), x26])
                ) (
                  K (.tuple #[(.int .i64 0), x26])
                )
              )
            )
          )
        )
      )
    )
  )
instance fnb34 : FnB Tryz.prog 34 := ⟨Tryz.call34⟩
theorem e34 : p34 Tryz.prog = fun K x0 x1 x2 x3 => denF Tryz.prog Tryz.f34 [x0, x1, x2, x3] K := by kernel_rfl
theorem c34 {K : Value → World → Prop} {x0 x1 x2 x3 : Value} {w : World} (h : p34 Tryz.prog K x0 x1 x2 x3 w) : CallsR Tryz.prog 34 #[x0, x1, x2, x3] K w := by
  rw [e34] at h
  exact denF_sound mixed Tryz.func34 h

-- (*gemel/flow.Bridge).learn
def p35 (P : Program) (K : Value → World → Prop) (x0 : Value) (x1 : Value) (x2 : Value) (x3 : Value) (x4 : Value) : World → Prop :=
  opS P (S.box 24 x2) fun x5 =>
  drw <|
  opS P (S.nc x0) fun x6 =>
  opS P (S.fa 83 x6 1) fun x7 =>
  opS P (S.ld 42 x7) fun x8 =>
  opS P (S.ld 24 x5) fun x9 =>
  opS P (S.cl 73 [x8, x1, x9, x3, x4]) fun x10 =>
  opS P (S.ext x10 0) fun x11 =>
  opS P (S.ext x10 1) fun x12 =>
  opS P (S.binI .neq x12 (.int .i64 0)) fun x13 =>
  brn x13 (
    drw <|
    opS P (S.nc x0) fun x14 =>
    opS P (S.fa 83 x14 4) fun x15 =>
    opS P (S.ia 81 x15 (.int .i64 2)) fun x16 =>
    opS P (S.ld 3 x16) fun x17 =>
    opS P (S.binI .add x17 (.int .i64 1)) fun x18 =>
    opS P (S.nc x0) fun x19 =>
    opS P (S.fa 83 x19 4) fun x20 =>
    opS P (S.ia 81 x20 (.int .i64 2)) fun x21 =>
    opS P (S.st 3 x21 x18) fun x22 =>
    K (.tuple #[])
  ) (
    opS P (S.binI .eql x11 (.int .i64 1)) fun x14 =>
    brn x14 (
      drw <|
      opS P (S.nc x0) fun x15 =>
      opS P (S.fa 83 x15 4) fun x16 =>
      opS P (S.ia 81 x16 (.int .i64 0)) fun x17 =>
      opS P (S.ld 3 x17) fun x18 =>
      opS P (S.binI .add x18 (.int .i64 1)) fun x19 =>
      opS P (S.nc x0) fun x20 =>
      opS P (S.fa 83 x20 4) fun x21 =>
      opS P (S.ia 81 x21 (.int .i64 0)) fun x22 =>
      opS P (S.st 3 x22 x19) fun x23 =>
      K (.tuple #[])
    ) (
      opS P (S.binI .eql x11 (.int .i64 2)) fun x15 =>
      brn x15 (
        drw <|
        opS P (S.nc x0) fun x16 =>
        opS P (S.fa 83 x16 4) fun x17 =>
        opS P (S.ia 81 x17 (.int .i64 1)) fun x18 =>
        opS P (S.ld 3 x18) fun x19 =>
        opS P (S.binI .add x19 (.int .i64 1)) fun x20 =>
        opS P (S.nc x0) fun x21 =>
        opS P (S.fa 83 x21 4) fun x22 =>
        opS P (S.ia 81 x22 (.int .i64 1)) fun x23 =>
        opS P (S.st 3 x23 x20) fun x24 =>
        K (.tuple #[])
      ) (
        K (.tuple #[])
      )
    )
  )
instance fnb35 : FnB Tryz.prog 35 := ⟨Tryz.call35⟩
theorem e35 : p35 Tryz.prog = fun K x0 x1 x2 x3 x4 => denF Tryz.prog Tryz.f35 [x0, x1, x2, x3, x4] K := by kernel_rfl
theorem c35 {K : Value → World → Prop} {x0 x1 x2 x3 x4 : Value} {w : World} (h : p35 Tryz.prog K x0 x1 x2 x3 x4 w) : CallsR Tryz.prog 35 #[x0, x1, x2, x3, x4] K w := by
  rw [e35] at h
  exact denF_sound mixed Tryz.func35 h

-- (*gemel/flow.Bridge).has
def p49 (P : Program) (K : Value → World → Prop) (x0 : Value) (x1 : Value) : World → Prop :=
  opS P (S.binI .geq x1 (.int .i64 1)) fun x2 =>
  brn x2 (
    opS P (S.nc x0) fun x3 =>
    opS P (S.fa 83 x3 2) fun x4 =>
    opS P (S.ld 70 x4) fun x5 =>
    opS P (S.len x5) fun x6 =>
    opS P (S.binI .lss x1 x6) fun x7 =>
    K x7
  ) (
    K (.bool false)
  )
instance fnb49 : FnB Tryz.prog 49 := ⟨Tryz.call49⟩
theorem e49 : p49 Tryz.prog = fun K x0 x1 => denF Tryz.prog Tryz.f49 [x0, x1] K := by kernel_rfl
theorem c49 {K : Value → World → Prop} {x0 x1 : Value} {w : World} (h : p49 Tryz.prog K x0 x1 w) : CallsR Tryz.prog 49 #[x0, x1] K w := by
  rw [e49] at h
  exact denF_sound mixed Tryz.func49 h

-- gemel/mac.Reserved
def p70 (P : Program) (K : Value → World → Prop) (x0 : Value) : World → Prop :=
  opS P (S.box 24 x0) fun x1 =>
  opS P (S.ia 24 x1 (.int .i64 5)) fun x2 =>
  opS P (S.ld 5 x2) fun x3 =>
  opS P (S.binI .andNot x3 (.int .u8 15)) fun x4 =>
  opS P (S.ia 24 x1 (.int .i64 5)) fun x5 =>
  opS P (S.st 5 x5 x4) fun x6 =>
  opS P (S.ld 24 x1) fun x7 =>
  opS P (S.build 24 [(0, (.int .u8 1)), (1, (.int .u8 128)), (2, (.int .u8 194))]) fun x8 =>
  opS P (S.binG .eql 24 x7 x8) fun x9 =>
  K x9
instance fnb70 : FnB Tryz.prog 70 := ⟨Tryz.call70⟩
theorem e70 : p70 Tryz.prog = fun K x0 => denF Tryz.prog Tryz.f70 [x0] K := by kernel_rfl
theorem c70 {K : Value → World → Prop} {x0 : Value} {w : World} (h : p70 Tryz.prog K x0 w) : CallsR Tryz.prog 70 #[x0] K w := by
  rw [e70] at h
  exact denF_sound mixed Tryz.func70 h

end Go.Gx.S
-- 29 14 49 23 24 35 34 70
end

section
/- What the functions of this program ask. -/
set_option linter.unusedVariables false
set_option maxRecDepth 100000
namespace Go.Gx.S
open Go Go.Gx Go.Proofs
-- (*gemel/vlan.Table).Members
def p30 (P : Program) (K : Value → World → Prop) (x0 : Value) (x1 : Value) : World → Prop :=
  opS P (S.nc x0) fun x2 =>
  opS P (S.fa 122 x2 1) fun x3 =>
  opS P (S.ld 70 x3) fun x4 =>
  opS P (S.len x4) fun x5 =>
  jnJ 1 (fun x6 =>
    K x6
  ) fun j0 =>
  loopJ 2 (fun j1 x6 x7 =>
    opS P (S.binI .lss x7 x5) fun x8 =>
    brn x8 (
      opS P (S.nc x0) fun x9 =>
      opS P (S.fa 122 x9 0) fun x10 =>
      opS P (S.ld 120 x10) fun x11 =>
      opS P (S.build 125 [(0, x1), (1, x7)]) fun x12 =>
      opS P (S.lk 120 x11 x12 true) fun x13 =>
      opS P (S.ext x13 0) fun x14 =>
      opS P (S.ext x13 1) fun x15 =>
      brn x15 (
        opS P (S.buildS 70 1 [(0, x7)]) fun x16 =>
        opS P (S.bi .append #[70, 70] 70 [x6, x16]) fun x17 =>
        opS P (S.binI .add x7 (.int .i64 1)) fun x18 =>
        j1 x17 x18
      ) (
        opS P (S.binI .add x7 (.int .i64 1)) fun x16 =>
        j1 x6 x16
      )
    ) (
      j0 x6
    )
  ) (.slice none 0 0) (.int .i64 0)
instance fnb30 : FnB Tryz.prog 30 := ⟨Tryz.call30⟩
theorem e30 : p30 Tryz.prog = fun K x0 x1 => denF Tryz.prog Tryz.f30 [x0, x1] K := by kernel_rfl
theorem c30 {K : Value → World → Prop} {x0 x1 : Value} {w : World} (h : p30 Tryz.prog K x0 x1 w) : CallsR Tryz.prog 30 #[x0, x1] K w := by
  rw [e30] at h
  exact denF_sound mixed Tryz.func30 h

-- gemel/gemelref07.SameInts
def p31 (P : Program) (K : Value → World → Prop) (x0 : Value) (x1 : Value) : World → Prop :=
  opS P (S.len x0) fun x2 =>
  opS P (S.len x1) fun x3 =>
  opS P (S.binI .neq x2 x3) fun x4 =>
  brn x4 (
    K (.bool false)
  ) (
    jnJ 0 (
      K (.bool true)
    ) fun j0 =>
    loopJ 1 (fun j1 x5 =>
      opS P (S.len x0) fun x6 =>
      opS P (S.binI .lss x5 x6) fun x7 =>
      brn x7 (
        drw <|
        opS P (S.ia 70 x0 x5) fun x8 =>
        opS P (S.ld 3 x8) fun x9 =>
        opS P (S.ia 70 x1 x5) fun x10 =>
        opS P (S.ld 3 x10) fun x11 =>
        opS P (S.binI .neq x9 x11) fun x12 =>
        brn x12 (
          K (.bool false)
        ) (
          opS P (S.binI .add x5 (.int .i64 1)) fun x13 =>
          j1 x13
        )
      ) (
        j0
      )
    ) (.int .i64 0)
  )
instance fnb31 : FnB Tryz.prog 31 := ⟨Tryz.call31⟩
theorem e31 : p31 Tryz.prog = fun K x0 x1 => denF Tryz.prog Tryz.f31 [x0, x1] K := by kernel_rfl
theorem c31 {K : Value → World → Prop} {x0 x1 : Value} {w : World} (h : p31 Tryz.prog K x0 x1 w) : CallsR Tryz.prog 31 #[x0, x1] K w := by
  rw [e31] at h
  exact denF_sound mixed Tryz.func31 h

-- gemel/gemelref02.Same
def p40 (P : Program) (K : Value → World → Prop) (x0 : Value) (x1 : Value) : World → Prop :=
  opS P (S.box 27 x0) fun x2 =>
  opS P (S.box 27 x1) fun x3 =>
  opS P (S.fa 27 x2 0) fun x4 =>
  opS P (S.ld 24 x4) fun x5 =>
  opS P (S.fa 27 x3 0) fun x6 =>
  opS P (S.ld 24 x6) fun x7 =>
  opS P (S.binG .eql 24 x5 x7) fun x8 =>
  brn x8 (
    opS P (S.fa 27 x2 1) fun x9 =>
    opS P (S.ld 24 x9) fun x10 =>
    opS P (S.fa 27 x3 1) fun x11 =>
    opS P (S.ld 24 x11) fun x12 =>
    opS P (S.binG .eql 24 x10 x12) fun x13 =>
    brn x13 (
      opS P (S.fa 27 x2 2) fun x14 =>
      opS P (S.ld 4 x14) fun x15 =>
      opS P (S.fa 27 x3 2) fun x16 =>
      opS P (S.ld 4 x16) fun x17 =>
      opS P (S.binB .eql x15 x17) fun x18 =>
      brn x18 (
        opS P (S.fa 27 x2 3) fun x19 =>
        opS P (S.ld 3 x19) fun x20 =>
        opS P (S.fa 27 x3 3) fun x21 =>
        opS P (S.ld 3 x21) fun x22 =>
        opS P (S.binI .eql x20 x22) fun x23 =>
        brn x23 (
          opS P (S.fa 27 x2 4) fun x24 =>
          opS P (S.ld 3 x24) fun x25 =>
          opS P (S.fa 27 x3 4) fun x26 =>
          opS P (S.ld 3 x26) fun x27 =>
          opS P (S.binI .eql x25 x27) fun x28 =>
          brn x28 (
            opS P (S.fa 27 x2 5) fun x29 =>
            opS P (S.ld 3 x29) fun x30 =>
            opS P (S.fa 27 x3 5) fun x31 =>
            opS P (S.ld 3 x31) fun x32 =>
            opS P (S.binI .eql x30 x32) fun x33 =>
            brn x33 (
              opS P (S.fa 27 x2 6) fun x34 =>
              opS P (S.ld 25 x34) fun x35 =>
              opS P (S.conv 25 9 x35) fun x36 =>
              opS P (S.fa 27 x3 6) fun x37 =>
              opS P (S.ld 25 x37) fun x38 =>
              opS P (S.conv 25 9 x38) fun x39 =>
              opS P (S.binS .eql x36 x39) fun x40 =>
              K x40
            ) (
              K (.bool false)
            )
          ) (
            K (.bool false)
          )
        ) (
          K (.bool false)
        )
      ) (
        K (.bool false)
      )
    ) (
      K (.bool false)
    )
  ) (
    K (.bool false)
  )
instance fnb40 : FnB Tryz.prog 40 := ⟨Tryz.call40⟩
theorem e40 : p40 Tryz.prog = fun K x0 x1 => denF Tryz.prog Tryz.f40 [x0, x1] K := by kernel_rfl
theorem c40 {K : Value → World → Prop} {x0 x1 : Value} {w : World} (h : p40 Tryz.prog K x0 x1 w) : CallsR Tryz.prog 40 #[x0, x1] K w := by
  rw [e40] at h
  exact denF_sound mixed Tryz.func40 h

-- gemel/vlan.New
def p50 (P : Program) (K : Value → World → Prop) (x0 : Value) : World → Prop :=
  opS P (S.binI .lss x0 (.int .i64 1)) fun x1 =>
  brn x1 (
    K (.tuple #[(.pointer none), (.int .i64 1)])
  ) (
    opS P (S.binI .gtr x0 (.int .i64 64)) fun x2 =>
    brn x2 (
      K (.tuple #[(.pointer none), (.int .i64 1)])
    ) (
      opS P (S.mkm 120 none) fun x3 =>
      opS P (S.mks 70 x0 x0) fun x4 =>
      opS P (S.build 122 [(0, x3), (1, x4)]) fun x5 =>
      opS P (S.box 122 x5) fun x6 =>
      K (.tuple #[x6, (.int .i64 0)])
    )
  )
instance fnb50 : FnB Tryz.prog 50 := ⟨Tryz.call50⟩
theorem e50 : p50 Tryz.prog = fun K x0 => denF Tryz.prog Tryz.f50 [x0] K := by kernel_rfl
theorem c50 {K : Value → World → Prop} {x0 : Value} {w : World} (h : p50 Tryz.prog K x0 w) : CallsR Tryz.prog 50 #[x0] K w := by
  rw [e50] at h
  exact denF_sound mixed Tryz.func50 h

-- gemel/gemelref07.New
def p53 (P : Program) (K : Value → World → Prop) (x0 : Value) : World → Prop :=
  opS P (S.binI .lss x0 (.int .i64 1)) fun x1 =>
  brn x1 (
    K (.tuple #[(.pointer none), (.int .i64 1)])
  ) (
    opS P (S.binI .gtr x0 (.int .i64 64)) fun x2 =>
    brn x2 (
      K (.tuple #[(.pointer none), (.int .i64 1)])
    ) (
      opS P (S.mks 70 x0 x0) fun x3 =>
      opS P (S.build 141 [(0, x0), (2, x3)]) fun x4 =>
      opS P (S.box 141 x4) fun x5 =>
      K (.tuple #[x5, (.int .i64 0)])
    )
  )
instance fnb53 : FnB Tryz.prog 53 := ⟨Tryz.call53⟩
theorem e53 : p53 Tryz.prog = fun K x0 => denF Tryz.prog Tryz.f53 [x0] K := by kernel_rfl
theorem c53 {K : Value → World → Prop} {x0 : Value} {w : World} (h : p53 Tryz.prog K x0 w) : CallsR Tryz.prog 53 #[x0] K w := by
  rw [e53] at h
  exact denF_sound mixed Tryz.func53 h

-- (*gemel/vlan.Table).Add
def p56 (P : Program) (K : Value → World → Prop) (x0 : Value) (x1 : Value) (x2 : Value) (x3 : Value) : World → Prop :=
  opS P (S.cl 85 [x0, x1, x2]) fun x4 =>
  opS P (S.un .not x4) fun x5 =>
  brn x5 (
    K (.int .i64 1)
  ) (
    opS P (S.nc x0) fun x6 =>
    opS P (S.fa 122 x6 0) fun x7 =>
    opS P (S.ld 120 x7) fun x8 =>
    opS P (S.build 125 [(0, x1), (1, x2)]) fun x9 =>
    opS P (S.mu 120 x8 x9 x3) fun x10 =>
    K (.int .i64 0)
  )
instance fnb56 : FnB Tryz.prog 56 := ⟨Tryz.call56⟩
theorem e56 : p56 Tryz.prog = fun K x0 x1 x2 x3 => denF Tryz.prog Tryz.f56 [x0, x1, x2, x3] K := by kernel_rfl
theorem c56 {K : Value → World → Prop} {x0 x1 x2 x3 : Value} {w : World} (h : p56 Tryz.prog K x0 x1 x2 x3 w) : CallsR Tryz.prog 56 #[x0, x1, x2, x3] K w := by
  rw [e56] at h
  exact denF_sound mixed Tryz.func56 h

-- (*gemel/gemelref07.Table).Add
def p57 (P : Program) (K : Value → World → Prop) (x0 : Value) (x1 : Value) (x2 : Value) (x3 : Value) : World → Prop :=
  opS P (S.cl 86 [x0, x1, x2]) fun x4 =>
  opS P (S.un .not x4) fun x5 =>
  brn x5 (
    K (.int .i64 1)
  ) (
    opS P (S.cl 87 [x0, x1, x2]) fun x6 =>
    opS P (S.binI .geq x6 (.int .i64 0)) fun x7 =>
    brn x7 (
      opS P (S.nc x0) fun x8 =>
      opS P (S.fa 141 x8 1) fun x9 =>
      opS P (S.ld 139 x9) fun x10 =>
      opS P (S.ia 139 x10 x6) fun x11 =>
      opS P (S.fa 144 x11 2) fun x12 =>
      opS P (S.st 4 x12 x3) fun x13 =>
      K (.int .i64 0)
    ) (
      opS P (S.buildS 139 0 []) fun x8 =>
      opS P (S.nc x0) fun x9 =>
      opS P (S.fa 141 x9 1) fun x10 =>
      opS P (S.ld 139 x10) fun x11 =>
      opS P (S.bi .append #[139, 139] 139 [x8, x11]) fun x12 =>
      opS P (S.build 144 [(0, x1), (1, x2), (2, x3)]) fun x13 =>
      opS P (S.buildS 139 1 [(0, x13)]) fun x14 =>
      opS P (S.bi .append #[139, 139] 139 [x12, x14]) fun x15 =>
      opS P (S.nc x0) fun x16 =>
      opS P (S.fa 141 x16 1) fun x17 =>
      opS P (S.st 139 x17 x15) fun x18 =>
      K (.int .i64 0)
    )
  )
instance fnb57 : FnB Tryz.prog 57 := ⟨Tryz.call57⟩
theorem e57 : p57 Tryz.prog = fun K x0 x1 x2 x3 => denF Tryz.prog Tryz.f57 [x0, x1, x2, x3] K := by kernel_rfl
theorem c57 {K : Value → World → Prop} {x0 x1 x2 x3 : Value} {w : World} (h : p57 Tryz.prog K x0 x1 x2 x3 w) : CallsR Tryz.prog 57 #[x0, x1, x2, x3] K w := by
  rw [e57] at h
  exact denF_sound mixed Tryz.func57 h

-- (*gemel/vlan.Table).Native
def p58 (P : Program) (K : Value → World → Prop) (x0 : Value) (x1 : Value) (x2 : Value) : World → Prop :=
  opS P (S.cl 88 [x0, x1]) fun x3 =>
  opS P (S.un .not x3) fun x4 =>
  brn x4 (
    K (.int .i64 1)
  ) (
    opS P (S.binI .lss x2 (.int .i64 0)) fun x5 =>
    brn x5 (
      K (.int .i64 1)
    ) (
      opS P (S.binI .gtr x2 (.int .i64 4094)) fun x6 =>
      brn x6 (
        K (.int .i64 1)
      ) (
        opS P (S.nc x0) fun x7 =>
        opS P (S.fa 122 x7 1) fun x8 =>
        opS P (S.ld 70 x8) fun x9 =>
        opS P (S.ia 70 x9 x1) fun x10 =>
        opS P (S.st 3 x10 x2) fun x11 =>
        K (.int .i64 0)
      )
    )
  )
instance fnb58 : FnB Tryz.prog 58 := ⟨Tryz.call58⟩
theorem e58 : p58 Tryz.prog = fun K x0 x1 x2 => denF Tryz.prog Tryz.f58 [x0, x1, x2] K := by kernel_rfl
theorem c58 {K : Value → World → Prop} {x0 x1 x2 : Value} {w : World} (h : p58 Tryz.prog K x0 x1 x2 w) : CallsR Tryz.prog 58 #[x0, x1, x2] K w := by
  rw [e58] at h
  exact denF_sound mixed Tryz.func58 h

-- (*gemel/gemelref07.Table).Native
def p59 (P : Program) (K : Value → World → Prop) (x0 : Value) (x1 : Value) (x2 : Value) : World → Prop :=
  opS P (S.binI .lss x1 (.int .i64 0)) fun x3 =>
  brn x3 (
    K (.int .i64 1)
  ) (
    opS P (S.nc x0) fun x4 =>
    opS P (S.fa 141 x4 0) fun x5 =>
    opS P (S.ld 3 x5) fun x6 =>
    opS P (S.binI .geq x1 x6) fun x7 =>
    brn x7 (
      K (.int .i64 1)
    ) (
      opS P (S.binI .lss x2 (.int .i64 0)) fun x8 =>
      brn x8 (
        K (.int .i64 1)
      ) (
        opS P (S.binI .gtr x2 (.int .i64 4094)) fun x9 =>
        brn x9 (
          K (.int .i64 1)
        ) (
          opS P (S.nc x0) fun x10 =>
          opS P (S.fa 141 x10 2) fun x11 =>
          opS P (S.ld 70 x11) fun x12 =>
          opS P (S.ia 70 x12 x1) fun x13 =>
          opS P (S.st 3 x13 x2) fun x14 =>
          K (.int .i64 0)
        )
      )
    )
  )
instance fnb59 : FnB Tryz.prog 59 := ⟨Tryz.call59⟩
theorem e59 : p59 Tryz.prog = fun K x0 x1 x2 => denF Tryz.prog Tryz.f59 [x0, x1, x2] K := by kernel_rfl
theorem c59 {K : Value → World → Prop} {x0 x1 x2 : Value} {w : World} (h : p59 Tryz.prog K x0 x1 x2 w) : CallsR Tryz.prog 59 #[x0, x1, x2] K w := by
  rw [e59] at h
  exact denF_sound mixed Tryz.func59 h

-- (*gemel/vlan.Table).Remove
def p60 (P : Program) (K : Value → World → Prop) (x0 : Value) (x1 : Value) (x2 : Value) : World → Prop :=
  opS P (S.cl 85 [x0, x1, x2]) fun x3 =>
  opS P (S.un .not x3) fun x4 =>
  brn x4 (
    K (.int .i64 1)
  ) (
    opS P (S.nc x0) fun x5 =>
    opS P (S.fa 122 x5 0) fun x6 =>
    opS P (S.ld 120 x6) fun x7 =>
    opS P (S.build 125 [(0, x1), (1, x2)]) fun x8 =>
    opS P (S.lk 120 x7 x8 true) fun x9 =>
    opS P (S.ext x9 0) fun x10 =>
    opS P (S.ext x9 1) fun x11 =>
    opS P (S.un .not x11) fun x12 =>
    brn x12 (
      K (.int .i64 4)
    ) (
      opS P (S.nc x0) fun x13 =>
      opS P (S.fa 122 x13 0) fun x14 =>
      opS P (S.ld 120 x14) fun x15 =>
      opS P (S.build 125 [(0, x1), (1, x2)]) fun x16 =>
      opS P (S.bi .delete #[120, 125] 0 [x15, x16]) fun x17 =>
      K (.int .i64 0)
    )
  )
instance fnb60 : FnB Tryz.prog 60 := ⟨Tryz.call60⟩
theorem e60 : p60 Tryz.prog = fun K x0 x1 x2 => denF Tryz.prog Tryz.f60 [x0, x1, x2] K := by kernel_rfl
theorem c60 {K : Value → World → Prop} {x0 x1 x2 : Value} {w : World} (h : p60 Tryz.prog K x0 x1 x2 w) : CallsR Tryz.prog 60 #[x0, x1, x2] K w := by
  rw [e60] at h
  exact denF_sound mixed Tryz.func60 h

-- (*gemel/gemelref07.Table).Remove
def p61 (P : Program) (K : Value → World → Prop) (x0 : Value) (x1 : Value) (x2 : Value) : World → Prop :=
  opS P (S.cl 86 [x0, x1, x2]) fun x3 =>
  opS P (S.un .not x3) fun x4 =>
  brn x4 (
    K (.int .i64 1)
  ) (
    opS P (S.cl 87 [x0, x1, x2]) fun x5 =>
    opS P (S.binI .lss x5 (.int .i64 0)) fun x6 =>
    brn x6 (
      K (.int .i64 4)
    ) (
      drw <|
      opS P (S.nc x0) fun x7 =>
      opS P (S.fa 141 x7 1) fun x8 =>
      opS P (S.nc x0) fun x9 =>
      opS P (S.fa 141 x9 1) fun x10 =>
      opS P (S.binI .add x5 (.int .i64 1)) fun x11 =>
      allW (
        opS P (S.buildS 139 0 []) fun x12 =>
        opS P (S.ld 139 x8) fun x13 =>
        opS P (S.slc 139 x13 none (some x5) none) fun x14 =>
        allW (
          opS P (S.bi .append #[139, 139] 139 [x12, x14]) fun x15 =>
          opS P (S.ld 139 x10) fun x16 =>
          opS P (S.slc 139 x16 (some x11) none none) fun x17 =>
          opS P (S.bi .append #[139, 139] 139 [x15, x17]) fun x18 =>
          opS P (S.nc x0) fun x19 =>
          opS P (S.fa 141 x19 1) fun x20 =>
          opS P (S.st 139 x20 x18) fun x21 =>
          K (.int .i64 0)
        ) (
          opS P (S.ld 139 x10) fun x15 =>
          opS P (S.bi .append #[139, 139] 139 [x12, x14]) fun x16 =>
          opS P (S.slc 139 x15 (some x11) none none) fun x17 =>
          opS P (S.bi .append #[139, 139] 139 [x16, x17]) fun x18 =>
          opS P (S.nc x0) fun x19 =>
          opS P (S.fa 141 x19 1) fun x20 =>
          opS P (S.st 139 x20 x18) fun x21 =>
          K (.int .i64 0)
        )
      ) (
        allW (
          opS P (S.ld 139 x8) fun x12 =>
          opS P (S.slc 139 x12 none (some x5) none) fun x13 =>
          allW (
            opS P (S.buildS 139 0 []) fun x14 =>
            allW (
              opS P (S.bi .append #[139, 139] 139 [x14, x13]) fun x15 =>
              opS P (S.ld 139 x10) fun x16 =>
              opS P (S.slc 139 x16 (some x11) none none) fun x17 =>
              opS P (S.bi .append #[139, 139] 139 [x15, x17]) fun x18 =>
              opS P (S.nc x0) fun x19 =>
              opS P (S.fa 141 x19 1) fun x20 =>
              opS P (S.st 139 x20 x18) fun x21 =>
              K (.int .i64 0)
            ) (
              opS P (S.ld 139 x10) fun x15 =>
              opS P (S.bi .append #[139, 139] 139 [x14, x13]) fun x16 =>
              opS P (S.slc 139 x15 (some x11) none none) fun x17 =>
              opS P (S.bi .append #[139, 139] 139 [x16, x17]) fun x18 =>
              opS P (S.nc x0) fun x19 =>
              opS P (S.fa 141 x19 1) fun x20 =>
              opS P (S.st 139 x20 x18) fun x21 =>
              K (.int .i64 0)
            )
          ) (
            opS P (S.ld 139 x10) fun x14 =>
            opS P (S.buildS 139 0 []) fun x15 =>
            opS P (S.bi .append #[139, 139] 139 [x15, x13]) fun x16 =>
            opS P (S.slc 139 x14 (some x11) none none) fun x17 =>
            opS P (S.bi .append #[139, 139] 139 [x16, x17]) fun x18 =>
            opS P (S.nc x0) fun x19 =>
            opS P (S.fa 141 x19 1) fun x20 =>
            opS P (S.st 139 x20 x18) fun x21 =>
            K (.int .i64 0)
          )
        ) (
          opS P (S.ld 139 x10) fun x12 =>
          opS P (S.slc 139 x12 (some x11) none none) fun x13 =>
          allW (
            opS P (S.buildS 139 0 []) fun x14 =>
            opS P (S.ld 139 x8) fun x15 =>
            opS P (S.slc 139 x15 none (some x5) none) fun x16 =>
            opS P (S.bi .append #[139, 139] 139 [x14, x16]) fun x17 =>
            opS P (S.bi .append #[139, 139] 139 [x17, x13]) fun x18 =>
            opS P (S.nc x0) fun x19 =>
            opS P (S.fa 141 x19 1) fun x20 =>
            opS P (S.st 139 x20 x18) fun x21 =>
            K (.int .i64 0)
          ) (
            opS P (S.ld 139 x8) fun x14 =>
            opS P (S.buildS 139 0 []) fun x15 =>
            opS P (S.slc 139 x14 none (some x5) none) fun x16 =>
            opS P (S.bi .append #[139, 139] 139 [x15, x16]) fun x17 =>
            opS P (S.bi .append #[139, 139] 139 [x17, x13]) fun x18 =>
            opS P (S.nc x0) fun x19 =>
            opS P (S.fa 141 x19 1) fun x20 =>
            opS P (S.st 139 x20 x18) fun x21 =>
            K (.int .i64 0)
          )
        )
      )
    )
  )
instance fnb61 : FnB Tryz.prog 61 := ⟨Tryz.call61⟩
theorem e61 : p61 Tryz.prog = fun K x0 x1 x2 => denF Tryz.prog Tryz.f61 [x0, x1, x2] K := by kernel_rfl
theorem c61 {K : Value → World → Prop} {x0 x1 x2 : Value} {w : World} (h : p61 Tryz.prog K x0 x1 x2 w) : CallsR Tryz.prog 61 #[x0, x1, x2] K w := by
  rw [e61] at h
  exact denF_sound mixed Tryz.func61 h

-- gemel/ether.Right
def p69 (P : Program) (K : Value → World → Prop) (x0 : Value) : World → Prop :=
  opS P (S.box 27 x0) fun x1 =>
  opS P (S.fa 27 x1 5) fun x2 =>
  opS P (S.ld 3 x2) fun x3 =>
  opS P (S.binI .lss x3 (.int .i64 1536)) fun x4 =>
  brn x4 (
    K (.bool false)
  ) (
    opS P (S.fa 27 x1 5) fun x5 =>
    opS P (S.ld 3 x5) fun x6 =>
    opS P (S.binI .gtr x6 (.int .i64 65535)) fun x7 =>
    brn x7 (
      K (.bool false)
    ) (
      opS P (S.fa 27 x1 5) fun x8 =>
      opS P (S.ld 3 x8) fun x9 =>
      opS P (S.binI .eql x9 (.int .i64 33024)) fun x10 =>
      brn x10 (
        K (.bool false)
      ) (
        opS P (S.fa 27 x1 6) fun x11 =>
        opS P (S.ld 25 x11) fun x12 =>
        opS P (S.len x12) fun x13 =>
        opS P (S.binI .gtr x13 (.int .i64 1500)) fun x14 =>
        brn x14 (
          K (.bool false)
        ) (
          opS P (S.fa 27 x1 2) fun x15 =>
          opS P (S.ld 4 x15) fun x16 =>
          opS P (S.un .not x16) fun x17 =>
          brn x17 (
            jnJ 1 (fun x18 =>
              K x18
            ) fun j0 =>
            opS P (S.fa 27 x1 3) fun x18 =>
            opS P (S.ld 3 x18) fun x19 =>
            opS P (S.binI .eql x19 (.int .i64 0)) fun x20 =>
            brn x20 (
              opS P (S.fa 27 x1 4) fun x21 =>
              opS P (S.ld 3 x21) fun x22 =>
              opS P (S.binI .eql x22 (.int .i64 0)) fun x23 =>
              j0 x23
            ) (
              j0 (.bool false)
            )
          ) (
            opS P (S.fa 27 x1 3) fun x18 =>
            opS P (S.ld 3 x18) fun x19 =>
            opS P (S.binI .geq x19 (.int .i64 0)) fun x20 =>
            brn x20 (
              opS P (S.fa 27 x1 3) fun x21 =>
              opS P (S.ld 3 x21) fun x22 =>
              opS P (S.binI .leq x22 (.int .i64 4094)) fun x23 =>
              brn x23 (
                opS P (S.fa 27 x1 4) fun x24 =>
                opS P (S.ld 3 x24) fun x25 =>
                opS P (S.binI .geq x25 (.int .i64 0)) fun x26 =>
                brn x26 (
                  opS P (S.fa 27 x1 4) fun x27 =>
                  opS P (S.ld 3 x27) fun x28 =>
                  opS P (S.binI .leq x28 (.int .i64 7)) fun x29 =>
                  K x29
                ) (
                  K (.bool false)
                )
              ) (
                K (.bool false)
              )
            ) (
              K (.bool false)
            )
          )
        )
      )
    )
  )
instance fnb69 : FnB Tryz.prog 69 := ⟨Tryz.call69⟩
theorem e69 : p69 Tryz.prog = fun K x0 => denF Tryz.prog Tryz.f69 [x0] K := by kernel_rfl
theorem c69 {K : Value → World → Prop} {x0 : Value} {w : World} (h : p69 Tryz.prog K x0 w) : CallsR Tryz.prog 69 #[x0] K w := by
  rw [e69] at h
  exact denF_sound mixed Tryz.func69 h

-- (*gemel/vlan.Table).In
def p71 (P : Program) (K : Value → World → Prop) (x0 : Value) (x1 : Value) (x2 : Value) : World → Prop :=
  opS P (S.box 27 x2) fun x3 =>
  opS P (S.cl 88 [x0, x1]) fun x4 =>
  opS P (S.un .not x4) fun x5 =>
  brn x5 (
    K (.tuple #[(.int .i64 0), (.int .i64 1)])
  ) (
    opS P (S.ld 27 x3) fun x6 =>
    opS P (S.cl 69 [x6]) fun x7 =>
    opS P (S.un .not x7) fun x8 =>
    brn x8 (
      K (.tuple #[(.int .i64 0), (.int .i64 1)])
    ) (
      opS P (S.fa 27 x3 3) fun x9 =>
      opS P (S.ld 3 x9) fun x10 =>
      jnJ 1 (fun x11 =>
        opS P (S.nc x0) fun x12 =>
        opS P (S.fa 122 x12 0) fun x13 =>
        opS P (S.ld 120 x13) fun x14 =>
        opS P (S.build 125 [(0, x11), (1, x1)]) fun x15 =>
        opS P (S.lk 120 x14 x15 true) fun x16 =>
        opS P (S.ext x16 0) fun x17 =>
        opS P (S.ext x16 1) fun x18 =>
        opS P (S.un .not x18) fun x19 =>
        brn x19 (
          K (.tuple #[(.int .i64 0), (.int .i64 4)])
        ) (
          K (.tuple #[x11, (.int .i64 0)])
        )
      ) fun j0 =>
      opS P (S.binI .eql x10 (.int .i64 0)) fun x11 =>
      brn x11 (
        opS P (S.nc x0) fun x12 =>
        opS P (S.fa 122 x12 1) fun x13 =>
        opS P (S.ld 70 x13) fun x14 =>
        opS P (S.ia 70 x14 x1) fun x15 =>
        opS P (S.ld 3 x15) fun x16 =>
        j0 x16
      ) (
        j0 x10
      )
    )
  )
instance fnb71 : FnB Tryz.prog 71 := ⟨Tryz.call71⟩
theorem e71 : p71 Tryz.prog = fun K x0 x1 x2 => denF Tryz.prog Tryz.f71 [x0, x1, x2] K := by kernel_rfl
theorem c71 {K : Value → World → Prop} {x0 x1 x2 : Value} {w : World} (h : p71 Tryz.prog K x0 x1 x2 w) : CallsR Tryz.prog 71 #[x0, x1, x2] K w := by
  rw [e71] at h
  exact denF_sound mixed Tryz.func71 h

-- (*gemel/vlan.Table).Out
def p77 (P : Program) (K : Value → World → Prop) (x0 : Value) (x1 : Value) (x2 : Value) (x3 : Value) : World → Prop :=
  opS P (S.box 27 x3) fun x4 =>
  opS P (S.alloc 27) fun x5 =>
  opS P (S.cl 85 [x0, x1, x2]) fun x6 =>
  opS P (S.un .not x6) fun x7 =>
  brn x7 (
    opS P (S.build 27 []) fun x8 =>
    opS P (S.st 27 x5 x8) fun x9 =>
    opS P (S.ld 27 x5) fun x10 =>
    K (.tuple #[x10, (.int .i64 1)])
  ) (
    opS P (S.ld 27 x4) fun x8 =>
    opS P (S.cl 69 [x8]) fun x9 =>
    opS P (S.un .not x9) fun x10 =>
    brn x10 (
      opS P (S.build 27 []) fun x11 =>
      opS P (S.st 27 x5 x11) fun x12 =>
      opS P (S.ld 27 x5) fun x13 =>
      K (.tuple #[x13, (.int .i64 1)])
    ) (
      opS P (S.nc x0) fun x11 =>
      opS P (S.fa 122 x11 0) fun x12 =>
      opS P (S.ld 120 x12) fun x13 =>
      opS P (S.build 125 [(0, x1), (1, x2)]) fun x14 =>
      opS P (S.lk 120 x13 x14 true) fun x15 =>
      opS P (S.ext x15 0) fun x16 =>
      opS P (S.ext x15 1) fun x17 =>
      opS P (S.un .not x17) fun x18 =>
      brn x18 (
        opS P (S.build 27 []) fun x19 =>
        opS P (S.st 27 x5 x19) fun x20 =>
        opS P (S.ld 27 x5) fun x21 =>
        K (.tuple #[x21, (.int .i64 4)])
      ) (
        brn x16 (
          opS P (S.ld 27 x4) fun x19 =>
          opS P (S.fa 27 x4 4) fun x20 =>
          opS P (S.ld 3 x20) fun x21 =>
          opS P (S.cl 100 [x19, x1, x21]) fun x22 =>
          opS P (S.ext x22 0) fun x23 =>
          opS P (S.ext x22 1) fun x24 =>
          opS P (S.st 27 x5 x23) fun x25 =>
          opS P (S.ld 27 x5) fun x26 =>
          K (.tuple #[x26, x24])
        ) (
          opS P (S.ld 27 x4) fun x19 =>
          opS P (S.cl 101 [x19]) fun x20 =>
          opS P (S.st 27 x5 x20) fun x21 =>
          opS P (S.ld 27 x5) fun x22 =>
          K (.tuple #[x22, (.int .i64 0)])
        )
      )
    )
  )
instance fnb77 : FnB Tryz.prog 77 := ⟨Tryz.call77⟩
theorem e77 : p77 Tryz.prog = fun K x0 x1 x2 x3 => denF Tryz.prog Tryz.f77 [x0, x1, x2, x3] K := by kernel_rfl
theorem c77 {K : Value → World → Prop} {x0 x1 x2 x3 : Value} {w : World} (h : p77 Tryz.prog K x0 x1 x2 x3 w) : CallsR Tryz.prog 77 #[x0, x1, x2, x3] K w := by
  rw [e77] at h
  exact denF_sound mixed Tryz.func77 h

-- (*gemel/vlan.Table).right
def p85 (P : Program) (K : Value → World → Prop) (x0 : Value) (x1 : Value) (x2 : Value) : World → Prop :=
  opS P (S.binI .geq x1 (.int .i64 1)) fun x3 =>
  brn x3 (
    opS P (S.binI .leq x1 (.int .i64 4094)) fun x4 =>
    brn x4 (
      opS P (S.cl 88 [x0, x2]) fun x5 =>
      K x5
    ) (
      K (.bool false)
    )
  ) (
    K (.bool false)
  )
instance fnb85 : FnB Tryz.prog 85 := ⟨Tryz.call85⟩
theorem e85 : p85 Tryz.prog = fun K x0 x1 x2 => denF Tryz.prog Tryz.f85 [x0, x1, x2] K := by kernel_rfl
theorem c85 {K : Value → World → Prop} {x0 x1 x2 : Value} {w : World} (h : p85 Tryz.prog K x0 x1 x2 w) : CallsR Tryz.prog 85 #[x0, x1, x2] K w := by
  rw [e85] at h
  exact denF_sound mixed Tryz.func85 h

-- (*gemel/gemelref07.Table).right
def p86 (P : Program) (K : Value → World → Prop) (x0 : Value) (x1 : Value) (x2 : Value) : World → Prop :=
  opS P (S.binI .geq x1 (.int .i64 1)) fun x3 =>
  brn x3 (
    opS P (S.binI .leq x1 (.int .i64 4094)) fun x4 =>
    brn x4 (
      opS P (S.binI .geq x2 (.int .i64 0)) fun x5 =>
      brn x5 (
        opS P (S.nc x0) fun x6 =>
        opS P (S.fa 141 x6 0) fun x7 =>
        opS P (S.ld 3 x7) fun x8 =>
        opS P (S.binI .lss x2 x8) fun x9 =>
        K x9
      ) (
        K (.bool false)
      )
    ) (
      K (.bool false)
    )
  ) (
    K (.bool false)
  )
instance fnb86 : FnB Tryz.prog 86 := ⟨Tryz.call86⟩
theorem e86 : p86 Tryz.prog = fun K x0 x1 x2 => denF Tryz.prog Tryz.f86 [x0, x1, x2] K := by kernel_rfl
theorem c86 {K : Value → World → Prop} {x0 x1 x2 : Value} {w : World} (h : p86 Tryz.prog K x0 x1 x2 w) : CallsR Tryz.prog 86 #[x0, x1, x2] K w := by
  rw [e86] at h
  exact denF_sound mixed Tryz.func86 h

-- (*gemel/gemelref07.Table).Find
def p87 (P : Program) (K : Value → World → Prop) (x0 : Value) (x1 : Value) (x2 : Value) : World → Prop :=
  jnJ 0 (
    K (.int .i64 (-1))
  ) fun j0 =>
  loopJ 1 (fun j1 x3 =>
    opS P (S.nc x0) fun x4 =>
    opS P (S.fa 141 x4 1) fun x5 =>
    opS P (S.ld 139 x5) fun x6 =>
    opS P (S.len x6) fun x7 =>
    opS P (S.binI .lss x3 x7) fun x8 =>
    brn x8 (
      opS P (S.nc x0) fun x9 =>
      opS P (S.fa 141 x9 1) fun x10 =>
      opS P (S.ld 139 x10) fun x11 =>
      opS P (S.ia 139 x11 x3) fun x12 =>
      opS P (S.fa 144 x12 0) fun x13 =>
      opS P (S.ld 3 x13) fun x14 =>
      opS P (S.binI .eql x14 x1) fun x15 =>
      brn x15 (
        opS P (S.nc x0) fun x16 =>
        opS P (S.fa 141 x16 1) fun x17 =>
        opS P (S.ld 139 x17) fun x18 =>
        opS P (S.ia 139 x18 x3) fun x19 =>
        opS P (S.fa 144 x19 1) fun x20 =>
        opS P (S.ld 3 x20) fun x21 =>
        opS P (S.binI .eql x21 x2) fun x22 =>
        brn x22 (
          K x3
        ) (
          opS P (S.binI .add x3 (.int .i64 1)) fun x23 =>
          j1 x23
        )
      ) (
        opS P (S.binI .add x3 (.int .i64 1)) fun x16 =>
        j1 x16
      )
    ) (
      j0
    )
  ) (.int .i64 0)
instance fnb87 : FnB Tryz.prog 87 := ⟨Tryz.call87⟩
theorem e87 : p87 Tryz.prog = fun K x0 x1 x2 => denF Tryz.prog Tryz.f87 [x0, x1, x2] K := by kernel_rfl
theorem c87 {K : Value → World → Prop} {x0 x1 x2 : Value} {w : World} (h : p87 Tryz.prog K x0 x1 x2 w) : CallsR Tryz.prog 87 #[x0, x1, x2] K w := by
  rw [e87] at h
  exact denF_sound mixed Tryz.func87 h

-- (*gemel/vlan.Table).port
def p88 (P : Program) (K : Value → World → Prop) (x0 : Value) (x1 : Value) : World → Prop :=
  opS P (S.binI .geq x1 (.int .i64 0)) fun x2 =>
  brn x2 (
    opS P (S.nc x0) fun x3 =>
    opS P (S.fa 122 x3 1) fun x4 =>
    opS P (S.ld 70 x4) fun x5 =>
    opS P (S.len x5) fun x6 =>
    opS P (S.binI .lss x1 x6) fun x7 =>
    K x7
  ) (
    K (.bool false)
  )
instance fnb88 : FnB Tryz.prog 88 := ⟨Tryz.call88⟩
theorem e88 : p88 Tryz.prog = fun K x0 x1 => denF Tryz.prog Tryz.f88 [x0, x1] K := by kernel_rfl
theorem c88 {K : Value → World → Prop} {x0 x1 : Value} {w : World} (h : p88 Tryz.prog K x0 x1 w) : CallsR Tryz.prog 88 #[x0, x1] K w := by
  rw [e88] at h
  exact denF_sound mixed Tryz.func88 h

-- (*gemel/gemelref07.Table).Out
def p98 (P : Program) (K : Value → World → Prop) (x0 : Value) (x1 : Value) (x2 : Value) (x3 : Value) : World → Prop :=
  opS P (S.box 27 x3) fun x4 =>
  opS P (S.alloc 27) fun x5 =>
  opS P (S.ld 27 x4) fun x6 =>
  opS P (S.cl 113 [x6]) fun x7 =>
  opS P (S.cl 86 [x0, x1, x2]) fun x8 =>
  opS P (S.un .not x7) fun x9 =>
  brn x9 (
    opS P (S.build 27 []) fun x10 =>
    opS P (S.st 27 x5 x10) fun x11 =>
    opS P (S.ld 27 x5) fun x12 =>
    K (.tuple #[x12, (.int .i64 1)])
  ) (
    opS P (S.un .not x8) fun x10 =>
    brn x10 (
      opS P (S.build 27 []) fun x11 =>
      opS P (S.st 27 x5 x11) fun x12 =>
      opS P (S.ld 27 x5) fun x13 =>
      K (.tuple #[x13, (.int .i64 1)])
    ) (
      opS P (S.cl 87 [x0, x1, x2]) fun x11 =>
      opS P (S.binI .lss x11 (.int .i64 0)) fun x12 =>
      brn x12 (
        opS P (S.build 27 []) fun x13 =>
        opS P (S.st 27 x5 x13) fun x14 =>
        opS P (S.ld 27 x5) fun x15 =>
        K (.tuple #[x15, (.int .i64 4)])
      ) (
        opS P (S.nc x0) fun x13 =>
        opS P (S.fa 141 x13 1) fun x14 =>
        opS P (S.ld 139 x14) fun x15 =>
        opS P (S.ia 139 x15 x11) fun x16 =>
        opS P (S.fa 144 x16 2) fun x17 =>
        opS P (S.ld 4 x17) fun x18 =>
        brn x18 (
          opS P (S.ld 27 x4) fun x19 =>
          opS P (S.fa 27 x4 4) fun x20 =>
          opS P (S.ld 3 x20) fun x21 =>
          opS P (S.cl 121 [x19, x1, x21]) fun x22 =>
          opS P (S.ext x22 0) fun x23 =>
          opS P (S.ext x22 1) fun x24 =>
          opS P (S.alloc 27) fun x25 =>
          opS P (S.st 27 x25 x23) fun x26 =>
          opS P (S.ld 27 x25) fun x27 =>
          opS P (S.st 27 x5 x27) fun x28 =>
          opS P (S.ld 27 x5) fun x29 =>
          K (.tuple #[x29, (.int .i64 0)])
        ) (
          opS P (S.ld 27 x4) fun x19 =>
          opS P (S.cl 122 [x19]) fun x20 =>
          opS P (S.st 27 x5 x20) fun x21 =>
          opS P (S.ld 27 x5) fun x22 =>
          K (.tuple #[x22, (.int .i64 0)])
        )
      )
    )
  )
instance fnb98 : FnB Tryz.prog 98 := ⟨Tryz.call98⟩
theorem e98 : p98 Tryz.prog = fun K x0 x1 x2 x3 => denF Tryz.prog Tryz.f98 [x0, x1, x2, x3] K := by kernel_rfl
theorem c98 {K : Value → World → Prop} {x0 x1 x2 x3 : Value} {w : World} (h : p98 Tryz.prog K x0 x1 x2 x3 w) : CallsR Tryz.prog 98 #[x0, x1, x2, x3] K w := by
  rw [e98] at h
  exact denF_sound mixed Tryz.func98 h

-- gemel/ether.Tag
def p100 (P : Program) (K : Value → World → Prop) (x0 : Value) (x1 : Value) (x2 : Value) : World → Prop :=
  opS P (S.box 27 x0) fun x3 =>
  opS P (S.alloc 27) fun x4 =>
  opS P (S.fa 27 x3 2) fun x5 =>
  opS P (S.st 4 x5 (.bool true)) fun x6 =>
  opS P (S.fa 27 x3 3) fun x7 =>
  opS P (S.st 3 x7 x1) fun x8 =>
  opS P (S.fa 27 x3 4) fun x9 =>
  opS P (S.st 3 x9 x2) fun x10 =>
  opS P (S.ld 27 x3) fun x11 =>
  opS P (S.cl 69 [x11]) fun x12 =>
  opS P (S.un .not x12) fun x13 =>
  brn x13 (
    opS P (S.build 27 []) fun x14 =>
    opS P (S.st 27 x4 x14) fun x15 =>
    opS P (S.ld 27 x4) fun x16 =>
    K (.tuple #[x16, (.int .i64 1)])
  ) (
    opS P (S.ld 27 x3) fun x14 =>
    opS P (S.st 27 x4 x14) fun x15 =>
    opS P (S.ld 27 x4) fun x16 =>
    K (.tuple #[x16, (.int .i64 0)])
  )
instance fnb100 : FnB Tryz.prog 100 := ⟨Tryz.call100⟩
theorem e100 : p100 Tryz.prog = fun K x0 x1 x2 => denF Tryz.prog Tryz.f100 [x0, x1, x2] K := by kernel_rfl
theorem c100 {K : Value → World → Prop} {x0 x1 x2 : Value} {w : World} (h : p100 Tryz.prog K x0 x1 x2 w) : CallsR Tryz.prog 100 #[x0, x1, x2] K w := by
  rw [e100] at h
  exact denF_sound mixed Tryz.func100 h

-- gemel/ether.Untag
def p101 (P : Program) (K : Value → World → Prop) (x0 : Value) : World → Prop :=
  opS P (S.box 27 x0) fun x1 =>
  opS P (S.alloc 27) fun x2 =>
  opS P (S.fa 27 x1 2) fun x3 =>
  opS P (S.st 4 x3 (.bool false)) fun x4 =>
  opS P (S.fa 27 x1 3) fun x5 =>
  opS P (S.st 3 x5 (.int .i64 0)) fun x6 =>
  opS P (S.fa 27 x1 4) fun x7 =>
  opS P (S.st 3 x7 (.int .i64 0)) fun x8 =>
  opS P (S.ld 27 x1) fun x9 =>
  opS P (S.st 27 x2 x9) fun x10 =>
  opS P (S.ld 27 x2) fun x11 =>
  K x11
instance fnb101 : FnB Tryz.prog 101 := ⟨Tryz.call101⟩
theorem e101 : p101 Tryz.prog = fun K x0 => denF Tryz.prog Tryz.f101 [x0] K := by kernel_rfl
theorem c101 {K : Value → World → Prop} {x0 : Value} {w : World} (h : p101 Tryz.prog K x0 w) : CallsR Tryz.prog 101 #[x0] K w := by
  rw [e101] at h
  exact denF_sound mixed Tryz.func101 h

-- gemel/gemelref02.Right
def p113 (P : Program) (K : Value → World → Prop) (x0 : Value) : World → Prop :=
  opS P (S.box 27 x0) fun x1 =>
  opS P (S.fa 27 x1 5) fun x2 =>
  opS P (S.ld 3 x2) fun x3 =>
  opS P (S.binI .lss x3 (.int .i64 1536)) fun x4 =>
  brn x4 (
    K (.bool false)
  ) (
    opS P (S.fa 27 x1 5) fun x5 =>
    opS P (S.ld 3 x5) fun x6 =>
    opS P (S.binI .gtr x6 (.int .i64 65535)) fun x7 =>
    brn x7 (
      K (.bool false)
    ) (
      opS P (S.fa 27 x1 5) fun x8 =>
      opS P (S.ld 3 x8) fun x9 =>
      opS P (S.binI .eql x9 (.int .i64 33024)) fun x10 =>
      brn x10 (
        K (.bool false)
      ) (
        opS P (S.fa 27 x1 6) fun x11 =>
        opS P (S.ld 25 x11) fun x12 =>
        opS P (S.len x12) fun x13 =>
        opS P (S.binI .gtr x13 (.int .i64 1500)) fun x14 =>
        brn x14 (
          K (.bool false)
        ) (
          opS P (S.fa 27 x1 2) fun x15 =>
          opS P (S.ld 4 x15) fun x16 =>
          opS P (S.un .not x16) fun x17 =>
          brn x17 (
            jnJ 1 (fun x18 =>
              K x18
            ) fun j0 =>
            opS P (S.fa 27 x1 3) fun x18 =>
            opS P (S.ld 3 x18) fun x19 =>
            opS P (S.binI .eql x19 (.int .i64 0)) fun x20 =>
            brn x20 (
              opS P (S.fa 27 x1 4) fun x21 =>
              opS P (S.ld 3 x21) fun x22 =>
              opS P (S.binI .eql x22 (.int .i64 0)) fun x23 =>
              j0 x23
            ) (
              j0 (.bool false)
            )
          ) (
            opS P (S.fa 27 x1 3) fun x18 =>
            opS P (S.ld 3 x18) fun x19 =>
            opS P (S.binI .geq x19 (.int .i64 0)) fun x20 =>
            brn x20 (
              opS P (S.fa 27 x1 3) fun x21 =>
              opS P (S.ld 3 x21) fun x22 =>
              opS P (S.binI .leq x22 (.int .i64 4094)) fun x23 =>
              brn x23 (
                opS P (S.fa 27 x1 4) fun x24 =>
                opS P (S.ld 3 x24) fun x25 =>
                opS P (S.binI .geq x25 (.int .i64 0)) fun x26 =>
                brn x26 (
                  opS P (S.fa 27 x1 4) fun x27 =>
                  opS P (S.ld 3 x27) fun x28 =>
                  opS P (S.binI .leq x28 (.int .i64 7)) fun x29 =>
                  K x29
                ) (
                  K (.bool false)
                )
              ) (
                K (.bool false)
              )
            ) (
              K (.bool false)
            )
          )
        )
      )
    )
  )
instance fnb113 : FnB Tryz.prog 113 := ⟨Tryz.call113⟩
theorem e113 : p113 Tryz.prog = fun K x0 => denF Tryz.prog Tryz.f113 [x0] K := by kernel_rfl
theorem c113 {K : Value → World → Prop} {x0 : Value} {w : World} (h : p113 Tryz.prog K x0 w) : CallsR Tryz.prog 113 #[x0] K w := by
  rw [e113] at h
  exact denF_sound mixed Tryz.func113 h

-- (*gemel/gemelref07.Table).In
def p115 (P : Program) (K : Value → World → Prop) (x0 : Value) (x1 : Value) (x2 : Value) : World → Prop :=
  opS P (S.box 27 x2) fun x3 =>
  opS P (S.ld 27 x3) fun x4 =>
  opS P (S.cl 113 [x4]) fun x5 =>
  opS P (S.un .not x5) fun x6 =>
  brn x6 (
    K (.tuple #[(.int .i64 0), (.int .i64 1)])
  ) (
    opS P (S.binI .lss x1 (.int .i64 0)) fun x7 =>
    brn x7 (
      K (.tuple #[(.int .i64 0), (.int .i64 1)])
    ) (
      opS P (S.nc x0) fun x8 =>
      opS P (S.fa 141 x8 0) fun x9 =>
      opS P (S.ld 3 x9) fun x10 =>
      opS P (S.binI .geq x1 x10) fun x11 =>
      brn x11 (
        K (.tuple #[(.int .i64 0), (.int .i64 1)])
      ) (
        opS P (S.nc x0) fun x12 =>
        opS P (S.fa 141 x12 2) fun x13 =>
        opS P (S.ld 70 x13) fun x14 =>
        opS P (S.ia 70 x14 x1) fun x15 =>
        opS P (S.ld 3 x15) fun x16 =>
        jnJ 1 (fun x17 =>
          opS P (S.binI .eql x17 (.int .i64 0)) fun x18 =>
          brn x18 (
            K (.tuple #[(.int .i64 0), (.int .i64 4)])
          ) (
            opS P (S.cl 87 [x0, x17, x1]) fun x19 =>
            opS P (S.binI .lss x19 (.int .i64 0)) fun x20 =>
            brn x20 (
              K (.tuple #[(.int .i64 0), (.int .i64 4)])
            ) (
              K (.tuple #[x17, (.int .i64 0)])
            )
          )
        ) fun j0 =>
        jnJ 0 (
          j0 x16
        ) fun j1 =>
        opS P (S.fa 27 x3 2) fun x17 =>
        opS P (S.ld 4 x17) fun x18 =>
        brn x18 (
          opS P (S.fa 27 x3 3) fun x19 =>
          opS P (S.ld 3 x19) fun x20 =>
          opS P (S.binI .neq x20 (.int .i64 0)) fun x21 =>
          brn x21 (
            opS P (S.fa 27 x3 3) fun x22 =>
            opS P (S.ld 3 x22) fun x23 =>
            j0 x23
          ) (
            j1
          )
        ) (
          j1
        )
      )
    )
  )
instance fnb115 : FnB Tryz.prog 115 := ⟨Tryz.call115⟩
theorem e115 : p115 Tryz.prog = fun K x0 x1 x2 => denF Tryz.prog Tryz.f115 [x0, x1, x2] K := by kernel_rfl
theorem c115 {K : Value → World → Prop} {x0 x1 x2 : Value} {w : World} (h : p115 Tryz.prog K x0 x1 x2 w) : CallsR Tryz.prog 115 #[x0, x1, x2] K w := by
  rw [e115] at h
  exact denF_sound mixed Tryz.func115 h

-- gemel/gemelref02.Tag
def p121 (P : Program) (K : Value → World → Prop) (x0 : Value) (x1 : Value) (x2 : Value) : World → Prop :=
  opS P (S.box 27 x0) fun x3 =>
  opS P (S.alloc 27) fun x4 =>
  opS P (S.fa 27 x3 2) fun x5 =>
  opS P (S.st 4 x5 (.bool true)) fun x6 =>
  opS P (S.fa 27 x3 3) fun x7 =>
  opS P (S.st 3 x7 x1) fun x8 =>
  opS P (S.fa 27 x3 4) fun x9 =>
  opS P (S.st 3 x9 x2) fun x10 =>
  opS P (S.ld 27 x3) fun x11 =>
  opS P (S.cl 113 [x11]) fun x12 =>
  opS P (S.un .not x12) fun x13 =>
  brn x13 (
    opS P (S.build 27 []) fun x14 =>
    opS P (S.st 27 x4 x14) fun x15 =>
    opS P (S.ld 27 x4) fun x16 =>
    K (.tuple #[x16, (.int .i64 1)])
  ) (
    opS P (S.ld 27 x3) fun x14 =>
    opS P (S.st 27 x4 x14) fun x15 =>
    opS P (S.ld 27 x4) fun x16 =>
    K (.tuple #[x16, (.int .i64 0)])
  )
instance fnb121 : FnB Tryz.prog 121 := ⟨Tryz.call121⟩
theorem e121 : p121 Tryz.prog = fun K x0 x1 x2 => denF Tryz.prog Tryz.f121 [x0, x1, x2] K := by kernel_rfl
theorem c121 {K : Value → World → Prop} {x0 x1 x2 : Value} {w : World} (h : p121 Tryz.prog K x0 x1 x2 w) : CallsR Tryz.prog 121 #[x0, x1, x2] K w := by
  rw [e121] at h
  exact denF_sound mixed Tryz.func121 h

-- gemel/gemelref02.Untag
def p122 (P : Program) (K : Value → World → Prop) (x0 : Value) : World → Prop :=
  opS P (S.box 27 x0) fun x1 =>
  opS P (S.alloc 27) fun x2 =>
  opS P (S.fa 27 x1 2) fun x3 =>
  opS P (S.st 4 x3 (.bool false)) fun x4 =>
  opS P (S.fa 27 x1 3) fun x5 =>
  opS P (S.st 3 x5 (.int .i64 0)) fun x6 =>
  opS P (S.fa 27 x1 4) fun x7 =>
  opS P (S.st 3 x7 (.int .i64 0)) fun x8 =>
  opS P (S.ld 27 x1) fun x9 =>
  opS P (S.st 27 x2 x9) fun x10 =>
  opS P (S.ld 27 x2) fun x11 =>
  K x11
instance fnb122 : FnB Tryz.prog 122 := ⟨Tryz.call122⟩
theorem e122 : p122 Tryz.prog = fun K x0 => denF Tryz.prog Tryz.f122 [x0] K := by kernel_rfl
theorem c122 {K : Value → World → Prop} {x0 : Value} {w : World} (h : p122 Tryz.prog K x0 w) : CallsR Tryz.prog 122 #[x0] K w := by
  rw [e122] at h
  exact denF_sound mixed Tryz.func122 h

end Go.Gx.S
-- 69 113 100 121 101 122 40 50 88 85 56 60 58 30 71 77 53 86 87 57 61 59 115 98 31
end
