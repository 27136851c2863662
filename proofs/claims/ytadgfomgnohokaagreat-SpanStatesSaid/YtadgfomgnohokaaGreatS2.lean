/- Own texts, put together. -/
import Derived.Test.YtadgfomgnohokaaGreatS1
section
/- What the functions of this program ask. -/
set_option linter.unusedVariables false
set_option maxRecDepth 100000
namespace Go.Gx.S
open Go Go.Gx Go.Proofs
-- gemel/gemellaw18.SpanStates
def p4 (P : Program) (K : Value → World → Prop) (x0 : Value) (x1 : Value) (x2 : Value) : World → Prop :=
  opS P (S.box 25 x0) fun x3 =>
  opS P (S.cl 5 []) fun x4 =>
  opS P (S.un .not x4) fun x5 =>
  brn x5 (
    K x4
  ) (
    opS P (S.len x1) fun x6 =>
    opS P (S.binI .gtr x6 (.int .i64 70)) fun x7 =>
    brn x7 (
      K x4
    ) (
      opS P (S.ld 25 x3) fun x8 =>
      opS P (S.cl 6 [x8, x1]) fun x9 =>
      opS P (S.ext x9 0) fun x10 =>
      opS P (S.ext x9 1) fun x11 =>
      opS P (S.binI .neq x11 (.int .i64 0)) fun x12 =>
      brn x12 (
        opS P (S.binI .eql x11 (.int .i64 1)) fun x13 =>
        K x13
      ) (
        opS P (S.binN .eql (S.isNilP x10)) fun x13 =>
        brn x13 (
          opS P (S.binI .eql x11 (.int .i64 1)) fun x14 =>
          K x14
        ) (
          opS P (S.ld 25 x3) fun x14 =>
          opS P (S.cl 7 [x14, x1]) fun x15 =>
          opS P (S.ext x15 0) fun x16 =>
          opS P (S.ext x15 1) fun x17 =>
          jnJ 0 (
            K (.bool true)
          ) fun j0 =>
          loopJ 1 (fun j1 x18 =>
            opS P (S.len x2) fun x19 =>
            opS P (S.binI .lss x18 x19) fun x20 =>
            brn x20 (
              opS P (S.binI .lss x18 (.int .i64 120)) fun x21 =>
              brn x21 (
                jnJ 0 (
                  opS P (S.binI .add x18 (.int .i64 1)) fun x22 =>
                  j1 x22
                ) fun j2 =>
                opS P (S.ia 27 x2 x18) fun x22 =>
                opS P (S.ld 40 x22) fun x23 =>
                opS P (S.cl 8 [x10, x16, x23]) fun x24 =>
                opS P (S.cl 10 [x10]) fun x25 =>
                opS P (S.cl 13 [x10]) fun x26 =>
                opS P (S.len x25) fun x27 =>
                opS P (S.len x1) fun x28 =>
                opS P (S.binI .neq x27 x28) fun x29 =>
                brn x29 (
                  K (.bool false)
                ) (
                  opS P (S.len x26) fun x30 =>
                  opS P (S.len x1) fun x31 =>
                  opS P (S.binI .neq x30 x31) fun x32 =>
                  brn x32 (
                    K (.bool false)
                  ) (
                    jnJ 1 (fun x33 =>
                      drw <|
                      opS P (S.binI .gtr x33 (.int .i64 1)) fun x34 =>
                      brn x34 (
                        allW (
                          K (.bool false)
                        ) (
                          allW (
                            allW (
                              K (.bool false)
                            ) (
                              K (.bool false)
                            )
                          ) (
                            allW (
                              K (.bool false)
                            ) (
                              K (.bool false)
                            )
                          )
                        )
                      ) (
                        opS P (S.binI .eql x33 (.int .i64 0)) fun x35 =>
                        allW (
                          opS P (S.cl 12 [x10]) fun x36 =>
                          opS P (S.ld 25 x3) fun x37 =>
                          opS P (S.ld 25 x3) fun x38 =>
                          opS P (S.build 44 [(0, x37), (2, x38)]) fun x39 =>
                          opS P (S.binG .eql 44 x36 x39) fun x40 =>
                          opS P (S.binB .neq x35 x40) fun x41 =>
                          brn x41 (
                            K (.bool false)
                          ) (
                            j2
                          )
                        ) (
                          allW (
                            opS P (S.ld 25 x3) fun x36 =>
                            allW (
                              opS P (S.cl 12 [x10]) fun x37 =>
                              opS P (S.ld 25 x3) fun x38 =>
                              opS P (S.build 44 [(0, x36), (2, x38)]) fun x39 =>
                              opS P (S.binG .eql 44 x37 x39) fun x40 =>
                              opS P (S.binB .neq x35 x40) fun x41 =>
                              brn x41 (
                                K (.bool false)
                              ) (
                                j2
                              )
                            ) (
                              opS P (S.ld 25 x3) fun x37 =>
                              opS P (S.cl 12 [x10]) fun x38 =>
                              opS P (S.build 44 [(0, x36), (2, x37)]) fun x39 =>
                              opS P (S.binG .eql 44 x38 x39) fun x40 =>
                              opS P (S.binB .neq x35 x40) fun x41 =>
                              brn x41 (
                                K (.bool false)
                              ) (
                                j2
                              )
                            )
                          ) (
                            opS P (S.ld 25 x3) fun x36 =>
                            allW (
                              opS P (S.cl 12 [x10]) fun x37 =>
                              opS P (S.ld 25 x3) fun x38 =>
                              opS P (S.build 44 [(0, x38), (2, x36)]) fun x39 =>
                              opS P (S.binG .eql 44 x37 x39) fun x40 =>
                              opS P (S.binB .neq x35 x40) fun x41 =>
                              brn x41 (
                                K (.bool false)
                              ) (
                                j2
                              )
                            ) (
                              opS P (S.ld 25 x3) fun x37 =>
                              opS P (S.cl 12 [x10]) fun x38 =>
                              opS P (S.build 44 [(0, x37), (2, x36)]) fun x39 =>
                              opS P (S.binG .eql 44 x38 x39) fun x40 =>
                              opS P (S.binB .neq x35 x40) fun x41 =>
                              brn x41 (
                                K (.bool false)
                              ) (
                                j2
                              )
                            )
                          )
                        )
                      )
                    ) fun j3 =>
                    loopJ 2 (fun j4 x33 x34 =>
                      opS P (S.len x25) fun x35 =>
                      opS P (S.binI .lss x34 x35) fun x36 =>
                      brn x36 (
                        jnJ 1 (fun x37 =>
                          opS P (S.ia 26 x25 x34) fun x38 =>
                          opS P (S.ld 3 x38) fun x39 =>
                          opS P (S.binI .neq x39 (.int .i64 1)) fun x40 =>
                          brn x40 (
                            opS P (S.ia 26 x25 x34) fun x41 =>
                            opS P (S.ld 3 x41) fun x42 =>
                            opS P (S.binI .neq x42 (.int .i64 2)) fun x43 =>
                            brn x43 (
                              opS P (S.ia 26 x26 x34) fun x44 =>
                              opS P (S.ld 3 x44) fun x45 =>
                              opS P (S.binI .neq x45 (.int .i64 0)) fun x46 =>
                              brn x46 (
                                K (.bool false)
                              ) (
                                opS P (S.ia 26 x25 x34) fun x47 =>
                                opS P (S.ld 3 x47) fun x48 =>
                                opS P (S.binI .eql x48 (.int .i64 1)) fun x49 =>
                                brn x49 (
                                  opS P (S.ia 26 x26 x34) fun x50 =>
                                  opS P (S.ld 3 x50) fun x51 =>
                                  opS P (S.binI .neq x51 (.int .i64 2)) fun x52 =>
                                  brn x52 (
                                    K (.bool false)
                                  ) (
                                    opS P (S.binI .add x34 (.int .i64 1)) fun x53 =>
                                    j4 x37 x53
                                  )
                                ) (
                                  opS P (S.binI .add x34 (.int .i64 1)) fun x50 =>
                                  j4 x37 x50
                                )
                              )
                            ) (
                              opS P (S.ia 26 x25 x34) fun x44 =>
                              opS P (S.ld 3 x44) fun x45 =>
                              opS P (S.binI .eql x45 (.int .i64 1)) fun x46 =>
                              brn x46 (
                                opS P (S.ia 26 x26 x34) fun x47 =>
                                opS P (S.ld 3 x47) fun x48 =>
                                opS P (S.binI .neq x48 (.int .i64 2)) fun x49 =>
                                brn x49 (
                                  K (.bool false)
                                ) (
                                  opS P (S.binI .add x34 (.int .i64 1)) fun x50 =>
                                  j4 x37 x50
                                )
                              ) (
                                opS P (S.binI .add x34 (.int .i64 1)) fun x47 =>
                                j4 x37 x47
                              )
                            )
                          ) (
                            opS P (S.ia 26 x25 x34) fun x41 =>
                            opS P (S.ld 3 x41) fun x42 =>
                            opS P (S.binI .eql x42 (.int .i64 1)) fun x43 =>
                            brn x43 (
                              opS P (S.ia 26 x26 x34) fun x44 =>
                              opS P (S.ld 3 x44) fun x45 =>
                              opS P (S.binI .neq x45 (.int .i64 2)) fun x46 =>
                              brn x46 (
                                K (.bool false)
                              ) (
                                opS P (S.binI .add x34 (.int .i64 1)) fun x47 =>
                                j4 x37 x47
                              )
                            ) (
                              opS P (S.binI .add x34 (.int .i64 1)) fun x44 =>
                              j4 x37 x44
                            )
                          )
                        ) fun j5 =>
                        opS P (S.ia 26 x25 x34) fun x37 =>
                        opS P (S.ld 3 x37) fun x38 =>
                        opS P (S.binI .eql x38 (.int .i64 1)) fun x39 =>
                        brn x39 (
                          opS P (S.binI .add x33 (.int .i64 1)) fun x40 =>
                          j5 x40
                        ) (
                          j5 x33
                        )
                      ) (
                        j3 x33
                      )
                    ) (.int .i64 0) (.int .i64 0)
                  )
                )
              ) (
                j0
              )
            ) (
              j0
            )
          ) (.int .i64 0)
        )
      )
    )
  )
instance fnb4 : FnB Tryz.prog 4 := ⟨Tryz.call4⟩
theorem e4 : p4 Tryz.prog = fun K x0 x1 x2 => denF Tryz.prog Tryz.f4 [x0, x1, x2] K := by kernel_rfl
theorem c4 {K : Value → World → Prop} {x0 x1 x2 : Value} {w : World} (h : p4 Tryz.prog K x0 x1 x2 w) : CallsR Tryz.prog 4 #[x0, x1, x2] K w := by
  rw [e4] at h
  exact denF_sound mixed Tryz.func4 h

end Go.Gx.S
-- 4
end

section
/- What the functions of this program ask. -/
set_option linter.unusedVariables false
set_option maxRecDepth 100000
namespace Go.Gx.S
open Go Go.Gx Go.Proofs
-- gemel/gemellaw18.SpanScripts
def p3 (P : Program) (K : Value → World → Prop) (x0 : Value) (x1 : Value) (x2 : Value) : World → Prop :=
  opS P (S.box 25 x0) fun x3 =>
  opS P (S.cl 5 []) fun x4 =>
  opS P (S.un .not x4) fun x5 =>
  brn x5 (
    K x4
  ) (
    opS P (S.len x1) fun x6 =>
    opS P (S.binI .gtr x6 (.int .i64 70)) fun x7 =>
    brn x7 (
      K x4
    ) (
      opS P (S.ld 25 x3) fun x8 =>
      opS P (S.cl 6 [x8, x1]) fun x9 =>
      opS P (S.ext x9 0) fun x10 =>
      opS P (S.ext x9 1) fun x11 =>
      opS P (S.ld 25 x3) fun x12 =>
      opS P (S.cl 7 [x12, x1]) fun x13 =>
      opS P (S.ext x13 0) fun x14 =>
      opS P (S.ext x13 1) fun x15 =>
      opS P (S.binI .neq x11 x15) fun x16 =>
      brn x16 (
        K (.bool false)
      ) (
        opS P (S.binN .eql (S.isNilP x10)) fun x17 =>
        opS P (S.binN .eql (S.isNilP x14)) fun x18 =>
        opS P (S.binB .neq x17 x18) fun x19 =>
        brn x19 (
          K (.bool false)
        ) (
          jnJ 0 (
            K (.bool true)
          ) fun j0 =>
          loopJ 1 (fun j1 x20 =>
            opS P (S.len x2) fun x21 =>
            opS P (S.binI .lss x20 x21) fun x22 =>
            brn x22 (
              opS P (S.binI .lss x20 (.int .i64 120)) fun x23 =>
              brn x23 (
                opS P (S.binN .neq (S.isNilP x10)) fun x24 =>
                brn x24 (
                  opS P (S.ia 27 x2 x20) fun x25 =>
                  opS P (S.ld 40 x25) fun x26 =>
                  opS P (S.cl 8 [x10, x14, x26]) fun x27 =>
                  opS P (S.cl 10 [x10]) fun x28 =>
                  opS P (S.cl 11 [x14]) fun x29 =>
                  opS P (S.cl 9 [x28, x29]) fun x30 =>
                  drw <|
                  opS P (S.un .not x27) fun x31 =>
                  brn x31 (
                    allW (
                      K (.bool false)
                    ) (
                      K (.bool false)
                    )
                  ) (
                    opS P (S.un .not x30) fun x32 =>
                    brn x32 (
                      allW (
                        K (.bool false)
                      ) (
                        K (.bool false)
                      )
                    ) (
                      opS P (S.nc x14) fun x33 =>
                      opS P (S.fa 49 x33 2) fun x34 =>
                      allW (
                        opS P (S.cl 12 [x10]) fun x35 =>
                        opS P (S.ld 44 x34) fun x36 =>
                        opS P (S.binG .neq 44 x35 x36) fun x37 =>
                        brn x37 (
                          K (.bool false)
                        ) (
                          opS P (S.cl 13 [x10]) fun x38 =>
                          opS P (S.cl 14 [x14]) fun x39 =>
                          opS P (S.cl 9 [x38, x39]) fun x40 =>
                          opS P (S.un .not x40) fun x41 =>
                          brn x41 (
                            K (.bool false)
                          ) (
                            opS P (S.binI .add x20 (.int .i64 1)) fun x42 =>
                            j1 x42
                          )
                        )
                      ) (
                        opS P (S.ld 44 x34) fun x35 =>
                        opS P (S.cl 12 [x10]) fun x36 =>
                        opS P (S.binG .neq 44 x36 x35) fun x37 =>
                        brn x37 (
                          K (.bool false)
                        ) (
                          opS P (S.cl 13 [x10]) fun x38 =>
                          opS P (S.cl 14 [x14]) fun x39 =>
                          opS P (S.cl 9 [x38, x39]) fun x40 =>
                          opS P (S.un .not x40) fun x41 =>
                          brn x41 (
                            K (.bool false)
                          ) (
                            opS P (S.binI .add x20 (.int .i64 1)) fun x42 =>
                            j1 x42
                          )
                        )
                      )
                    )
                  )
                ) (
                  j0
                )
              ) (
                j0
              )
            ) (
              j0
            )
          ) (.int .i64 0)
        )
      )
    )
  )
instance fnb3 : FnB Tryz.prog 3 := ⟨Tryz.call3⟩
theorem e3 : p3 Tryz.prog = fun K x0 x1 x2 => denF Tryz.prog Tryz.f3 [x0, x1, x2] K := by kernel_rfl
theorem c3 {K : Value → World → Prop} {x0 x1 x2 : Value} {w : World} (h : p3 Tryz.prog K x0 x1 x2 w) : CallsR Tryz.prog 3 #[x0, x1, x2] K w := by
  rw [e3] at h
  exact denF_sound mixed Tryz.func3 h

end Go.Gx.S
-- 3
end

section
/- What the functions of this program ask. -/
set_option linter.unusedVariables false
set_option maxRecDepth 100000
namespace Go.Gx.S
open Go Go.Gx Go.Proofs
-- gemel/gemellaw18.step
def p8 (P : Program) (K : Value → World → Prop) (x0 : Value) (x1 : Value) (x2 : Value) : World → Prop :=
  opS P (S.box 40 x2) fun x3 =>
  opS P (S.fa 40 x3 0) fun x4 =>
  opS P (S.ld 3 x4) fun x5 =>
  opS P (S.binI .eql x5 (.int .i64 0)) fun x6 =>
  brn x6 (
    opS P (S.fa 40 x3 1) fun x7 =>
    opS P (S.ld 3 x7) fun x8 =>
    opS P (S.fa 40 x3 5) fun x9 =>
    opS P (S.ld 38 x9) fun x10 =>
    opS P (S.fa 40 x3 2) fun x11 =>
    opS P (S.ld 3 x11) fun x12 =>
    opS P (S.cl 20 [x0, x8, x10, x12]) fun x13 =>
    opS P (S.fa 40 x3 1) fun x14 =>
    opS P (S.ld 3 x14) fun x15 =>
    opS P (S.fa 40 x3 5) fun x16 =>
    opS P (S.ld 38 x16) fun x17 =>
    opS P (S.fa 40 x3 2) fun x18 =>
    opS P (S.ld 3 x18) fun x19 =>
    opS P (S.cl 21 [x1, x15, x17, x19]) fun x20 =>
    opS P (S.binI .eql x13 x20) fun x21 =>
    K x21
  ) (
    opS P (S.binI .eql x5 (.int .i64 1)) fun x7 =>
    brn x7 (
      opS P (S.fa 40 x3 2) fun x8 =>
      opS P (S.ld 3 x8) fun x9 =>
      opS P (S.cl 22 [x0, x9]) fun x10 =>
      opS P (S.ext x10 0) fun x11 =>
      opS P (S.ext x10 1) fun x12 =>
      opS P (S.fa 40 x3 2) fun x13 =>
      opS P (S.ld 3 x13) fun x14 =>
      opS P (S.cl 23 [x1, x14]) fun x15 =>
      opS P (S.ext x15 0) fun x16 =>
      opS P (S.ext x15 1) fun x17 =>
      opS P (S.cl 24 [x11, x16]) fun x18 =>
      jnJ 1 (fun x19 =>
        K x19
      ) fun j0 =>
      brn x18 (
        opS P (S.binI .eql x12 x17) fun x19 =>
        j0 x19
      ) (
        j0 (.bool false)
      )
    ) (
      opS P (S.binI .eql x5 (.int .i64 2)) fun x8 =>
      brn x8 (
        opS P (S.fa 40 x3 1) fun x9 =>
        opS P (S.ld 3 x9) fun x10 =>
        opS P (S.fa 40 x3 3) fun x11 =>
        opS P (S.ld 4 x11) fun x12 =>
        opS P (S.fa 40 x3 4) fun x13 =>
        opS P (S.ld 4 x13) fun x14 =>
        opS P (S.fa 40 x3 2) fun x15 =>
        opS P (S.ld 3 x15) fun x16 =>
        opS P (S.cl 25 [x0, x10, x12, x14, x16]) fun x17 =>
        opS P (S.fa 40 x3 1) fun x18 =>
        opS P (S.ld 3 x18) fun x19 =>
        opS P (S.fa 40 x3 3) fun x20 =>
        opS P (S.ld 4 x20) fun x21 =>
        opS P (S.fa 40 x3 4) fun x22 =>
        opS P (S.ld 4 x22) fun x23 =>
        opS P (S.fa 40 x3 2) fun x24 =>
        opS P (S.ld 3 x24) fun x25 =>
        opS P (S.cl 26 [x1, x19, x21, x23, x25]) fun x26 =>
        opS P (S.binI .eql x17 x26) fun x27 =>
        K x27
      ) (
        opS P (S.cl 27 [x0]) fun x9 =>
        opS P (S.cl 28 [x1]) fun x10 =>
        opS P (S.cl 9 [x9, x10]) fun x11 =>
        K x11
      )
    )
  )
instance fnb8 : FnB Tryz.prog 8 := ⟨Tryz.call8⟩
theorem e8 : p8 Tryz.prog = fun K x0 x1 x2 => denF Tryz.prog Tryz.f8 [x0, x1, x2] K := by kernel_rfl
theorem c8 {K : Value → World → Prop} {x0 x1 x2 : Value} {w : World} (h : p8 Tryz.prog K x0 x1 x2 w) : CallsR Tryz.prog 8 #[x0, x1, x2] K w := by
  rw [e8] at h
  exact denF_sound mixed Tryz.func8 h

end Go.Gx.S
-- 8
end

section
/- What the functions of this program ask. -/
set_option linter.unusedVariables false
set_option maxRecDepth 100000
namespace Go.Gx.S
open Go Go.Gx Go.Proofs
-- gemel/gemellaw18.awake
def p5 (P : Program) (K : Value → World → Prop) : World → Prop :=
  opS P (S.cl 16 [(.int .i64 1)]) fun x0 =>
  opS P (S.buildS 26 1 [(0, (.int .i64 5))]) fun x1 =>
  opS P (S.cl 15 [x0, x1]) fun x2 =>
  opS P (S.ext x2 0) fun x3 =>
  opS P (S.ext x2 1) fun x4 =>
  opS P (S.cl 16 [(.int .i64 2)]) fun x5 =>
  opS P (S.buildS 26 1 [(0, (.int .i64 5))]) fun x6 =>
  opS P (S.cl 15 [x5, x6]) fun x7 =>
  opS P (S.ext x7 0) fun x8 =>
  opS P (S.ext x7 1) fun x9 =>
  opS P (S.un .not x4) fun x10 =>
  brn x10 (
    K (.bool false)
  ) (
    opS P (S.un .not x9) fun x11 =>
    brn x11 (
      K (.bool false)
    ) (
      opS P (S.cl 17 [x3, x8, (.int .i64 0), (.int .i64 3)]) fun x12 =>
      brn x12 (
        opS P (S.cl 13 [x3]) fun x13 =>
        opS P (S.buildS 26 1 [(0, (.int .i64 2))]) fun x14 =>
        opS P (S.cl 9 [x13, x14]) fun x15 =>
        brn x15 (
          opS P (S.cl 13 [x8]) fun x16 =>
          opS P (S.buildS 26 1 [(0, (.int .i64 2))]) fun x17 =>
          opS P (S.cl 9 [x16, x17]) fun x18 =>
          brn x18 (
            opS P (S.cl 12 [x8]) fun x19 =>
            opS P (S.fld 44 x19 0) fun x20 =>
            opS P (S.cl 16 [(.int .i64 1)]) fun x21 =>
            opS P (S.binG .eql 25 x20 x21) fun x22 =>
            K x22
          ) (
            K (.bool false)
          )
        ) (
          K (.bool false)
        )
      ) (
        K (.bool false)
      )
    )
  )
instance fnb5 : FnB Tryz.prog 5 := ⟨Tryz.call5⟩
theorem e5 : p5 Tryz.prog = fun K => denF Tryz.prog Tryz.f5 [] K := by kernel_rfl
theorem c5 {K : Value → World → Prop} {w : World} (h : p5 Tryz.prog K w) : CallsR Tryz.prog 5 #[] K w := by
  rw [e5] at h
  exact denF_sound mixed Tryz.func5 h

end Go.Gx.S
-- 5
end

section
/- What the functions of this program ask. -/
set_option linter.unusedVariables false
set_option maxRecDepth 100000
namespace Go.Gx.S
open Go Go.Gx Go.Proofs
-- gemel/gemelref07.SameInts
def p9 (P : Program) (K : Value → World → Prop) (x0 : Value) (x1 : Value) : World → Prop :=
  opS P (S.len x0) fun x2 =>
  opS P (S.len x1) fun x3 =>
  opS P (S.binI .neq x2 x3) fun x4 =>
  brn x4 (
    K (.bool false)
  ) (
    jnJ 0 (
      K (.bool true)
    ) fun j0 =>
    loopJ 1 (fun j1 x5 =>
      opS P (S.len x0) fun x6 =>
      opS P (S.binI .lss x5 x6) fun x7 =>
      brn x7 (
        drw <|
        opS P (S.ia 26 x0 x5) fun x8 =>
        opS P (S.ld 3 x8) fun x9 =>
        opS P (S.ia 26 x1 x5) fun x10 =>
        opS P (S.ld 3 x10) fun x11 =>
        opS P (S.binI .neq x9 x11) fun x12 =>
        brn x12 (
          K (.bool false)
        ) (
          opS P (S.binI .add x5 (.int .i64 1)) fun x13 =>
          j1 x13
        )
      ) (
        j0
      )
    ) (.int .i64 0)
  )
instance fnb9 : FnB Tryz.prog 9 := ⟨Tryz.call9⟩
theorem e9 : p9 Tryz.prog = fun K x0 x1 => denF Tryz.prog Tryz.f9 [x0, x1] K := by kernel_rfl
theorem c9 {K : Value → World → Prop} {x0 x1 : Value} {w : World} (h : p9 Tryz.prog K x0 x1 w) : CallsR Tryz.prog 9 #[x0, x1] K w := by
  rw [e9] at h
  exact denF_sound mixed Tryz.func9 h

-- gemel/gemellaw18.made
def p15 (P : Program) (K : Value → World → Prop) (x0 : Value) (x1 : Value) : World → Prop :=
  opS P (S.box 25 x0) fun x2 =>
  opS P (S.ld 25 x2) fun x3 =>
  opS P (S.cl 6 [x3, x1]) fun x4 =>
  opS P (S.ext x4 0) fun x5 =>
  opS P (S.ext x4 1) fun x6 =>
  opS P (S.binI .neq x6 (.int .i64 0)) fun x7 =>
  brn x7 (
    K (.tuple #[(.pointer none), (.bool false)])
  ) (
    opS P (S.binN .eql (S.isNilP x5)) fun x8 =>
    brn x8 (
      K (.tuple #[(.pointer none), (.bool false)])
    ) (
      jnJ 0 (
        K (.tuple #[x5, (.bool true)])
      ) fun j0 =>
      loopJ 1 (fun j1 x9 =>
        opS P (S.len x1) fun x10 =>
        opS P (S.binI .leq x9 x10) fun x11 =>
        brn x11 (
          opS P (S.cl 25 [x5, x9, (.bool true), (.bool false), (.int .i64 0)]) fun x12 =>
          opS P (S.binI .neq x12 (.int .i64 0)) fun x13 =>
          brn x13 (
            K (.tuple #[(.pointer none), (.bool false)])
          ) (
            opS P (S.binI .add x9 (.int .i64 1)) fun x14 =>
            j1 x14
          )
        ) (
          j0
        )
      ) (.int .i64 1)
    )
  )
instance fnb15 : FnB Tryz.prog 15 := ⟨Tryz.call15⟩
theorem e15 : p15 Tryz.prog = fun K x0 x1 => denF Tryz.prog Tryz.f15 [x0, x1] K := by kernel_rfl
theorem c15 {K : Value → World → Prop} {x0 x1 : Value} {w : World} (h : p15 Tryz.prog K x0 x1 w) : CallsR Tryz.prog 15 #[x0, x1] K w := by
  rw [e15] at h
  exact denF_sound mixed Tryz.func15 h

-- gemel/gemellaw18.id
def p16 (P : Program) (K : Value → World → Prop) (x0 : Value) : World → Prop :=
  opS P (S.alloc 25) fun x1 =>
  opS P (S.convI .u8 x0) fun x2 =>
  opS P (S.build 23 [(0, (.int .u8 2)), (1, (.int .u8 0)), (2, (.int .u8 0)), (3, (.int .u8 0)), (4, (.int .u8 0)), (5, x2)]) fun x3 =>
  opS P (S.build 25 [(0, (.int .i64 32768)), (1, x3)]) fun x4 =>
  opS P (S.st 25 x1 x4) fun x5 =>
  opS P (S.ld 25 x1) fun x6 =>
  K x6
instance fnb16 : FnB Tryz.prog 16 := ⟨Tryz.call16⟩
theorem e16 : p16 Tryz.prog = fun K x0 => denF Tryz.prog Tryz.f16 [x0] K := by kernel_rfl
theorem c16 {K : Value → World → Prop} {x0 : Value} {w : World} (h : p16 Tryz.prog K x0 w) : CallsR Tryz.prog 16 #[x0] K w := by
  rw [e16] at h
  exact denF_sound mixed Tryz.func16 h

-- gemel/gemellaw18.meet
def p17 (P : Program) (K : Value → World → Prop) (x0 : Value) (x1 : Value) (x2 : Value) (x3 : Value) : World → Prop :=
  jnJ 0 (
    K (.bool true)
  ) fun j0 =>
  loopJ 1 (fun j1 x4 =>
    opS P (S.binI .add x2 x3) fun x5 =>
    opS P (S.binI .lss x4 x5) fun x6 =>
    brn x6 (
      jnJ 0 (
        opS P (S.binI .add x4 (.int .i64 1)) fun x7 =>
        j1 x7
      ) fun j2 =>
      opS P (S.cl 22 [x0, x4]) fun x7 =>
      opS P (S.ext x7 0) fun x8 =>
      opS P (S.ext x7 1) fun x9 =>
      opS P (S.cl 22 [x1, x4]) fun x10 =>
      opS P (S.ext x10 0) fun x11 =>
      opS P (S.ext x10 1) fun x12 =>
      opS P (S.binI .neq x9 (.int .i64 0)) fun x13 =>
      brn x13 (
        K (.bool false)
      ) (
        opS P (S.binI .neq x12 (.int .i64 0)) fun x14 =>
        brn x14 (
          K (.bool false)
        ) (
          jnJ 0 (
            jnJ 0 (
              j2
            ) fun j3 =>
            loopJ 1 (fun j4 x15 =>
              opS P (S.len x11) fun x16 =>
              opS P (S.binI .lss x15 x16) fun x17 =>
              brn x17 (
                drw <|
                opS P (S.ia 72 x11 x15) fun x18 =>
                opS P (S.fa 80 x18 0) fun x19 =>
                opS P (S.ld 3 x19) fun x20 =>
                opS P (S.ia 72 x11 x15) fun x21 =>
                opS P (S.fa 80 x21 1) fun x22 =>
                opS P (S.ld 38 x22) fun x23 =>
                opS P (S.cl 20 [x0, x20, x23, x4]) fun x24 =>
                opS P (S.binI .add x15 (.int .i64 1)) fun x25 =>
                j4 x25
              ) (
                j3
              )
            ) (.int .i64 0)
          ) fun j3 =>
          loopJ 1 (fun j4 x15 =>
            opS P (S.len x8) fun x16 =>
            opS P (S.binI .lss x15 x16) fun x17 =>
            brn x17 (
              drw <|
              opS P (S.ia 72 x8 x15) fun x18 =>
              opS P (S.fa 80 x18 0) fun x19 =>
              opS P (S.ld 3 x19) fun x20 =>
              opS P (S.ia 72 x8 x15) fun x21 =>
              opS P (S.fa 80 x21 1) fun x22 =>
              opS P (S.ld 38 x22) fun x23 =>
              opS P (S.cl 20 [x1, x20, x23, x4]) fun x24 =>
              opS P (S.binI .add x15 (.int .i64 1)) fun x25 =>
              j4 x25
            ) (
              j3
            )
          ) (.int .i64 0)
        )
      )
    ) (
      j0
    )
  ) x2
instance fnb17 : FnB Tryz.prog 17 := ⟨Tryz.call17⟩
theorem e17 : p17 Tryz.prog = fun K x0 x1 x2 x3 => denF Tryz.prog Tryz.f17 [x0, x1, x2, x3] K := by kernel_rfl
theorem c17 {K : Value → World → Prop} {x0 x1 x2 x3 : Value} {w : World} (h : p17 Tryz.prog K x0 x1 x2 x3 w) : CallsR Tryz.prog 17 #[x0, x1, x2, x3] K w := by
  rw [e17] at h
  exact denF_sound mixed Tryz.func17 h

-- gemel/gemelref18.Same
def p24 (P : Program) (K : Value → World → Prop) (x0 : Value) (x1 : Value) : World → Prop :=
  opS P (S.len x0) fun x2 =>
  opS P (S.len x1) fun x3 =>
  opS P (S.binI .neq x2 x3) fun x4 =>
  brn x4 (
    K (.bool false)
  ) (
    jnJ 0 (
      K (.bool true)
    ) fun j0 =>
    loopJ 1 (fun j1 x5 =>
      opS P (S.len x0) fun x6 =>
      opS P (S.binI .lss x5 x6) fun x7 =>
      brn x7 (
        drw <|
        opS P (S.ia 72 x0 x5) fun x8 =>
        opS P (S.ld 80 x8) fun x9 =>
        opS P (S.ia 72 x1 x5) fun x10 =>
        opS P (S.ld 80 x10) fun x11 =>
        opS P (S.binG .neq 80 x9 x11) fun x12 =>
        brn x12 (
          K (.bool false)
        ) (
          opS P (S.binI .add x5 (.int .i64 1)) fun x13 =>
          j1 x13
        )
      ) (
        j0
      )
    ) (.int .i64 0)
  )
instance fnb24 : FnB Tryz.prog 24 := ⟨Tryz.call24⟩
theorem e24 : p24 Tryz.prog = fun K x0 x1 => denF Tryz.prog Tryz.f24 [x0, x1] K := by kernel_rfl
theorem c24 {K : Value → World → Prop} {x0 x1 : Value} {w : World} (h : p24 Tryz.prog K x0 x1 w) : CallsR Tryz.prog 24 #[x0, x1] K w := by
  rw [e24] at h
  exact denF_sound mixed Tryz.func24 h

end Go.Gx.S
-- 24 9 16 15 17
end

section
/- What the functions of this program ask. -/
set_option linter.unusedVariables false
set_option maxRecDepth 100000
namespace Go.Gx.S
open Go Go.Gx Go.Proofs
-- gemel/span.New
def p6 (P : Program) (K : Value → World → Prop) (x0 : Value) (x1 : Value) : World → Prop :=
  opS P (S.box 25 x0) fun x2 =>
  opS P (S.ld 25 x2) fun x3 =>
  opS P (S.mkm 55 none) fun x4 =>
  opS P (S.build 58 [(0, x3), (4, (.int .i64 (-1))), (5, x4)]) fun x5 =>
  opS P (S.box 58 x5) fun x6 =>
  opS P (S.len x1) fun x7 =>
  jnJ 0 (
    jnJ 2 (fun x8 x9 =>
      opS P (S.len x1) fun x10 =>
      opS P (S.binI .lss x10 (.int .i64 1)) fun x11 =>
      brn x11 (
        K (.tuple #[(.pointer none), (.int .i64 1)])
      ) (
        opS P (S.fa 25 x2 0) fun x12 =>
        opS P (S.ld 3 x12) fun x13 =>
        opS P (S.binI .lss x13 (.int .i64 0)) fun x14 =>
        brn x14 (
          K (.tuple #[(.pointer none), (.int .i64 1)])
        ) (
          opS P (S.fa 25 x2 0) fun x15 =>
          opS P (S.ld 3 x15) fun x16 =>
          opS P (S.binI .gtr x16 (.int .i64 65535)) fun x17 =>
          brn x17 (
            K (.tuple #[(.pointer none), (.int .i64 1)])
          ) (
            opS P (S.binI .neq x9 (.int .i64 0)) fun x18 =>
            brn x18 (
              K (.tuple #[(.pointer none), (.int .i64 1)])
            ) (
              opS P (S.ld 44 x8) fun x19 =>
              opS P (S.nc x6) fun x20 =>
              opS P (S.fa 58 x20 2) fun x21 =>
              opS P (S.st 44 x21 x19) fun x22 =>
              K (.tuple #[x6, (.int .i64 0)])
            )
          )
        )
      )
    ) fun j0 =>
    drw <|
    allW (
      opS P (S.ld 25 x2) fun x8 =>
      allW (
        opS P (S.cl 19 [x6]) fun x9 =>
        allW (
          opS P (S.cl 18 [x8, x9]) fun x10 =>
          opS P (S.ext x10 0) fun x11 =>
          opS P (S.ext x10 1) fun x12 =>
          opS P (S.ext x10 2) fun x13 =>
          opS P (S.alloc 44) fun x14 =>
          opS P (S.st 44 x14 x11) fun x15 =>
          j0 x14 x13
        ) (
          opS P (S.alloc 44) fun x10 =>
          opS P (S.cl 18 [x8, x9]) fun x11 =>
          opS P (S.ext x11 0) fun x12 =>
          opS P (S.ext x11 1) fun x13 =>
          opS P (S.ext x11 2) fun x14 =>
          opS P (S.st 44 x10 x12) fun x15 =>
          j0 x10 x14
        )
      ) (
        opS P (S.alloc 44) fun x9 =>
        opS P (S.cl 19 [x6]) fun x10 =>
        opS P (S.cl 18 [x8, x10]) fun x11 =>
        opS P (S.ext x11 0) fun x12 =>
        opS P (S.ext x11 1) fun x13 =>
        opS P (S.ext x11 2) fun x14 =>
        opS P (S.st 44 x9 x12) fun x15 =>
        j0 x9 x14
      )
    ) (
      allW (
        opS P (S.cl 19 [x6]) fun x8 =>
        allW (
          opS P (S.ld 25 x2) fun x9 =>
          allW (
            opS P (S.cl 18 [x9, x8]) fun x10 =>
            opS P (S.ext x10 0) fun x11 =>
            opS P (S.ext x10 1) fun x12 =>
            opS P (S.ext x10 2) fun x13 =>
            opS P (S.alloc 44) fun x14 =>
            opS P (S.st 44 x14 x11) fun x15 =>
            j0 x14 x13
          ) (
            opS P (S.alloc 44) fun x10 =>
            opS P (S.cl 18 [x9, x8]) fun x11 =>
            opS P (S.ext x11 0) fun x12 =>
            opS P (S.ext x11 1) fun x13 =>
            opS P (S.ext x11 2) fun x14 =>
            opS P (S.st 44 x10 x12) fun x15 =>
            j0 x10 x14
          )
        ) (
          opS P (S.alloc 44) fun x9 =>
          opS P (S.ld 25 x2) fun x10 =>
          opS P (S.cl 18 [x10, x8]) fun x11 =>
          opS P (S.ext x11 0) fun x12 =>
          opS P (S.ext x11 1) fun x13 =>
          opS P (S.ext x11 2) fun x14 =>
          opS P (S.st 44 x9 x12) fun x15 =>
          j0 x9 x14
        )
      ) (
        opS P (S.alloc 44) fun x8 =>
        allW (
          opS P (S.ld 25 x2) fun x9 =>
          opS P (S.cl 19 [x6]) fun x10 =>
          opS P (S.cl 18 [x9, x10]) fun x11 =>
          opS P (S.ext x11 0) fun x12 =>
          opS P (S.ext x11 1) fun x13 =>
          opS P (S.ext x11 2) fun x14 =>
          opS P (S.st 44 x8 x12) fun x15 =>
          j0 x8 x14
        ) (
          opS P (S.cl 19 [x6]) fun x9 =>
          opS P (S.ld 25 x2) fun x10 =>
          opS P (S.cl 18 [x10, x9]) fun x11 =>
          opS P (S.ext x11 0) fun x12 =>
          opS P (S.ext x11 1) fun x13 =>
          opS P (S.ext x11 2) fun x14 =>
          opS P (S.st 44 x8 x12) fun x15 =>
          j0 x8 x14
        )
      )
    )
  ) fun j0 =>
  loopJ 1 (fun j1 x8 =>
    opS P (S.binI .lss x8 x7) fun x9 =>
    brn x9 (
      opS P (S.ia 26 x1 x8) fun x10 =>
      opS P (S.ld 3 x10) fun x11 =>
      opS P (S.nc x6) fun x12 =>
      opS P (S.fa 58 x12 1) fun x13 =>
      opS P (S.ld 56 x13) fun x14 =>
      opS P (S.binI .add x8 (.int .i64 1)) fun x15 =>
      opS P (S.build 61 [(0, x15), (1, x11)]) fun x16 =>
      opS P (S.build 63 [(0, x16)]) fun x17 =>
      opS P (S.box 63 x17) fun x18 =>
      opS P (S.buildS 56 1 [(0, x18)]) fun x19 =>
      opS P (S.bi .append #[56, 56] 56 [x14, x19]) fun x20 =>
      opS P (S.nc x6) fun x21 =>
      opS P (S.fa 58 x21 1) fun x22 =>
      opS P (S.st 56 x22 x20) fun x23 =>
      opS P (S.binI .add x8 (.int .i64 1)) fun x24 =>
      j1 x24
    ) (
      j0
    )
  ) (.int .i64 0)
instance fnb6 : FnB Tryz.prog 6 := ⟨Tryz.call6⟩
theorem e6 : p6 Tryz.prog = fun K x0 x1 => denF Tryz.prog Tryz.f6 [x0, x1] K := by kernel_rfl
theorem c6 {K : Value → World → Prop} {x0 x1 : Value} {w : World} (h : p6 Tryz.prog K x0 x1 w) : CallsR Tryz.prog 6 #[x0, x1] K w := by
  rw [e6] at h
  exact denF_sound mixed Tryz.func6 h

-- gemel/gemelref18.New
def p7 (P : Program) (K : Value → World → Prop) (x0 : Value) (x1 : Value) : World → Prop :=
  opS P (S.box 25 x0) fun x2 =>
  opS P (S.len x1) fun x3 =>
  opS P (S.binI .lss x3 (.int .i64 1)) fun x4 =>
  brn x4 (
    K (.tuple #[(.pointer none), (.int .i64 1)])
  ) (
    opS P (S.len x1) fun x5 =>
    opS P (S.binI .gtr x5 (.int .i64 64)) fun x6 =>
    brn x6 (
      K (.tuple #[(.pointer none), (.int .i64 1)])
    ) (
      opS P (S.fa 25 x2 0) fun x7 =>
      opS P (S.ld 3 x7) fun x8 =>
      opS P (S.binI .lss x8 (.int .i64 0)) fun x9 =>
      brn x9 (
        K (.tuple #[(.pointer none), (.int .i64 1)])
      ) (
        opS P (S.fa 25 x2 0) fun x10 =>
        opS P (S.ld 3 x10) fun x11 =>
        opS P (S.binI .gtr x11 (.int .i64 65535)) fun x12 =>
        brn x12 (
          K (.tuple #[(.pointer none), (.int .i64 1)])
        ) (
          jnJ 1 (fun x13 =>
            jnJ 0 (
              opS P (S.ld 25 x2) fun x14 =>
              opS P (S.ld 25 x2) fun x15 =>
              opS P (S.build 44 [(0, x14), (2, x15)]) fun x16 =>
              opS P (S.nc x13) fun x17 =>
              opS P (S.fa 49 x17 2) fun x18 =>
              opS P (S.st 44 x18 x16) fun x19 =>
              K (.tuple #[x13, (.int .i64 0)])
            ) fun j0 =>
            loopJ 1 (fun j1 x14 =>
              opS P (S.len x1) fun x15 =>
              opS P (S.binI .lss x14 x15) fun x16 =>
              brn x16 (
                opS P (S.ia 26 x1 x14) fun x17 =>
                opS P (S.ld 3 x17) fun x18 =>
                opS P (S.binI .lss x18 (.int .i64 1)) fun x19 =>
                brn x19 (
                  K (.tuple #[(.pointer none), (.int .i64 1)])
                ) (
                  opS P (S.ia 26 x1 x14) fun x20 =>
                  opS P (S.ld 3 x20) fun x21 =>
                  opS P (S.binI .gtr x21 (.int .i64 200000000)) fun x22 =>
                  brn x22 (
                    K (.tuple #[(.pointer none), (.int .i64 1)])
                  ) (
                    drw <|
                    opS P (S.nc x13) fun x23 =>
                    opS P (S.fa 49 x23 1) fun x24 =>
                    opS P (S.binI .add x14 (.int .i64 1)) fun x25 =>
                    opS P (S.ia 26 x1 x14) fun x26 =>
                    opS P (S.ld 3 x26) fun x27 =>
                    opS P (S.build 61 [(0, x25), (1, x27)]) fun x28 =>
                    opS P (S.build 70 [(0, x28)]) fun x29 =>
                    allW (
                      opS P (S.ld 46 x24) fun x30 =>
                      opS P (S.box 70 x29) fun x31 =>
                      opS P (S.buildS 46 1 [(0, x31)]) fun x32 =>
                      opS P (S.bi .append #[46, 46] 46 [x30, x32]) fun x33 =>
                      opS P (S.nc x13) fun x34 =>
                      opS P (S.fa 49 x34 1) fun x35 =>
                      opS P (S.st 46 x35 x33) fun x36 =>
                      opS P (S.binI .add x14 (.int .i64 1)) fun x37 =>
                      j1 x37
                    ) (
                      opS P (S.box 70 x29) fun x30 =>
                      allW (
                        opS P (S.ld 46 x24) fun x31 =>
                        opS P (S.buildS 46 1 [(0, x30)]) fun x32 =>
                        opS P (S.bi .append #[46, 46] 46 [x31, x32]) fun x33 =>
                        opS P (S.nc x13) fun x34 =>
                        opS P (S.fa 49 x34 1) fun x35 =>
                        opS P (S.st 46 x35 x33) fun x36 =>
                        opS P (S.binI .add x14 (.int .i64 1)) fun x37 =>
                        j1 x37
                      ) (
                        opS P (S.buildS 46 1 [(0, x30)]) fun x31 =>
                        opS P (S.ld 46 x24) fun x32 =>
                        opS P (S.bi .append #[46, 46] 46 [x32, x31]) fun x33 =>
                        opS P (S.nc x13) fun x34 =>
                        opS P (S.fa 49 x34 1) fun x35 =>
                        opS P (S.st 46 x35 x33) fun x36 =>
                        opS P (S.binI .add x14 (.int .i64 1)) fun x37 =>
                        j1 x37
                      )
                    )
                  )
                )
              ) (
                j0
              )
            ) (.int .i64 0)
          ) fun j0 =>
          drw <|
          opS P (S.len x1) fun x13 =>
          allW (
            opS P (S.ld 25 x2) fun x14 =>
            opS P (S.mks 47 x13 x13) fun x15 =>
            opS P (S.build 49 [(0, x14), (4, (.int .i64 (-1))), (5, x15)]) fun x16 =>
            opS P (S.box 49 x16) fun x17 =>
            j0 x17
          ) (
            opS P (S.mks 47 x13 x13) fun x14 =>
            opS P (S.ld 25 x2) fun x15 =>
            opS P (S.build 49 [(0, x15), (4, (.int .i64 (-1))), (5, x14)]) fun x16 =>
            opS P (S.box 49 x16) fun x17 =>
            j0 x17
          )
        )
      )
    )
  )
instance fnb7 : FnB Tryz.prog 7 := ⟨Tryz.call7⟩
theorem e7 : p7 Tryz.prog = fun K x0 x1 => denF Tryz.prog Tryz.f7 [x0, x1] K := by kernel_rfl
theorem c7 {K : Value → World → Prop} {x0 x1 : Value} {w : World} (h : p7 Tryz.prog K x0 x1 w) : CallsR Tryz.prog 7 #[x0, x1] K w := by
  rw [e7] at h
  exact denF_sound mixed Tryz.func7 h

end Go.Gx.S
-- 6 7
end

section
/- What the functions of this program ask. -/
set_option linter.unusedVariables false
set_option maxRecDepth 100000
namespace Go.Gx.S
open Go Go.Gx Go.Proofs
-- (*gemel/span.Span).Roles
def p10 (P : Program) (K : Value → World → Prop) (x0 : Value) : World → Prop :=
  opS P (S.cl 29 [x0, (.func (.func 30) #[] #[])]) fun x1 =>
  K x1
instance fnb10 : FnB Tryz.prog 10 := ⟨Tryz.call10⟩
theorem e10 : p10 Tryz.prog = fun K x0 => denF Tryz.prog Tryz.f10 [x0] K := by kernel_rfl
theorem c10 {K : Value → World → Prop} {x0 : Value} {w : World} (h : p10 Tryz.prog K x0 w) : CallsR Tryz.prog 10 #[x0] K w := by
  rw [e10] at h
  exact denF_sound mixed Tryz.func10 h

-- (*gemel/gemelref18.Span).Roles
def p11 (P : Program) (K : Value → World → Prop) (x0 : Value) : World → Prop :=
  jnJ 1 (fun x1 =>
    K x1
  ) fun j0 =>
  loopJ 2 (fun j1 x1 x2 =>
    opS P (S.nc x0) fun x3 =>
    opS P (S.fa 49 x3 1) fun x4 =>
    opS P (S.ld 46 x4) fun x5 =>
    opS P (S.len x5) fun x6 =>
    opS P (S.binI .lss x2 x6) fun x7 =>
    brn x7 (
      opS P (S.nc x0) fun x8 =>
      opS P (S.fa 49 x8 1) fun x9 =>
      opS P (S.ld 46 x9) fun x10 =>
      opS P (S.ia 46 x10 x2) fun x11 =>
      opS P (S.ld 68 x11) fun x12 =>
      opS P (S.nc x12) fun x13 =>
      opS P (S.fa 70 x13 4) fun x14 =>
      opS P (S.ld 3 x14) fun x15 =>
      opS P (S.buildS 26 1 [(0, x15)]) fun x16 =>
      opS P (S.bi .append #[26, 26] 26 [x1, x16]) fun x17 =>
      opS P (S.binI .add x2 (.int .i64 1)) fun x18 =>
      j1 x17 x18
    ) (
      j0 x1
    )
  ) (.slice none 0 0) (.int .i64 0)
instance fnb11 : FnB Tryz.prog 11 := ⟨Tryz.call11⟩
theorem e11 : p11 Tryz.prog = fun K x0 => denF Tryz.prog Tryz.f11 [x0] K := by kernel_rfl
theorem c11 {K : Value → World → Prop} {x0 : Value} {w : World} (h : p11 Tryz.prog K x0 w) : CallsR Tryz.prog 11 #[x0] K w := by
  rw [e11] at h
  exact denF_sound mixed Tryz.func11 h

-- (*gemel/span.Span).Best
def p12 (P : Program) (K : Value → World → Prop) (x0 : Value) : World → Prop :=
  opS P (S.alloc 44) fun x1 =>
  opS P (S.nc x0) fun x2 =>
  opS P (S.fa 58 x2 2) fun x3 =>
  opS P (S.ld 44 x3) fun x4 =>
  opS P (S.st 44 x1 x4) fun x5 =>
  opS P (S.ld 44 x1) fun x6 =>
  K x6
instance fnb12 : FnB Tryz.prog 12 := ⟨Tryz.call12⟩
theorem e12 : p12 Tryz.prog = fun K x0 => denF Tryz.prog Tryz.f12 [x0] K := by kernel_rfl
theorem c12 {K : Value → World → Prop} {x0 : Value} {w : World} (h : p12 Tryz.prog K x0 w) : CallsR Tryz.prog 12 #[x0] K w := by
  rw [e12] at h
  exact denF_sound mixed Tryz.func12 h

-- (*gemel/span.Span).States
def p13 (P : Program) (K : Value → World → Prop) (x0 : Value) : World → Prop :=
  opS P (S.cl 29 [x0, (.func (.func 31) #[] #[])]) fun x1 =>
  K x1
instance fnb13 : FnB Tryz.prog 13 := ⟨Tryz.call13⟩
theorem e13 : p13 Tryz.prog = fun K x0 => denF Tryz.prog Tryz.f13 [x0] K := by kernel_rfl
theorem c13 {K : Value → World → Prop} {x0 : Value} {w : World} (h : p13 Tryz.prog K x0 w) : CallsR Tryz.prog 13 #[x0] K w := by
  rw [e13] at h
  exact denF_sound mixed Tryz.func13 h

-- (*gemel/gemelref18.Span).States
def p14 (P : Program) (K : Value → World → Prop) (x0 : Value) : World → Prop :=
  jnJ 1 (fun x1 =>
    K x1
  ) fun j0 =>
  loopJ 2 (fun j1 x1 x2 =>
    opS P (S.nc x0) fun x3 =>
    opS P (S.fa 49 x3 1) fun x4 =>
    opS P (S.ld 46 x4) fun x5 =>
    opS P (S.len x5) fun x6 =>
    opS P (S.binI .lss x2 x6) fun x7 =>
    brn x7 (
      opS P (S.nc x0) fun x8 =>
      opS P (S.fa 49 x8 1) fun x9 =>
      opS P (S.ld 46 x9) fun x10 =>
      opS P (S.ia 46 x10 x2) fun x11 =>
      opS P (S.ld 68 x11) fun x12 =>
      opS P (S.nc x12) fun x13 =>
      opS P (S.fa 70 x13 5) fun x14 =>
      opS P (S.ld 3 x14) fun x15 =>
      opS P (S.buildS 26 1 [(0, x15)]) fun x16 =>
      opS P (S.bi .append #[26, 26] 26 [x1, x16]) fun x17 =>
      opS P (S.binI .add x2 (.int .i64 1)) fun x18 =>
      j1 x17 x18
    ) (
      j0 x1
    )
  ) (.slice none 0 0) (.int .i64 0)
instance fnb14 : FnB Tryz.prog 14 := ⟨Tryz.call14⟩
theorem e14 : p14 Tryz.prog = fun K x0 => denF Tryz.prog Tryz.f14 [x0] K := by kernel_rfl
theorem c14 {K : Value → World → Prop} {x0 : Value} {w : World} (h : p14 Tryz.prog K x0 w) : CallsR Tryz.prog 14 #[x0] K w := by
  rw [e14] at h
  exact denF_sound mixed Tryz.func14 h

-- (*gemel/span.Span).those
def p29 (P : Program) (K : Value → World → Prop) (x0 : Value) (x1 : Value) : World → Prop :=
  opS P (S.nc x0) fun x2 =>
  opS P (S.fa 58 x2 1) fun x3 =>
  opS P (S.ld 56 x3) fun x4 =>
  opS P (S.len x4) fun x5 =>
  jnJ 1 (fun x6 =>
    K x6
  ) fun j0 =>
  loopJ 2 (fun j1 x6 x7 =>
    opS P (S.binI .lss x7 x5) fun x8 =>
    brn x8 (
      opS P (S.ia 56 x4 x7) fun x9 =>
      opS P (S.ld 59 x9) fun x10 =>
      opS P (S.call x1 [x10]) fun x11 =>
      opS P (S.buildS 26 1 [(0, x11)]) fun x12 =>
      opS P (S.bi .append #[26, 26] 26 [x6, x12]) fun x13 =>
      opS P (S.binI .add x7 (.int .i64 1)) fun x14 =>
      j1 x13 x14
    ) (
      j0 x6
    )
  ) (.slice none 0 0) (.int .i64 0)
instance fnb29 : FnB Tryz.prog 29 := ⟨Tryz.call29⟩
theorem e29 : p29 Tryz.prog = fun K x0 x1 => denF Tryz.prog Tryz.f29 [x0, x1] K := by kernel_rfl
theorem c29 {K : Value → World → Prop} {x0 x1 : Value} {w : World} (h : p29 Tryz.prog K x0 x1 w) : CallsR Tryz.prog 29 #[x0, x1] K w := by
  rw [e29] at h
  exact denF_sound mixed Tryz.func29 h

-- (*gemel/span.Span).Roles$1
def p30 (P : Program) (K : Value → World → Prop) (x0 : Value) : World → Prop :=
  opS P (S.nc x0) fun x1 =>
  opS P (S.fa 63 x1 4) fun x2 =>
  opS P (S.ld 3 x2) fun x3 =>
  K x3
instance fnb30 : FnB Tryz.prog 30 := ⟨Tryz.call30⟩
theorem e30 : p30 Tryz.prog = fun K x0 => denF Tryz.prog Tryz.f30 [x0] K := by kernel_rfl
theorem c30 {K : Value → World → Prop} {x0 : Value} {w : World} (h : p30 Tryz.prog K x0 w) : CallsR Tryz.prog 30 #[x0] K w := by
  rw [e30] at h
  exact denF_sound mixed Tryz.func30 h

-- (*gemel/span.Span).States$1
def p31 (P : Program) (K : Value → World → Prop) (x0 : Value) : World → Prop :=
  opS P (S.nc x0) fun x1 =>
  opS P (S.fa 63 x1 5) fun x2 =>
  opS P (S.ld 3 x2) fun x3 =>
  K x3
instance fnb31 : FnB Tryz.prog 31 := ⟨Tryz.call31⟩
theorem e31 : p31 Tryz.prog = fun K x0 => denF Tryz.prog Tryz.f31 [x0] K := by kernel_rfl
theorem c31 {K : Value → World → Prop} {x0 : Value} {w : World} (h : p31 Tryz.prog K x0 w) : CallsR Tryz.prog 31 #[x0] K w := by
  rw [e31] at h
  exact denF_sound mixed Tryz.func31 h

end Go.Gx.S
-- 10 13 29 30 31 12 11 14
end

section
/- What the functions of this program ask. -/
set_option linter.unusedVariables false
set_option maxRecDepth 100000
namespace Go.Gx.S
open Go Go.Gx Go.Proofs
-- (*gemel/span.Span).Tick
def p22 (P : Program) (K : Value → World → Prop) (x0 : Value) (x1 : Value) : World → Prop :=
  opS P (S.cl 38 [x1]) fun x2 =>
  opS P (S.un .not x2) fun x3 =>
  brn x3 (
    K (.tuple #[(.slice none 0 0), (.int .i64 1)])
  ) (
    opS P (S.nc x0) fun x4 =>
    opS P (S.fa 58 x4 1) fun x5 =>
    opS P (S.ld 56 x5) fun x6 =>
    opS P (S.len x6) fun x7 =>
    jnJ 0 (
      opS P (S.cl 43 [x0, x1]) fun x8 =>
      opS P (S.nc x0) fun x9 =>
      opS P (S.fa 58 x9 1) fun x10 =>
      opS P (S.ld 56 x10) fun x11 =>
      opS P (S.len x11) fun x12 =>
      jnJ 0 (
        jnJ 1 (fun x13 =>
          jnJ 0 (
            opS P (S.nc x0) fun x14 =>
            opS P (S.fa 58 x14 1) fun x15 =>
            opS P (S.ld 56 x15) fun x16 =>
            opS P (S.len x16) fun x17 =>
            jnJ 1 (fun x18 =>
              K (.tuple #[x18, (.int .i64 0)])
            ) fun j0 =>
            loopJ 2 (fun j1 x18 x19 =>
              opS P (S.binI .lss x19 x17) fun x20 =>
              brn x20 (
                opS P (S.ia 56 x16 x19) fun x21 =>
                opS P (S.ld 59 x21) fun x22 =>
                opS P (S.cl 54 [x0]) fun x23 =>
                opS P (S.alloc 38) fun x24 =>
                opS P (S.st 38 x24 x23) fun x25 =>
                opS P (S.cl 55 [x0, x22, x13, x1]) fun x26 =>
                opS P (S.binI .add x19 (.int .i64 1)) fun x27 =>
                opS P (S.fa 38 x24 1) fun x28 =>
                opS P (S.st 3 x28 x26) fun x29 =>
                opS P (S.fa 38 x24 5) fun x30 =>
                opS P (S.st 3 x30 x27) fun x31 =>
                opS P (S.fa 38 x24 1) fun x32 =>
                opS P (S.ld 3 x32) fun x33 =>
                opS P (S.binI .eql x33 (.int .i64 0)) fun x34 =>
                brn x34 (
                  opS P (S.binI .add x19 (.int .i64 1)) fun x35 =>
                  j1 x18 x35
                ) (
                  opS P (S.nc x22) fun x35 =>
                  opS P (S.fa 63 x35 8) fun x36 =>
                  opS P (S.st 4 x36 (.bool false)) fun x37 =>
                  opS P (S.binI .add x19 (.int .i64 1)) fun x38 =>
                  opS P (S.ld 38 x24) fun x39 =>
                  opS P (S.build 80 [(0, x38), (1, x39)]) fun x40 =>
                  opS P (S.buildS 72 1 [(0, x40)]) fun x41 =>
                  opS P (S.bi .append #[72, 72] 72 [x18, x41]) fun x42 =>
                  opS P (S.binI .add x19 (.int .i64 1)) fun x43 =>
                  j1 x42 x43
                )
              ) (
                j0 x18
              )
            ) (.slice none 0 0) (.int .i64 0)
          ) fun j0 =>
          brn x13 (
            opS P (S.nc x0) fun x14 =>
            opS P (S.fa 58 x14 4) fun x15 =>
            opS P (S.st 3 x15 x1) fun x16 =>
            j0
          ) (
            j0
          )
        ) fun j0 =>
        opS P (S.nc x0) fun x13 =>
        opS P (S.fa 58 x13 4) fun x14 =>
        opS P (S.ld 3 x14) fun x15 =>
        opS P (S.binI .eql x15 (.int .i64 (-1))) fun x16 =>
        brn x16 (
          j0 (.bool true)
        ) (
          opS P (S.nc x0) fun x17 =>
          opS P (S.fa 58 x17 4) fun x18 =>
          opS P (S.ld 3 x18) fun x19 =>
          opS P (S.binI .sub x1 x19) fun x20 =>
          opS P (S.binI .geq x20 (.int .i64 2)) fun x21 =>
          j0 x21
        )
      ) fun j0 =>
      loopJ 1 (fun j1 x13 =>
        opS P (S.binI .lss x13 x12) fun x14 =>
        brn x14 (
          opS P (S.ia 56 x11 x13) fun x15 =>
          opS P (S.ld 59 x15) fun x16 =>
          opS P (S.cl 53 [x0, x16, x1]) fun x17 =>
          opS P (S.binI .add x13 (.int .i64 1)) fun x18 =>
          j1 x18
        ) (
          j0
        )
      ) (.int .i64 0)
    ) fun j0 =>
    loopJ 1 (fun j1 x8 =>
      opS P (S.binI .lss x8 x7) fun x9 =>
      brn x9 (
        opS P (S.ia 56 x6 x8) fun x10 =>
        opS P (S.ld 59 x10) fun x11 =>
        opS P (S.nc x11) fun x12 =>
        opS P (S.fa 63 x12 0) fun x13 =>
        opS P (S.fa 61 x13 3) fun x14 =>
        opS P (S.ld 4 x14) fun x15 =>
        brn x15 (
          opS P (S.nc x11) fun x16 =>
          opS P (S.fa 63 x16 2) fun x17 =>
          opS P (S.ld 3 x17) fun x18 =>
          opS P (S.binI .lss x1 x18) fun x19 =>
          opS P (S.nc x11) fun x20 =>
          opS P (S.fa 63 x20 0) fun x21 =>
          opS P (S.fa 61 x21 3) fun x22 =>
          opS P (S.st 4 x22 x19) fun x23 =>
          opS P (S.binI .add x8 (.int .i64 1)) fun x24 =>
          j1 x24
        ) (
          opS P (S.nc x11) fun x16 =>
          opS P (S.fa 63 x16 0) fun x17 =>
          opS P (S.fa 61 x17 3) fun x18 =>
          opS P (S.st 4 x18 (.bool false)) fun x19 =>
          opS P (S.binI .add x8 (.int .i64 1)) fun x20 =>
          j1 x20
        )
      ) (
        j0
      )
    ) (.int .i64 0)
  )
instance fnb22 : FnB Tryz.prog 22 := ⟨Tryz.call22⟩
theorem e22 : p22 Tryz.prog = fun K x0 x1 => denF Tryz.prog Tryz.f22 [x0, x1] K := by kernel_rfl
theorem c22 {K : Value → World → Prop} {x0 x1 : Value} {w : World} (h : p22 Tryz.prog K x0 x1 w) : CallsR Tryz.prog 22 #[x0, x1] K w := by
  rw [e22] at h
  exact denF_sound mixed Tryz.func22 h

-- (*gemel/gemelref18.Span).Tick
def p23 (P : Program) (K : Value → World → Prop) (x0 : Value) (x1 : Value) : World → Prop :=
  opS P (S.binI .lss x1 (.int .i64 0)) fun x2 =>
  brn x2 (
    K (.tuple #[(.slice none 0 0), (.int .i64 1)])
  ) (
    opS P (S.binI .gtr x1 (.int .i64 1099511627776)) fun x3 =>
    brn x3 (
      K (.tuple #[(.slice none 0 0), (.int .i64 1)])
    ) (
      jnJ 0 (
        opS P (S.cl 50 [x0, x1]) fun x4 =>
        jnJ 0 (
          jnJ 1 (fun x5 =>
            jnJ 0 (
              jnJ 1 (fun x6 =>
                K (.tuple #[x6, (.int .i64 0)])
              ) fun j0 =>
              loopJ 2 (fun j1 x6 x7 =>
                opS P (S.nc x0) fun x8 =>
                opS P (S.fa 49 x8 1) fun x9 =>
                opS P (S.ld 46 x9) fun x10 =>
                opS P (S.len x10) fun x11 =>
                opS P (S.binI .lss x7 x11) fun x12 =>
                brn x12 (
                  opS P (S.nc x0) fun x13 =>
                  opS P (S.fa 49 x13 1) fun x14 =>
                  opS P (S.ld 46 x14) fun x15 =>
                  opS P (S.ia 46 x15 x7) fun x16 =>
                  opS P (S.ld 68 x16) fun x17 =>
                  opS P (S.cl 57 [x0, x17, x5, x1]) fun x18 =>
                  opS P (S.binI .eql x18 (.int .i64 0)) fun x19 =>
                  brn x19 (
                    opS P (S.binI .add x7 (.int .i64 1)) fun x20 =>
                    j1 x6 x20
                  ) (
                    jnJ 0 (
                      drw <|
                      opS P (S.binI .add x7 (.int .i64 1)) fun x20 =>
                      opS P (S.nc x0) fun x21 =>
                      opS P (S.fa 49 x21 2) fun x22 =>
                      opS P (S.fa 44 x22 0) fun x23 =>
                      opS P (S.nc x0) fun x24 =>
                      opS P (S.fa 49 x24 2) fun x25 =>
                      opS P (S.fa 44 x25 1) fun x26 =>
                      opS P (S.nc x0) fun x27 =>
                      opS P (S.fa 49 x27 0) fun x28 =>
                      opS P (S.binI .add x7 (.int .i64 1)) fun x29 =>
                      allW (
                        opS P (S.ld 25 x23) fun x30 =>
                        allW (
                          opS P (S.ld 3 x26) fun x31 =>
                          allW (
                            opS P (S.ld 25 x28) fun x32 =>
                            opS P (S.cl 58 [x0]) fun x33 =>
                            opS P (S.build 38 [(0, (.int .i64 2)), (1, x18), (2, x30), (3, x31), (4, x32), (5, x29), (6, x33), (7, (.int .i64 20)), (8, (.int .i64 2)), (9, (.int .i64 15))]) fun x34 =>
                            opS P (S.build 80 [(0, x20), (1, x34)]) fun x35 =>
                            opS P (S.buildS 72 1 [(0, x35)]) fun x36 =>
                            opS P (S.bi .append #[72, 72] 72 [x6, x36]) fun x37 =>
                            opS P (S.binI .add x7 (.int .i64 1)) fun x38 =>
                            j1 x37 x38
                          ) (
                            opS P (S.cl 58 [x0]) fun x32 =>
                            opS P (S.ld 25 x28) fun x33 =>
                            opS P (S.build 38 [(0, (.int .i64 2)), (1, x18), (2, x30), (3, x31), (4, x33), (5, x29), (6, x32), (7, (.int .i64 20)), (8, (.int .i64 2)), (9, (.int .i64 15))]) fun x34 =>
                            opS P (S.build 80 [(0, x20), (1, x34)]) fun x35 =>
                            opS P (S.buildS 72 1 [(0, x35)]) fun x36 =>
                            opS P (S.bi .append #[72, 72] 72 [x6, x36]) fun x37 =>
                            opS P (S.binI .add x7 (.int .i64 1)) fun x38 =>
                            j1 x37 x38
                          )
                        ) (
                          allW (
                            opS P (S.ld 25 x28) fun x31 =>
                            allW (
                              opS P (S.ld 3 x26) fun x32 =>
                              opS P (S.cl 58 [x0]) fun x33 =>
                              opS P (S.build 38 [(0, (.int .i64 2)), (1, x18), (2, x30), (3, x32), (4, x31), (5, x29), (6, x33), (7, (.int .i64 20)), (8, (.int .i64 2)), (9, (.int .i64 15))]) fun x34 =>
                              opS P (S.build 80 [(0, x20), (1, x34)]) fun x35 =>
                              opS P (S.buildS 72 1 [(0, x35)]) fun x36 =>
                              opS P (S.bi .append #[72, 72] 72 [x6, x36]) fun x37 =>
                              opS P (S.binI .add x7 (.int .i64 1)) fun x38 =>
                              j1 x37 x38
                            ) (
                              opS P (S.cl 58 [x0]) fun x32 =>
                              opS P (S.ld 3 x26) fun x33 =>
                              opS P (S.build 38 [(0, (.int .i64 2)), (1, x18), (2, x30), (3, x33), (4, x31), (5, x29), (6, x32), (7, (.int .i64 20)), (8, (.int .i64 2)), (9, (.int .i64 15))]) fun x34 =>
                              opS P (S.build 80 [(0, x20), (1, x34)]) fun x35 =>
                              opS P (S.buildS 72 1 [(0, x35)]) fun x36 =>
                              opS P (S.bi .append #[72, 72] 72 [x6, x36]) fun x37 =>
                              opS P (S.binI .add x7 (.int .i64 1)) fun x38 =>
                              j1 x37 x38
                            )
                          ) (
                            opS P (S.cl 58 [x0]) fun x31 =>
                            opS P (S.ld 3 x26) fun x32 =>
                            opS P (S.ld 25 x28) fun x33 =>
                            opS P (S.build 38 [(0, (.int .i64 2)), (1, x18), (2, x30), (3, x32), (4, x33), (5, x29), (6, x31), (7, (.int .i64 20)), (8, (.int .i64 2)), (9, (.int .i64 15))]) fun x34 =>
                            opS P (S.build 80 [(0, x20), (1, x34)]) fun x35 =>
                            opS P (S.buildS 72 1 [(0, x35)]) fun x36 =>
                            opS P (S.bi .append #[72, 72] 72 [x6, x36]) fun x37 =>
                            opS P (S.binI .add x7 (.int .i64 1)) fun x38 =>
                            j1 x37 x38
                          )
                        )
                      ) (
                        allW (
                          opS P (S.ld 3 x26) fun x30 =>
                          allW (
                            opS P (S.ld 25 x23) fun x31 =>
                            allW (
                              opS P (S.ld 25 x28) fun x32 =>
                              opS P (S.cl 58 [x0]) fun x33 =>
                              opS P (S.build 38 [(0, (.int .i64 2)), (1, x18), (2, x31), (3, x30), (4, x32), (5, x29), (6, x33), (7, (.int .i64 20)), (8, (.int .i64 2)), (9, (.int .i64 15))]) fun x34 =>
                              opS P (S.build 80 [(0, x20), (1, x34)]) fun x35 =>
                              opS P (S.buildS 72 1 [(0, x35)]) fun x36 =>
                              opS P (S.bi .append #[72, 72] 72 [x6, x36]) fun x37 =>
                              opS P (S.binI .add x7 (.int .i64 1)) fun x38 =>
                              j1 x37 x38
                            ) (
                              opS P (S.cl 58 [x0]) fun x32 =>
                              opS P (S.ld 25 x28) fun x33 =>
                              opS P (S.build 38 [(0, (.int .i64 2)), (1, x18), (2, x31), (3, x30), (4, x33), (5, x29), (6, x32), (7, (.int .i64 20)), (8, (.int .i64 2)), (9, (.int .i64 15))]) fun x34 =>
                              opS P (S.build 80 [(0, x20), (1, x34)]) fun x35 =>
                              opS P (S.buildS 72 1 [(0, x35)]) fun x36 =>
                              opS P (S.bi .append #[72, 72] 72 [x6, x36]) fun x37 =>
                              opS P (S.binI .add x7 (.int .i64 1)) fun x38 =>
                              j1 x37 x38
                            )
                          ) (
                            allW (
                              opS P (S.ld 25 x28) fun x31 =>
                              allW (
                                opS P (S.ld 25 x23) fun x32 =>
                                opS P (S.cl 58 [x0]) fun x33 =>
                                opS P (S.build 38 [(0, (.int .i64 2)), (1, x18), (2, x32), (3, x30), (4, x31), (5, x29), (6, x33), (7, (.int .i64 20)), (8, (.int .i64 2)), (9, (.int .i64 15))]) fun x34 =>
                                opS P (S.build 80 [(0, x20), (1, x34)]) fun x35 =>
                                opS P (S.buildS 72 1 [(0, x35)]) fun x36 =>
                                opS P (S.bi .append #[72, 72] 72 [x6, x36]) fun x37 =>
                                opS P (S.binI .add x7 (.int .i64 1)) fun x38 =>
                                j1 x37 x38
                              ) (
                                opS P (S.cl 58 [x0]) fun x32 =>
                                opS P (S.ld 25 x23) fun x33 =>
                                opS P (S.build 38 [(0, (.int .i64 2)), (1, x18), (2, x33), (3, x30), (4, x31), (5, x29), (6, x32), (7, (.int .i64 20)), (8, (.int .i64 2)), (9, (.int .i64 15))]) fun x34 =>
                                opS P (S.build 80 [(0, x20), (1, x34)]) fun x35 =>
                                opS P (S.buildS 72 1 [(0, x35)]) fun x36 =>
                                opS P (S.bi .append #[72, 72] 72 [x6, x36]) fun x37 =>
                                opS P (S.binI .add x7 (.int .i64 1)) fun x38 =>
                                j1 x37 x38
                              )
                            ) (
                              opS P (S.cl 58 [x0]) fun x31 =>
                              opS P (S.ld 25 x23) fun x32 =>
                              opS P (S.ld 25 x28) fun x33 =>
                              opS P (S.build 38 [(0, (.int .i64 2)), (1, x18), (2, x32), (3, x30), (4, x33), (5, x29), (6, x31), (7, (.int .i64 20)), (8, (.int .i64 2)), (9, (.int .i64 15))]) fun x34 =>
                              opS P (S.build 80 [(0, x20), (1, x34)]) fun x35 =>
                              opS P (S.buildS 72 1 [(0, x35)]) fun x36 =>
                              opS P (S.bi .append #[72, 72] 72 [x6, x36]) fun x37 =>
                              opS P (S.binI .add x7 (.int .i64 1)) fun x38 =>
                              j1 x37 x38
                            )
                          )
                        ) (
                          allW (
                            opS P (S.ld 25 x28) fun x30 =>
                            allW (
                              opS P (S.ld 25 x23) fun x31 =>
                              allW (
                                opS P (S.ld 3 x26) fun x32 =>
                                opS P (S.cl 58 [x0]) fun x33 =>
                                opS P (S.build 38 [(0, (.int .i64 2)), (1, x18), (2, x31), (3, x32), (4, x30), (5, x29), (6, x33), (7, (.int .i64 20)), (8, (.int .i64 2)), (9, (.int .i64 15))]) fun x34 =>
                                opS P (S.build 80 [(0, x20), (1, x34)]) fun x35 =>
                                opS P (S.buildS 72 1 [(0, x35)]) fun x36 =>
                                opS P (S.bi .append #[72, 72] 72 [x6, x36]) fun x37 =>
                                opS P (S.binI .add x7 (.int .i64 1)) fun x38 =>
                                j1 x37 x38
                              ) (
                                opS P (S.cl 58 [x0]) fun x32 =>
                                opS P (S.ld 3 x26) fun x33 =>
                                opS P (S.build 38 [(0, (.int .i64 2)), (1, x18), (2, x31), (3, x33), (4, x30), (5, x29), (6, x32), (7, (.int .i64 20)), (8, (.int .i64 2)), (9, (.int .i64 15))]) fun x34 =>
                                opS P (S.build 80 [(0, x20), (1, x34)]) fun x35 =>
                                opS P (S.buildS 72 1 [(0, x35)]) fun x36 =>
                                opS P (S.bi .append #[72, 72] 72 [x6, x36]) fun x37 =>
                                opS P (S.binI .add x7 (.int .i64 1)) fun x38 =>
                                j1 x37 x38
                              )
                            ) (
                              allW (
                                opS P (S.ld 3 x26) fun x31 =>
                                allW (
                                  opS P (S.ld 25 x23) fun x32 =>
                                  opS P (S.cl 58 [x0]) fun x33 =>
                                  opS P (S.build 38 [(0, (.int .i64 2)), (1, x18), (2, x32), (3, x31), (4, x30), (5, x29), (6, x33), (7, (.int .i64 20)), (8, (.int .i64 2)), (9, (.int .i64 15))]) fun x34 =>
                                  opS P (S.build 80 [(0, x20), (1, x34)]) fun x35 =>
                                  opS P (S.buildS 72 1 [(0, x35)]) fun x36 =>
                                  opS P (S.bi .append #[72, 72] 72 [x6, x36]) fun x37 =>
                                  opS P (S.binI .add x7 (.int .i64 1)) fun x38 =>
                                  j1 x37 x38
                                ) (
                                  opS P (S.cl 58 [x0]) fun x32 =>
                                  opS P (S.ld 25 x23) fun x33 =>
                                  opS P (S.build 38 [(0, (.int .i64 2)), (1, x18), (2, x33), (3, x31), (4, x30), (5, x29), (6, x32), (7, (.int .i64 20)), (8, (.int .i64 2)), (9, (.int .i64 15))]) fun x34 =>
                                  opS P (S.build 80 [(0, x20), (1, x34)]) fun x35 =>
                                  opS P (S.buildS 72 1 [(0, x35)]) fun x36 =>
                                  opS P (S.bi .append #[72, 72] 72 [x6, x36]) fun x37 =>
                                  opS P (S.binI .add x7 (.int .i64 1)) fun x38 =>
                                  j1 x37 x38
                                )
                              ) (
                                opS P (S.cl 58 [x0]) fun x31 =>
                                opS P (S.ld 25 x23) fun x32 =>
                                opS P (S.ld 3 x26) fun x33 =>
                                opS P (S.build 38 [(0, (.int .i64 2)), (1, x18), (2, x32), (3, x33), (4, x30), (5, x29), (6, x31), (7, (.int .i64 20)), (8, (.int .i64 2)), (9, (.int .i64 15))]) fun x34 =>
                                opS P (S.build 80 [(0, x20), (1, x34)]) fun x35 =>
                                opS P (S.buildS 72 1 [(0, x35)]) fun x36 =>
                                opS P (S.bi .append #[72, 72] 72 [x6, x36]) fun x37 =>
                                opS P (S.binI .add x7 (.int .i64 1)) fun x38 =>
                                j1 x37 x38
                              )
                            )
                          ) (
                            opS P (S.cl 58 [x0]) fun x30 =>
                            opS P (S.ld 25 x23) fun x31 =>
                            opS P (S.ld 3 x26) fun x32 =>
                            opS P (S.ld 25 x28) fun x33 =>
                            opS P (S.build 38 [(0, (.int .i64 2)), (1, x18), (2, x31), (3, x32), (4, x33), (5, x29), (6, x30), (7, (.int .i64 20)), (8, (.int .i64 2)), (9, (.int .i64 15))]) fun x34 =>
                            opS P (S.build 80 [(0, x20), (1, x34)]) fun x35 =>
                            opS P (S.buildS 72 1 [(0, x35)]) fun x36 =>
                            opS P (S.bi .append #[72, 72] 72 [x6, x36]) fun x37 =>
                            opS P (S.binI .add x7 (.int .i64 1)) fun x38 =>
                            j1 x37 x38
                          )
                        )
                      )
                    ) fun j2 =>
                    opS P (S.nc x17) fun x20 =>
                    opS P (S.fa 70 x20 4) fun x21 =>
                    opS P (S.ld 3 x21) fun x22 =>
                    opS P (S.binI .neq x22 (.int .i64 2)) fun x23 =>
                    brn x23 (
                      opS P (S.nc x17) fun x24 =>
                      opS P (S.fa 70 x24 8) fun x25 =>
                      opS P (S.st 4 x25 (.bool false)) fun x26 =>
                      j2
                    ) (
                      j2
                    )
                  )
                ) (
                  j0 x6
                )
              ) (.slice none 0 0) (.int .i64 0)
            ) fun j0 =>
            brn x5 (
              opS P (S.nc x0) fun x6 =>
              opS P (S.fa 49 x6 4) fun x7 =>
              opS P (S.st 3 x7 x1) fun x8 =>
              j0
            ) (
              j0
            )
          ) fun j0 =>
          opS P (S.nc x0) fun x5 =>
          opS P (S.fa 49 x5 4) fun x6 =>
          opS P (S.ld 3 x6) fun x7 =>
          opS P (S.binI .lss x7 (.int .i64 0)) fun x8 =>
          brn x8 (
            j0 (.bool true)
          ) (
            opS P (S.nc x0) fun x9 =>
            opS P (S.fa 49 x9 4) fun x10 =>
            opS P (S.ld 3 x10) fun x11 =>
            opS P (S.binI .sub x1 x11) fun x12 =>
            opS P (S.binI .geq x12 (.int .i64 2)) fun x13 =>
            j0 x13
          )
        ) fun j0 =>
        loopJ 1 (fun j1 x5 =>
          opS P (S.nc x0) fun x6 =>
          opS P (S.fa 49 x6 1) fun x7 =>
          opS P (S.ld 46 x7) fun x8 =>
          opS P (S.len x8) fun x9 =>
          opS P (S.binI .lss x5 x9) fun x10 =>
          brn x10 (
            opS P (S.cl 56 [x0, x5, x1]) fun x11 =>
            opS P (S.binI .add x5 (.int .i64 1)) fun x12 =>
            j1 x12
          ) (
            j0
          )
        ) (.int .i64 0)
      ) fun j0 =>
      loopJ 1 (fun j1 x4 =>
        opS P (S.nc x0) fun x5 =>
        opS P (S.fa 49 x5 1) fun x6 =>
        opS P (S.ld 46 x6) fun x7 =>
        opS P (S.len x7) fun x8 =>
        opS P (S.binI .lss x4 x8) fun x9 =>
        brn x9 (
          drw <|
          opS P (S.nc x0) fun x10 =>
          opS P (S.fa 49 x10 1) fun x11 =>
          opS P (S.ld 46 x11) fun x12 =>
          opS P (S.ia 46 x12 x4) fun x13 =>
          opS P (S.ld 68 x13) fun x14 =>
          opS P (S.nc x0) fun x15 =>
          opS P (S.fa 49 x15 1) fun x16 =>
          opS P (S.ld 46 x16) fun x17 =>
          opS P (S.ia 46 x17 x4) fun x18 =>
          opS P (S.ld 68 x18) fun x19 =>
          opS P (S.nc x19) fun x20 =>
          opS P (S.fa 70 x20 0) fun x21 =>
          opS P (S.fa 61 x21 3) fun x22 =>
          opS P (S.ld 4 x22) fun x23 =>
          brn x23 (
            opS P (S.nc x0) fun x24 =>
            opS P (S.fa 49 x24 1) fun x25 =>
            opS P (S.ld 46 x25) fun x26 =>
            opS P (S.ia 46 x26 x4) fun x27 =>
            opS P (S.ld 68 x27) fun x28 =>
            opS P (S.nc x28) fun x29 =>
            opS P (S.fa 70 x29 2) fun x30 =>
            opS P (S.ld 3 x30) fun x31 =>
            opS P (S.binI .lss x1 x31) fun x32 =>
            opS P (S.nc x14) fun x33 =>
            opS P (S.fa 70 x33 0) fun x34 =>
            opS P (S.fa 61 x34 3) fun x35 =>
            opS P (S.st 4 x35 x32) fun x36 =>
            opS P (S.binI .add x4 (.int .i64 1)) fun x37 =>
            j1 x37
          ) (
            opS P (S.nc x14) fun x24 =>
            opS P (S.fa 70 x24 0) fun x25 =>
            opS P (S.fa 61 x25 3) fun x26 =>
            opS P (S.st 4 x26 (.bool false)) fun x27 =>
            opS P (S.binI .add x4 (.int .i64 1)) fun x28 =>
            j1 x28
          )
        ) (
          j0
        )
      ) (.int .i64 0)
    )
  )
instance fnb23 : FnB Tryz.prog 23 := ⟨Tryz.call23⟩
theorem e23 : p23 Tryz.prog = fun K x0 x1 => denF Tryz.prog Tryz.f23 [x0, x1] K := by kernel_rfl
theorem c23 {K : Value → World → Prop} {x0 x1 : Value} {w : World} (h : p23 Tryz.prog K x0 x1 w) : CallsR Tryz.prog 23 #[x0, x1] K w := by
  rw [e23] at h
  exact denF_sound mixed Tryz.func23 h

end Go.Gx.S
-- 22 23
end

section
/- What the functions of this program ask. -/
set_option linter.unusedVariables false
set_option maxRecDepth 100000
namespace Go.Gx.S
open Go Go.Gx Go.Proofs
-- (*gemel/span.Span).spoken
def p54 (P : Program) (K : Value → World → Prop) (x0 : Value) : World → Prop :=
  opS P (S.alloc 38) fun x1 =>
  jnJ 1 (fun x2 =>
    opS P (S.nc x0) fun x3 =>
    opS P (S.fa 58 x3 1) fun x4 =>
    opS P (S.ld 56 x4) fun x5 =>
    opS P (S.len x5) fun x6 =>
    jnJ 0 (
      opS P (S.ld 38 x2) fun x7 =>
      opS P (S.st 38 x1 x7) fun x8 =>
      opS P (S.ld 38 x1) fun x9 =>
      K x9
    ) fun j0 =>
    loopJ 1 (fun j1 x7 =>
      opS P (S.binI .lss x7 x6) fun x8 =>
      brn x8 (
        opS P (S.ia 56 x5 x7) fun x9 =>
        opS P (S.ld 59 x9) fun x10 =>
        opS P (S.nc x10) fun x11 =>
        opS P (S.fa 63 x11 4) fun x12 =>
        opS P (S.ld 3 x12) fun x13 =>
        opS P (S.binI .eql x13 (.int .i64 1)) fun x14 =>
        brn x14 (
          opS P (S.nc x10) fun x15 =>
          opS P (S.fa 63 x15 1) fun x16 =>
          opS P (S.ld 3 x16) fun x17 =>
          opS P (S.binI .add x17 (.int .i64 1)) fun x18 =>
          opS P (S.bi .min #[3, 3] 3 [x18, (.int .i64 65535)]) fun x19 =>
          opS P (S.fa 38 x2 6) fun x20 =>
          opS P (S.st 3 x20 x19) fun x21 =>
          opS P (S.binI .add x7 (.int .i64 1)) fun x22 =>
          j1 x22
        ) (
          opS P (S.binI .add x7 (.int .i64 1)) fun x15 =>
          j1 x15
        )
      ) (
        j0
      )
    ) (.int .i64 0)
  ) fun j0 =>
  drw <|
  opS P (S.nc x0) fun x2 =>
  opS P (S.fa 58 x2 2) fun x3 =>
  opS P (S.fa 44 x3 0) fun x4 =>
  opS P (S.nc x0) fun x5 =>
  opS P (S.fa 58 x5 2) fun x6 =>
  opS P (S.fa 44 x6 1) fun x7 =>
  opS P (S.nc x0) fun x8 =>
  opS P (S.fa 58 x8 0) fun x9 =>
  allW (
    opS P (S.ld 25 x4) fun x10 =>
    allW (
      opS P (S.ld 3 x7) fun x11 =>
      allW (
        opS P (S.ld 25 x9) fun x12 =>
        opS P (S.build 38 [(0, (.int .i64 2)), (2, x10), (3, x11), (4, x12), (7, (.int .i64 20)), (8, (.int .i64 2)), (9, (.int .i64 15))]) fun x13 =>
        opS P (S.alloc 38) fun x14 =>
        opS P (S.st 38 x14 x13) fun x15 =>
        j0 x14
      ) (
        opS P (S.alloc 38) fun x12 =>
        opS P (S.ld 25 x9) fun x13 =>
        opS P (S.build 38 [(0, (.int .i64 2)), (2, x10), (3, x11), (4, x13), (7, (.int .i64 20)), (8, (.int .i64 2)), (9, (.int .i64 15))]) fun x14 =>
        opS P (S.st 38 x12 x14) fun x15 =>
        j0 x12
      )
    ) (
      allW (
        opS P (S.ld 25 x9) fun x11 =>
        allW (
          opS P (S.ld 3 x7) fun x12 =>
          opS P (S.build 38 [(0, (.int .i64 2)), (2, x10), (3, x12), (4, x11), (7, (.int .i64 20)), (8, (.int .i64 2)), (9, (.int .i64 15))]) fun x13 =>
          opS P (S.alloc 38) fun x14 =>
          opS P (S.st 38 x14 x13) fun x15 =>
          j0 x14
        ) (
          opS P (S.alloc 38) fun x12 =>
          opS P (S.ld 3 x7) fun x13 =>
          opS P (S.build 38 [(0, (.int .i64 2)), (2, x10), (3, x13), (4, x11), (7, (.int .i64 20)), (8, (.int .i64 2)), (9, (.int .i64 15))]) fun x14 =>
          opS P (S.st 38 x12 x14) fun x15 =>
          j0 x12
        )
      ) (
        opS P (S.alloc 38) fun x11 =>
        opS P (S.ld 3 x7) fun x12 =>
        opS P (S.ld 25 x9) fun x13 =>
        opS P (S.build 38 [(0, (.int .i64 2)), (2, x10), (3, x12), (4, x13), (7, (.int .i64 20)), (8, (.int .i64 2)), (9, (.int .i64 15))]) fun x14 =>
        opS P (S.st 38 x11 x14) fun x15 =>
        j0 x11
      )
    )
  ) (
    allW (
      opS P (S.ld 3 x7) fun x10 =>
      allW (
        opS P (S.ld 25 x4) fun x11 =>
        allW (
          opS P (S.ld 25 x9) fun x12 =>
          opS P (S.build 38 [(0, (.int .i64 2)), (2, x11), (3, x10), (4, x12), (7, (.int .i64 20)), (8, (.int .i64 2)), (9, (.int .i64 15))]) fun x13 =>
          opS P (S.alloc 38) fun x14 =>
          opS P (S.st 38 x14 x13) fun x15 =>
          j0 x14
        ) (
          opS P (S.alloc 38) fun x12 =>
          opS P (S.ld 25 x9) fun x13 =>
          opS P (S.build 38 [(0, (.int .i64 2)), (2, x11), (3, x10), (4, x13), (7, (.int .i64 20)), (8, (.int .i64 2)), (9, (.int .i64 15))]) fun x14 =>
          opS P (S.st 38 x12 x14) fun x15 =>
          j0 x12
        )
      ) (
        allW (
          opS P (S.ld 25 x9) fun x11 =>
          allW (
            opS P (S.ld 25 x4) fun x12 =>
            opS P (S.build 38 [(0, (.int .i64 2)), (2, x12), (3, x10), (4, x11), (7, (.int .i64 20)), (8, (.int .i64 2)), (9, (.int .i64 15))]) fun x13 =>
            opS P (S.alloc 38) fun x14 =>
            opS P (S.st 38 x14 x13) fun x15 =>
            j0 x14
          ) (
            opS P (S.alloc 38) fun x12 =>
            opS P (S.ld 25 x4) fun x13 =>
            opS P (S.build 38 [(0, (.int .i64 2)), (2, x13), (3, x10), (4, x11), (7, (.int .i64 20)), (8, (.int .i64 2)), (9, (.int .i64 15))]) fun x14 =>
            opS P (S.st 38 x12 x14) fun x15 =>
            j0 x12
          )
        ) (
          opS P (S.alloc 38) fun x11 =>
          opS P (S.ld 25 x4) fun x12 =>
          opS P (S.ld 25 x9) fun x13 =>
          opS P (S.build 38 [(0, (.int .i64 2)), (2, x12), (3, x10), (4, x13), (7, (.int .i64 20)), (8, (.int .i64 2)), (9, (.int .i64 15))]) fun x14 =>
          opS P (S.st 38 x11 x14) fun x15 =>
          j0 x11
        )
      )
    ) (
      allW (
        opS P (S.ld 25 x9) fun x10 =>
        allW (
          opS P (S.ld 25 x4) fun x11 =>
          allW (
            opS P (S.ld 3 x7) fun x12 =>
            opS P (S.build 38 [(0, (.int .i64 2)), (2, x11), (3, x12), (4, x10), (7, (.int .i64 20)), (8, (.int .i64 2)), (9, (.int .i64 15))]) fun x13 =>
            opS P (S.alloc 38) fun x14 =>
            opS P (S.st 38 x14 x13) fun x15 =>
            j0 x14
          ) (
            opS P (S.alloc 38) fun x12 =>
            opS P (S.ld 3 x7) fun x13 =>
            opS P (S.build 38 [(0, (.int .i64 2)), (2, x11), (3, x13), (4, x10), (7, (.int .i64 20)), (8, (.int .i64 2)), (9, (.int .i64 15))]) fun x14 =>
            opS P (S.st 38 x12 x14) fun x15 =>
            j0 x12
          )
        ) (
          allW (
            opS P (S.ld 3 x7) fun x11 =>
            allW (
              opS P (S.ld 25 x4) fun x12 =>
              opS P (S.build 38 [(0, (.int .i64 2)), (2, x12), (3, x11), (4, x10), (7, (.int .i64 20)), (8, (.int .i64 2)), (9, (.int .i64 15))]) fun x13 =>
              opS P (S.alloc 38) fun x14 =>
              opS P (S.st 38 x14 x13) fun x15 =>
              j0 x14
            ) (
              opS P (S.alloc 38) fun x12 =>
              opS P (S.ld 25 x4) fun x13 =>
              opS P (S.build 38 [(0, (.int .i64 2)), (2, x13), (3, x11), (4, x10), (7, (.int .i64 20)), (8, (.int .i64 2)), (9, (.int .i64 15))]) fun x14 =>
              opS P (S.st 38 x12 x14) fun x15 =>
              j0 x12
            )
          ) (
            opS P (S.alloc 38) fun x11 =>
            opS P (S.ld 25 x4) fun x12 =>
            opS P (S.ld 3 x7) fun x13 =>
            opS P (S.build 38 [(0, (.int .i64 2)), (2, x12), (3, x13), (4, x10), (7, (.int .i64 20)), (8, (.int .i64 2)), (9, (.int .i64 15))]) fun x14 =>
            opS P (S.st 38 x11 x14) fun x15 =>
            j0 x11
          )
        )
      ) (
        opS P (S.alloc 38) fun x10 =>
        opS P (S.ld 25 x4) fun x11 =>
        opS P (S.ld 3 x7) fun x12 =>
        opS P (S.ld 25 x9) fun x13 =>
        opS P (S.build 38 [(0, (.int .i64 2)), (2, x11), (3, x12), (4, x13), (7, (.int .i64 20)), (8, (.int .i64 2)), (9, (.int .i64 15))]) fun x14 =>
        opS P (S.st 38 x10 x14) fun x15 =>
        j0 x10
      )
    )
  )
instance fnb54 : FnB Tryz.prog 54 := ⟨Tryz.call54⟩
theorem e54 : p54 Tryz.prog = fun K x0 => denF Tryz.prog Tryz.f54 [x0] K := by kernel_rfl
theorem c54 {K : Value → World → Prop} {x0 : Value} {w : World} (h : p54 Tryz.prog K x0 w) : CallsR Tryz.prog 54 #[x0] K w := by
  rw [e54] at h
  exact denF_sound mixed Tryz.func54 h

-- (*gemel/gemelref18.Span).age
def p58 (P : Program) (K : Value → World → Prop) (x0 : Value) : World → Prop :=
  jnJ 0 (
    K (.int .i64 0)
  ) fun j0 =>
  loopJ 1 (fun j1 x1 =>
    opS P (S.nc x0) fun x2 =>
    opS P (S.fa 49 x2 1) fun x3 =>
    opS P (S.ld 46 x3) fun x4 =>
    opS P (S.len x4) fun x5 =>
    opS P (S.binI .lss x1 x5) fun x6 =>
    brn x6 (
      opS P (S.nc x0) fun x7 =>
      opS P (S.fa 49 x7 1) fun x8 =>
      opS P (S.ld 46 x8) fun x9 =>
      opS P (S.ia 46 x9 x1) fun x10 =>
      opS P (S.ld 68 x10) fun x11 =>
      opS P (S.nc x11) fun x12 =>
      opS P (S.fa 70 x12 4) fun x13 =>
      opS P (S.ld 3 x13) fun x14 =>
      opS P (S.binI .eql x14 (.int .i64 1)) fun x15 =>
      brn x15 (
        opS P (S.nc x0) fun x16 =>
        opS P (S.fa 49 x16 1) fun x17 =>
        opS P (S.ld 46 x17) fun x18 =>
        opS P (S.ia 46 x18 x1) fun x19 =>
        opS P (S.ld 68 x19) fun x20 =>
        opS P (S.nc x20) fun x21 =>
        opS P (S.fa 70 x21 1) fun x22 =>
        opS P (S.ld 3 x22) fun x23 =>
        opS P (S.binI .add x23 (.int .i64 1)) fun x24 =>
        opS P (S.bi .min #[3, 3] 3 [x24, (.int .i64 65535)]) fun x25 =>
        K x25
      ) (
        opS P (S.binI .add x1 (.int .i64 1)) fun x16 =>
        j1 x16
      )
    ) (
      j0
    )
  ) (.int .i64 0)
instance fnb58 : FnB Tryz.prog 58 := ⟨Tryz.call58⟩
theorem e58 : p58 Tryz.prog = fun K x0 => denF Tryz.prog Tryz.f58 [x0] K := by kernel_rfl
theorem c58 {K : Value → World → Prop} {x0 : Value} {w : World} (h : p58 Tryz.prog K x0 w) : CallsR Tryz.prog 58 #[x0] K w := by
  rw [e58] at h
  exact denF_sound mixed Tryz.func58 h

end Go.Gx.S
-- 54 58
end

section
/- What the functions of this program ask. -/
set_option linter.unusedVariables false
set_option maxRecDepth 100000
namespace Go.Gx.S
open Go Go.Gx Go.Proofs
-- (*gemel/span.Span).goes
def p53 (P : Program) (K : Value → World → Prop) (x0 : Value) (x1 : Value) (x2 : Value) : World → Prop :=
  opS P (S.nc x1) fun x3 =>
  opS P (S.fa 63 x3 4) fun x4 =>
  opS P (S.ld 3 x4) fun x5 =>
  opS P (S.binI .neq x5 (.int .i64 2)) fun x6 =>
  brn x6 (
    K (.tuple #[])
  ) (
    opS P (S.nc x1) fun x7 =>
    opS P (S.fa 63 x7 6) fun x8 =>
    opS P (S.ld 3 x8) fun x9 =>
    opS P (S.binI .lss x2 x9) fun x10 =>
    brn x10 (
      K (.tuple #[])
    ) (
      opS P (S.nc x1) fun x11 =>
      opS P (S.fa 63 x11 5) fun x12 =>
      opS P (S.ld 3 x12) fun x13 =>
      opS P (S.binI .eql x13 (.int .i64 0)) fun x14 =>
      brn x14 (
        opS P (S.binI .add x2 (.int .i64 15)) fun x15 =>
        opS P (S.nc x1) fun x16 =>
        opS P (S.fa 63 x16 5) fun x17 =>
        opS P (S.st 3 x17 (.int .i64 1)) fun x18 =>
        opS P (S.nc x1) fun x19 =>
        opS P (S.fa 63 x19 6) fun x20 =>
        opS P (S.st 3 x20 x15) fun x21 =>
        K (.tuple #[])
      ) (
        opS P (S.nc x1) fun x15 =>
        opS P (S.fa 63 x15 5) fun x16 =>
        opS P (S.ld 3 x16) fun x17 =>
        opS P (S.binI .eql x17 (.int .i64 1)) fun x18 =>
        brn x18 (
          opS P (S.cl 45 [x0, x1, x2]) fun x19 =>
          K (.tuple #[])
        ) (
          K (.tuple #[])
        )
      )
    )
  )
instance fnb53 : FnB Tryz.prog 53 := ⟨Tryz.call53⟩
theorem e53 : p53 Tryz.prog = fun K x0 x1 x2 => denF Tryz.prog Tryz.f53 [x0, x1, x2] K := by kernel_rfl
theorem c53 {K : Value → World → Prop} {x0 x1 x2 : Value} {w : World} (h : p53 Tryz.prog K x0 x1 x2 w) : CallsR Tryz.prog 53 #[x0, x1, x2] K w := by
  rw [e53] at h
  exact denF_sound mixed Tryz.func53 h

-- (*gemel/span.Span).flags
def p55 (P : Program) (K : Value → World → Prop) (x0 : Value) (x1 : Value) (x2 : Value) (x3 : Value) : World → Prop :=
  opS P (S.alloc 3) fun x4 =>
  opS P (S.st 3 x4 (.int .i64 0)) fun x5 =>
  opS P (S.mkf (.func 75) [] [x4]) fun x6 =>
  opS P (S.nc x1) fun x7 =>
  opS P (S.fa 63 x7 4) fun x8 =>
  opS P (S.ld 3 x8) fun x9 =>
  opS P (S.binI .eql x9 (.int .i64 1)) fun x10 =>
  jnJ 0 (
    opS P (S.ld 3 x4) fun x11 =>
    opS P (S.binI .eql x11 (.int .i64 0)) fun x12 =>
    brn x12 (
      K (.int .i64 0)
    ) (
      opS P (S.nc x1) fun x13 =>
      opS P (S.fa 63 x13 0) fun x14 =>
      opS P (S.fa 61 x14 2) fun x15 =>
      opS P (S.ld 4 x15) fun x16 =>
      opS P (S.un .not x16) fun x17 =>
      brn x17 (
        K (.int .i64 0)
      ) (
        opS P (S.nc x1) fun x18 =>
        opS P (S.fa 63 x18 5) fun x19 =>
        opS P (S.ld 3 x19) fun x20 =>
        opS P (S.binI .neq x20 (.int .i64 0)) fun x21 =>
        opS P (S.call x6 [x21, (.int .i64 16)]) fun x22 =>
        opS P (S.nc x1) fun x23 =>
        opS P (S.fa 63 x23 5) fun x24 =>
        opS P (S.ld 3 x24) fun x25 =>
        opS P (S.binI .eql x25 (.int .i64 2)) fun x26 =>
        opS P (S.call x6 [x26, (.int .i64 32)]) fun x27 =>
        opS P (S.nc x0) fun x28 =>
        opS P (S.fa 58 x28 3) fun x29 =>
        opS P (S.ld 3 x29) fun x30 =>
        opS P (S.binI .lss x3 x30) fun x31 =>
        opS P (S.call x6 [x31, (.int .i64 1)]) fun x32 =>
        opS P (S.ld 3 x4) fun x33 =>
        K x33
      )
    )
  ) fun j0 =>
  opS P (S.nc x1) fun x11 =>
  opS P (S.fa 63 x11 4) fun x12 =>
  opS P (S.ld 3 x12) fun x13 =>
  opS P (S.binI .eql x13 (.int .i64 2)) fun x14 =>
  brn x14 (
    opS P (S.call x6 [x2, (.int .i64 12)]) fun x15 =>
    jnJ 0 (
      j0
    ) fun j1 =>
    brn x2 (
      opS P (S.nc x1) fun x16 =>
      opS P (S.fa 63 x16 5) fun x17 =>
      opS P (S.ld 3 x17) fun x18 =>
      opS P (S.binI .neq x18 (.int .i64 2)) fun x19 =>
      opS P (S.call x6 [x19, (.int .i64 2)]) fun x20 =>
      j1
    ) (
      opS P (S.call x6 [(.bool false), (.int .i64 2)]) fun x16 =>
      j1
    )
  ) (
    jnJ 1 (fun x15 =>
      jnJ 0 (
        jnJ 0 (
          opS P (S.nc x1) fun x16 =>
          opS P (S.fa 63 x16 8) fun x17 =>
          opS P (S.ld 4 x17) fun x18 =>
          opS P (S.call x6 [x18, (.int .i64 64)]) fun x19 =>
          j0
        ) fun j1 =>
        brn x15 (
          opS P (S.un .not x10) fun x16 =>
          opS P (S.call x6 [x16, (.int .i64 4)]) fun x17 =>
          j1
        ) (
          opS P (S.call x6 [(.bool false), (.int .i64 4)]) fun x16 =>
          j1
        )
      ) fun j1 =>
      brn x15 (
        opS P (S.call x6 [x10, (.int .i64 8)]) fun x16 =>
        j1
      ) (
        opS P (S.call x6 [(.bool false), (.int .i64 8)]) fun x16 =>
        j1
      )
    ) fun j1 =>
    opS P (S.nc x1) fun x15 =>
    opS P (S.fa 63 x15 8) fun x16 =>
    opS P (S.ld 4 x16) fun x17 =>
    brn x17 (
      j1 (.bool true)
    ) (
      brn x10 (
        brn x2 (
          opS P (S.nc x0) fun x18 =>
          opS P (S.fa 58 x18 3) fun x19 =>
          opS P (S.ld 3 x19) fun x20 =>
          opS P (S.binI .lss x3 x20) fun x21 =>
          j1 x21
        ) (
          j1 (.bool false)
        )
      ) (
        j1 (.bool false)
      )
    )
  )
instance fnb55 : FnB Tryz.prog 55 := ⟨Tryz.call55⟩
theorem e55 : p55 Tryz.prog = fun K x0 x1 x2 x3 => denF Tryz.prog Tryz.f55 [x0, x1, x2, x3] K := by kernel_rfl
theorem c55 {K : Value → World → Prop} {x0 x1 x2 x3 : Value} {w : World} (h : p55 Tryz.prog K x0 x1 x2 x3 w) : CallsR Tryz.prog 55 #[x0, x1, x2, x3] K w := by
  rw [e55] at h
  exact denF_sound mixed Tryz.func55 h

-- (*gemel/gemelref18.Span).goes
def p56 (P : Program) (K : Value → World → Prop) (x0 : Value) (x1 : Value) (x2 : Value) : World → Prop :=
  opS P (S.nc x0) fun x3 =>
  opS P (S.fa 49 x3 1) fun x4 =>
  opS P (S.ld 46 x4) fun x5 =>
  opS P (S.ia 46 x5 x1) fun x6 =>
  opS P (S.ld 68 x6) fun x7 =>
  opS P (S.nc x7) fun x8 =>
  opS P (S.fa 70 x8 4) fun x9 =>
  opS P (S.ld 3 x9) fun x10 =>
  opS P (S.binI .neq x10 (.int .i64 2)) fun x11 =>
  brn x11 (
    K (.tuple #[])
  ) (
    opS P (S.nc x7) fun x12 =>
    opS P (S.fa 70 x12 5) fun x13 =>
    opS P (S.ld 3 x13) fun x14 =>
    opS P (S.binI .eql x14 (.int .i64 2)) fun x15 =>
    brn x15 (
      K (.tuple #[])
    ) (
      opS P (S.nc x7) fun x16 =>
      opS P (S.fa 70 x16 6) fun x17 =>
      opS P (S.ld 3 x17) fun x18 =>
      opS P (S.binI .lss x2 x18) fun x19 =>
      brn x19 (
        K (.tuple #[])
      ) (
        opS P (S.nc x7) fun x20 =>
        opS P (S.fa 70 x20 5) fun x21 =>
        opS P (S.ld 3 x21) fun x22 =>
        opS P (S.binI .eql x22 (.int .i64 0)) fun x23 =>
        brn x23 (
          opS P (S.nc x7) fun x24 =>
          opS P (S.fa 70 x24 5) fun x25 =>
          opS P (S.st 3 x25 (.int .i64 1)) fun x26 =>
          opS P (S.binI .add x2 (.int .i64 15)) fun x27 =>
          opS P (S.nc x7) fun x28 =>
          opS P (S.fa 70 x28 6) fun x29 =>
          opS P (S.st 3 x29 x27) fun x30 =>
          K (.tuple #[])
        ) (
          opS P (S.cl 52 [x0, x1, x2]) fun x24 =>
          K (.tuple #[])
        )
      )
    )
  )
instance fnb56 : FnB Tryz.prog 56 := ⟨Tryz.call56⟩
theorem e56 : p56 Tryz.prog = fun K x0 x1 x2 => denF Tryz.prog Tryz.f56 [x0, x1, x2] K := by kernel_rfl
theorem c56 {K : Value → World → Prop} {x0 x1 x2 : Value} {w : World} (h : p56 Tryz.prog K x0 x1 x2 w) : CallsR Tryz.prog 56 #[x0, x1, x2] K w := by
  rw [e56] at h
  exact denF_sound mixed Tryz.func56 h

-- (*gemel/gemelref18.Span).flags
def p57 (P : Program) (K : Value → World → Prop) (x0 : Value) (x1 : Value) (x2 : Value) (x3 : Value) : World → Prop :=
  jnJ 1 (fun x4 =>
    opS P (S.binI .eql x4 (.int .i64 0)) fun x5 =>
    brn x5 (
      K (.int .i64 0)
    ) (
      jnJ 1 (fun x6 =>
        jnJ 1 (fun x7 =>
          opS P (S.nc x0) fun x8 =>
          opS P (S.fa 49 x8 3) fun x9 =>
          opS P (S.ld 3 x9) fun x10 =>
          opS P (S.binI .lss x3 x10) fun x11 =>
          brn x11 (
            opS P (S.binI .or x7 (.int .i64 1)) fun x12 =>
            K x12
          ) (
            K x7
          )
        ) fun j0 =>
        opS P (S.nc x1) fun x7 =>
        opS P (S.fa 70 x7 5) fun x8 =>
        opS P (S.ld 3 x8) fun x9 =>
        opS P (S.binI .eql x9 (.int .i64 2)) fun x10 =>
        brn x10 (
          opS P (S.binI .or x6 (.int .i64 32)) fun x11 =>
          j0 x11
        ) (
          j0 x6
        )
      ) fun j0 =>
      opS P (S.nc x1) fun x6 =>
      opS P (S.fa 70 x6 5) fun x7 =>
      opS P (S.ld 3 x7) fun x8 =>
      opS P (S.binI .neq x8 (.int .i64 0)) fun x9 =>
      brn x9 (
        opS P (S.binI .or x4 (.int .i64 16)) fun x10 =>
        j0 x10
      ) (
        j0 x4
      )
    )
  ) fun j0 =>
  opS P (S.nc x1) fun x4 =>
  opS P (S.fa 70 x4 0) fun x5 =>
  opS P (S.fa 61 x5 2) fun x6 =>
  opS P (S.ld 4 x6) fun x7 =>
  opS P (S.un .not x7) fun x8 =>
  brn x8 (
    j0 (.int .i64 0)
  ) (
    jnJ 1 (fun x9 =>
      j0 x9
    ) fun j1 =>
    opS P (S.nc x1) fun x9 =>
    opS P (S.fa 70 x9 4) fun x10 =>
    opS P (S.ld 3 x10) fun x11 =>
    opS P (S.binI .eql x11 (.int .i64 2)) fun x12 =>
    brn x12 (
      jnJ 1 (fun x13 =>
        jnJ 1 (fun x14 =>
          j1 x14
        ) fun j2 =>
        jnJ 0 (
          j2 x13
        ) fun j3 =>
        brn x2 (
          opS P (S.nc x1) fun x14 =>
          opS P (S.fa 70 x14 5) fun x15 =>
          opS P (S.ld 3 x15) fun x16 =>
          opS P (S.binI .neq x16 (.int .i64 2)) fun x17 =>
          brn x17 (
            opS P (S.binI .or x13 (.int .i64 2)) fun x18 =>
            j2 x18
          ) (
            j3
          )
        ) (
          j3
        )
      ) fun j2 =>
      brn x2 (
        j2 (.int .i64 12)
      ) (
        j2 (.int .i64 0)
      )
    ) (
      jnJ 1 (fun x13 =>
        jnJ 1 (fun x14 =>
          j1 x14
        ) fun j2 =>
        opS P (S.nc x1) fun x14 =>
        opS P (S.fa 70 x14 8) fun x15 =>
        opS P (S.ld 4 x15) fun x16 =>
        brn x16 (
          opS P (S.binI .or x13 (.int .i64 64)) fun x17 =>
          j2 x17
        ) (
          j2 x13
        )
      ) fun j2 =>
      jnJ 0 (
        jnJ 1 (fun x13 =>
          j2 x13
        ) fun j3 =>
        opS P (S.nc x1) fun x13 =>
        opS P (S.fa 70 x13 4) fun x14 =>
        opS P (S.ld 3 x14) fun x15 =>
        opS P (S.binI .eql x15 (.int .i64 1)) fun x16 =>
        brn x16 (
          j3 (.int .i64 8)
        ) (
          j3 (.int .i64 4)
        )
      ) fun j3 =>
      jnJ 0 (
        j2 (.int .i64 0)
      ) fun j4 =>
      opS P (S.nc x1) fun x13 =>
      opS P (S.fa 70 x13 8) fun x14 =>
      opS P (S.ld 4 x14) fun x15 =>
      brn x15 (
        j3
      ) (
        opS P (S.nc x1) fun x16 =>
        opS P (S.fa 70 x16 4) fun x17 =>
        opS P (S.ld 3 x17) fun x18 =>
        opS P (S.binI .eql x18 (.int .i64 1)) fun x19 =>
        brn x19 (
          brn x2 (
            opS P (S.nc x0) fun x20 =>
            opS P (S.fa 49 x20 3) fun x21 =>
            opS P (S.ld 3 x21) fun x22 =>
            opS P (S.binI .lss x3 x22) fun x23 =>
            brn x23 (
              j3
            ) (
              j4
            )
          ) (
            j4
          )
        ) (
          j4
        )
      )
    )
  )
instance fnb57 : FnB Tryz.prog 57 := ⟨Tryz.call57⟩
theorem e57 : p57 Tryz.prog = fun K x0 x1 x2 x3 => denF Tryz.prog Tryz.f57 [x0, x1, x2, x3] K := by kernel_rfl
theorem c57 {K : Value → World → Prop} {x0 x1 x2 x3 : Value} {w : World} (h : p57 Tryz.prog K x0 x1 x2 x3 w) : CallsR Tryz.prog 57 #[x0, x1, x2, x3] K w := by
  rw [e57] at h
  exact denF_sound mixed Tryz.func57 h

-- (*gemel/span.Span).flags$1
def p75 (P : Program) (K : Value → World → Prop) (x0 : Value) (x1 : Value) (x2 : Value) : World → Prop :=
  brn x0 (
    opS P (S.ld 3 x2) fun x3 =>
    opS P (S.binI .or x3 x1) fun x4 =>
    opS P (S.st 3 x2 x4) fun x5 =>
    K (.tuple #[])
  ) (
    K (.tuple #[])
  )
instance fnb75 : FnB Tryz.prog 75 := ⟨Tryz.call75⟩
theorem e75 : p75 Tryz.prog = fun K x0 x1 x2 => denF Tryz.prog Tryz.f75 [x0, x1, x2] K := by kernel_rfl
theorem c75 {K : Value → World → Prop} {x0 x1 x2 : Value} {w : World} (h : p75 Tryz.prog K x0 x1 x2 w) : CallsR Tryz.prog 75 #[x0, x1, x2] K w := by
  rw [e75] at h
  exact denF_sound mixed Tryz.func75 h

end Go.Gx.S
-- 53 56 55 75 57
end

section
/- What the functions of this program ask. -/
set_option linter.unusedVariables false
set_option maxRecDepth 100000
namespace Go.Gx.S
open Go Go.Gx Go.Proofs
-- (*gemel/span.Span).Take
def p20 (P : Program) (K : Value → World → Prop) (x0 : Value) (x1 : Value) (x2 : Value) (x3 : Value) : World → Prop :=
  opS P (S.box 38 x2) fun x4 =>
  opS P (S.cl 37 [x0, x1]) fun x5 =>
  opS P (S.binN .eql (S.isNilP x5)) fun x6 =>
  brn x6 (
    K (.int .i64 1)
  ) (
    opS P (S.cl 38 [x3]) fun x7 =>
    opS P (S.un .not x7) fun x8 =>
    brn x8 (
      K (.int .i64 1)
    ) (
      opS P (S.ld 38 x4) fun x9 =>
      opS P (S.cl 39 [x9]) fun x10 =>
      opS P (S.un .not x10) fun x11 =>
      brn x11 (
        K (.int .i64 1)
      ) (
        opS P (S.nc x5) fun x12 =>
        opS P (S.fa 63 x12 0) fun x13 =>
        opS P (S.fa 61 x13 2) fun x14 =>
        opS P (S.ld 4 x14) fun x15 =>
        opS P (S.un .not x15) fun x16 =>
        brn x16 (
          K (.int .i64 7)
        ) (
          opS P (S.fa 38 x4 0) fun x17 =>
          opS P (S.ld 3 x17) fun x18 =>
          opS P (S.binI .eql x18 (.int .i64 128)) fun x19 =>
          brn x19 (
            opS P (S.cl 40 [x0, x5, x3]) fun x20 =>
            K (.int .i64 0)
          ) (
            opS P (S.nc x5) fun x20 =>
            opS P (S.fa 63 x20 3) fun x21 =>
            opS P (S.st 4 x21 (.bool false)) fun x22 =>
            opS P (S.fa 38 x4 1) fun x23 =>
            opS P (S.ld 3 x23) fun x24 =>
            opS P (S.alloc 3) fun x25 =>
            opS P (S.st 3 x25 x24) fun x26 =>
            jnJ 0 (
              opS P (S.ld 3 x25) fun x27 =>
              opS P (S.binI .and x27 (.int .i64 12)) fun x28 =>
              opS P (S.binI .eql x28 (.int .i64 12)) fun x29 =>
              opS P (S.mkf (.func 41) [] [x25]) fun x30 =>
              jnJ 0 (
                jnJ 0 (
                  opS P (S.call x30 [(.int .i64 1)]) fun x31 =>
                  brn x31 (
                    opS P (S.cl 40 [x0, x5, x3]) fun x32 =>
                    K (.int .i64 0)
                  ) (
                    K (.int .i64 0)
                  )
                ) fun j0 =>
                jnJ 0 (
                  j0
                ) fun j1 =>
                drw <|
                opS P (S.un .not x29) fun x31 =>
                brn x31 (
                  opS P (S.call x30 [(.int .i64 64)]) fun x32 =>
                  brn x32 (
                    opS P (S.nc x5) fun x33 =>
                    opS P (S.fa 63 x33 4) fun x34 =>
                    opS P (S.ld 3 x34) fun x35 =>
                    opS P (S.binI .eql x35 (.int .i64 2)) fun x36 =>
                    brn x36 (
                      opS P (S.fa 38 x4 2) fun x37 =>
                      opS P (S.ld 25 x37) fun x38 =>
                      opS P (S.nc x0) fun x39 =>
                      opS P (S.fa 58 x39 2) fun x40 =>
                      opS P (S.fa 44 x40 0) fun x41 =>
                      opS P (S.ld 25 x41) fun x42 =>
                      opS P (S.binG .eql 25 x38 x42) fun x43 =>
                      brn x43 (
                        opS P (S.nc x5) fun x44 =>
                        opS P (S.fa 63 x44 7) fun x45 =>
                        opS P (S.st 4 x45 (.bool true)) fun x46 =>
                        opS P (S.cl 45 [x0, x5, x3]) fun x47 =>
                        j0
                      ) (
                        j1
                      )
                    ) (
                      j1
                    )
                  ) (
                    j1
                  )
                ) (
                  j1
                )
              ) fun j0 =>
              jnJ 0 (
                j0
              ) fun j1 =>
              brn x29 (
                opS P (S.fa 38 x4 6) fun x31 =>
                opS P (S.ld 3 x31) fun x32 =>
                opS P (S.binI .lss x32 (.int .i64 20)) fun x33 =>
                brn x33 (
                  opS P (S.ld 38 x4) fun x34 =>
                  opS P (S.cl 42 [x5, x34, x3]) fun x35 =>
                  opS P (S.cl 43 [x0, x3]) fun x36 =>
                  jnJ 0 (
                    j0
                  ) fun j2 =>
                  opS P (S.call x30 [(.int .i64 2)]) fun x37 =>
                  brn x37 (
                    opS P (S.cl 44 [x0, x5, x3]) fun x38 =>
                    j2
                  ) (
                    j2
                  )
                ) (
                  j1
                )
              ) (
                j1
              )
            ) fun j0 =>
            opS P (S.fa 38 x4 0) fun x27 =>
            opS P (S.ld 3 x27) fun x28 =>
            opS P (S.binI .eql x28 (.int .i64 0)) fun x29 =>
            brn x29 (
              opS P (S.st 3 x25 (.int .i64 12)) fun x30 =>
              j0
            ) (
              j0
            )
          )
        )
      )
    )
  )
instance fnb20 : FnB Tryz.prog 20 := ⟨Tryz.call20⟩
theorem e20 : p20 Tryz.prog = fun K x0 x1 x2 x3 => denF Tryz.prog Tryz.f20 [x0, x1, x2, x3] K := by kernel_rfl
theorem c20 {K : Value → World → Prop} {x0 x1 x2 x3 : Value} {w : World} (h : p20 Tryz.prog K x0 x1 x2 x3 w) : CallsR Tryz.prog 20 #[x0, x1, x2, x3] K w := by
  rw [e20] at h
  exact denF_sound mixed Tryz.func20 h

-- (*gemel/gemelref18.Span).Take
def p21 (P : Program) (K : Value → World → Prop) (x0 : Value) (x1 : Value) (x2 : Value) (x3 : Value) : World → Prop :=
  opS P (S.box 38 x2) fun x4 =>
  opS P (S.cl 46 [x0, x1, x3]) fun x5 =>
  opS P (S.un .not x5) fun x6 =>
  brn x6 (
    K (.int .i64 1)
  ) (
    opS P (S.ld 38 x4) fun x7 =>
    opS P (S.cl 47 [x7]) fun x8 =>
    opS P (S.un .not x8) fun x9 =>
    brn x9 (
      K (.int .i64 1)
    ) (
      opS P (S.nc x0) fun x10 =>
      opS P (S.fa 49 x10 1) fun x11 =>
      opS P (S.ld 46 x11) fun x12 =>
      opS P (S.binI .sub x1 (.int .i64 1)) fun x13 =>
      opS P (S.ia 46 x12 x13) fun x14 =>
      opS P (S.ld 68 x14) fun x15 =>
      opS P (S.nc x15) fun x16 =>
      opS P (S.fa 70 x16 0) fun x17 =>
      opS P (S.fa 61 x17 2) fun x18 =>
      opS P (S.ld 4 x18) fun x19 =>
      opS P (S.un .not x19) fun x20 =>
      brn x20 (
        K (.int .i64 7)
      ) (
        opS P (S.fa 38 x4 0) fun x21 =>
        opS P (S.ld 3 x21) fun x22 =>
        opS P (S.binI .eql x22 (.int .i64 128)) fun x23 =>
        brn x23 (
          opS P (S.binI .sub x1 (.int .i64 1)) fun x24 =>
          opS P (S.cl 48 [x0, x24, x3]) fun x25 =>
          K (.int .i64 0)
        ) (
          opS P (S.nc x15) fun x24 =>
          opS P (S.fa 70 x24 3) fun x25 =>
          opS P (S.st 4 x25 (.bool false)) fun x26 =>
          opS P (S.fa 38 x4 0) fun x27 =>
          opS P (S.ld 3 x27) fun x28 =>
          opS P (S.binI .eql x28 (.int .i64 2)) fun x29 =>
          jnJ 1 (fun x30 =>
            jnJ 0 (
              jnJ 0 (
                brn x29 (
                  opS P (S.fa 38 x4 1) fun x31 =>
                  opS P (S.ld 3 x31) fun x32 =>
                  opS P (S.binI .and x32 (.int .i64 1)) fun x33 =>
                  opS P (S.binI .neq x33 (.int .i64 0)) fun x34 =>
                  brn x34 (
                    opS P (S.binI .sub x1 (.int .i64 1)) fun x35 =>
                    opS P (S.cl 48 [x0, x35, x3]) fun x36 =>
                    K (.int .i64 0)
                  ) (
                    K (.int .i64 0)
                  )
                ) (
                  K (.int .i64 0)
                )
              ) fun j0 =>
              jnJ 0 (
                j0
              ) fun j1 =>
              drw <|
              opS P (S.binI .neq x30 (.int .i64 12)) fun x31 =>
              brn x31 (
                opS P (S.fa 38 x4 1) fun x32 =>
                opS P (S.ld 3 x32) fun x33 =>
                opS P (S.binI .and x33 (.int .i64 64)) fun x34 =>
                opS P (S.binI .neq x34 (.int .i64 0)) fun x35 =>
                brn x35 (
                  opS P (S.nc x15) fun x36 =>
                  opS P (S.fa 70 x36 4) fun x37 =>
                  opS P (S.ld 3 x37) fun x38 =>
                  opS P (S.binI .eql x38 (.int .i64 2)) fun x39 =>
                  brn x39 (
                    opS P (S.fa 38 x4 2) fun x40 =>
                    opS P (S.ld 25 x40) fun x41 =>
                    opS P (S.nc x0) fun x42 =>
                    opS P (S.fa 49 x42 2) fun x43 =>
                    opS P (S.fa 44 x43 0) fun x44 =>
                    opS P (S.ld 25 x44) fun x45 =>
                    opS P (S.binG .eql 25 x41 x45) fun x46 =>
                    brn x46 (
                      opS P (S.nc x15) fun x47 =>
                      opS P (S.fa 70 x47 7) fun x48 =>
                      opS P (S.st 4 x48 (.bool true)) fun x49 =>
                      opS P (S.binI .sub x1 (.int .i64 1)) fun x50 =>
                      opS P (S.cl 52 [x0, x50, x3]) fun x51 =>
                      j0
                    ) (
                      j1
                    )
                  ) (
                    j1
                  )
                ) (
                  j1
                )
              ) (
                j1
              )
            ) fun j0 =>
            jnJ 0 (
              j0
            ) fun j1 =>
            opS P (S.binI .eql x30 (.int .i64 12)) fun x31 =>
            brn x31 (
              opS P (S.fa 38 x4 6) fun x32 =>
              opS P (S.ld 3 x32) fun x33 =>
              opS P (S.binI .lss x33 (.int .i64 20)) fun x34 =>
              brn x34 (
                opS P (S.ld 38 x4) fun x35 =>
                opS P (S.cl 49 [x0, x15, x35, x3]) fun x36 =>
                opS P (S.cl 50 [x0, x3]) fun x37 =>
                jnJ 0 (
                  j0
                ) fun j2 =>
                jnJ 0 (
                  j2
                ) fun j3 =>
                brn x29 (
                  opS P (S.fa 38 x4 1) fun x38 =>
                  opS P (S.ld 3 x38) fun x39 =>
                  opS P (S.binI .and x39 (.int .i64 2)) fun x40 =>
                  opS P (S.binI .neq x40 (.int .i64 0)) fun x41 =>
                  brn x41 (
                    opS P (S.cl 51 [x0, x1, x3]) fun x42 =>
                    j2
                  ) (
                    j3
                  )
                ) (
                  j3
                )
              ) (
                j1
              )
            ) (
              j1
            )
          ) fun j0 =>
          brn x29 (
            opS P (S.fa 38 x4 1) fun x30 =>
            opS P (S.ld 3 x30) fun x31 =>
            opS P (S.binI .and x31 (.int .i64 12)) fun x32 =>
            j0 x32
          ) (
            j0 (.int .i64 12)
          )
        )
      )
    )
  )
instance fnb21 : FnB Tryz.prog 21 := ⟨Tryz.call21⟩
theorem e21 : p21 Tryz.prog = fun K x0 x1 x2 x3 => denF Tryz.prog Tryz.f21 [x0, x1, x2, x3] K := by kernel_rfl
theorem c21 {K : Value → World → Prop} {x0 x1 x2 x3 : Value} {w : World} (h : p21 Tryz.prog K x0 x1 x2 x3 w) : CallsR Tryz.prog 21 #[x0, x1, x2, x3] K w := by
  rw [e21] at h
  exact denF_sound mixed Tryz.func21 h

-- (*gemel/span.Span).Take$1
def p41 (P : Program) (K : Value → World → Prop) (x0 : Value) (x1 : Value) : World → Prop :=
  opS P (S.ld 3 x1) fun x2 =>
  opS P (S.binI .and x2 x0) fun x3 =>
  opS P (S.binI .neq x3 (.int .i64 0)) fun x4 =>
  K x4
instance fnb41 : FnB Tryz.prog 41 := ⟨Tryz.call41⟩
theorem e41 : p41 Tryz.prog = fun K x0 x1 => denF Tryz.prog Tryz.f41 [x0, x1] K := by kernel_rfl
theorem c41 {K : Value → World → Prop} {x0 x1 : Value} {w : World} (h : p41 Tryz.prog K x0 x1 w) : CallsR Tryz.prog 41 #[x0, x1] K w := by
  rw [e41] at h
  exact denF_sound mixed Tryz.func41 h

end Go.Gx.S
-- 20 21 41
end

section
/- What the functions of this program ask. -/
set_option linter.unusedVariables false
set_option maxRecDepth 100000
namespace Go.Gx.S
open Go Go.Gx Go.Proofs
-- (*gemel/span.Span).Up
def p25 (P : Program) (K : Value → World → Prop) (x0 : Value) (x1 : Value) (x2 : Value) (x3 : Value) (x4 : Value) : World → Prop :=
  opS P (S.cl 37 [x0, x1]) fun x5 =>
  opS P (S.binN .eql (S.isNilP x5)) fun x6 =>
  brn x6 (
    K (.int .i64 1)
  ) (
    opS P (S.cl 38 [x4]) fun x7 =>
    opS P (S.un .not x7) fun x8 =>
    brn x8 (
      K (.int .i64 1)
    ) (
      brn x2 (
        opS P (S.nc x5) fun x9 =>
        opS P (S.fa 63 x9 0) fun x10 =>
        opS P (S.fa 61 x10 2) fun x11 =>
        opS P (S.st 4 x11 x2) fun x12 =>
        opS P (S.nc x5) fun x13 =>
        opS P (S.fa 63 x13 0) fun x14 =>
        opS P (S.fa 61 x14 3) fun x15 =>
        opS P (S.st 4 x15 (.bool false)) fun x16 =>
        opS P (S.nc x5) fun x17 =>
        opS P (S.fa 63 x17 3) fun x18 =>
        opS P (S.st 4 x18 x3) fun x19 =>
        opS P (S.cl 43 [x0, x4]) fun x20 =>
        K (.int .i64 0)
      ) (
        opS P (S.nc x5) fun x9 =>
        opS P (S.fa 63 x9 0) fun x10 =>
        opS P (S.fa 61 x10 2) fun x11 =>
        opS P (S.st 4 x11 x2) fun x12 =>
        opS P (S.nc x5) fun x13 =>
        opS P (S.fa 63 x13 0) fun x14 =>
        opS P (S.fa 61 x14 3) fun x15 =>
        opS P (S.st 4 x15 (.bool false)) fun x16 =>
        opS P (S.nc x5) fun x17 =>
        opS P (S.fa 63 x17 3) fun x18 =>
        opS P (S.st 4 x18 (.bool false)) fun x19 =>
        opS P (S.cl 43 [x0, x4]) fun x20 =>
        K (.int .i64 0)
      )
    )
  )
instance fnb25 : FnB Tryz.prog 25 := ⟨Tryz.call25⟩
theorem e25 : p25 Tryz.prog = fun K x0 x1 x2 x3 x4 => denF Tryz.prog Tryz.f25 [x0, x1, x2, x3, x4] K := by kernel_rfl
theorem c25 {K : Value → World → Prop} {x0 x1 x2 x3 x4 : Value} {w : World} (h : p25 Tryz.prog K x0 x1 x2 x3 x4 w) : CallsR Tryz.prog 25 #[x0, x1, x2, x3, x4] K w := by
  rw [e25] at h
  exact denF_sound mixed Tryz.func25 h

-- (*gemel/gemelref18.Span).Up
def p26 (P : Program) (K : Value → World → Prop) (x0 : Value) (x1 : Value) (x2 : Value) (x3 : Value) (x4 : Value) : World → Prop :=
  opS P (S.cl 46 [x0, x1, x4]) fun x5 =>
  opS P (S.un .not x5) fun x6 =>
  brn x6 (
    K (.int .i64 1)
  ) (
    opS P (S.nc x0) fun x7 =>
    opS P (S.fa 49 x7 1) fun x8 =>
    opS P (S.ld 46 x8) fun x9 =>
    opS P (S.binI .sub x1 (.int .i64 1)) fun x10 =>
    opS P (S.ia 46 x9 x10) fun x11 =>
    opS P (S.ld 68 x11) fun x12 =>
    opS P (S.nc x12) fun x13 =>
    opS P (S.fa 70 x13 0) fun x14 =>
    opS P (S.fa 61 x14 2) fun x15 =>
    opS P (S.st 4 x15 x2) fun x16 =>
    opS P (S.nc x12) fun x17 =>
    opS P (S.fa 70 x17 0) fun x18 =>
    opS P (S.fa 61 x18 3) fun x19 =>
    opS P (S.st 4 x19 (.bool false)) fun x20 =>
    brn x2 (
      opS P (S.nc x12) fun x21 =>
      opS P (S.fa 70 x21 3) fun x22 =>
      opS P (S.st 4 x22 x3) fun x23 =>
      opS P (S.cl 50 [x0, x4]) fun x24 =>
      K (.int .i64 0)
    ) (
      opS P (S.nc x12) fun x21 =>
      opS P (S.fa 70 x21 3) fun x22 =>
      opS P (S.st 4 x22 (.bool false)) fun x23 =>
      opS P (S.cl 50 [x0, x4]) fun x24 =>
      K (.int .i64 0)
    )
  )
instance fnb26 : FnB Tryz.prog 26 := ⟨Tryz.call26⟩
theorem e26 : p26 Tryz.prog = fun K x0 x1 x2 x3 x4 => denF Tryz.prog Tryz.f26 [x0, x1, x2, x3, x4] K := by kernel_rfl
theorem c26 {K : Value → World → Prop} {x0 x1 x2 x3 x4 : Value} {w : World} (h : p26 Tryz.prog K x0 x1 x2 x3 x4 w) : CallsR Tryz.prog 26 #[x0, x1, x2, x3, x4] K w := by
  rw [e26] at h
  exact denF_sound mixed Tryz.func26 h

-- (*gemel/span.Span).at
def p37 (P : Program) (K : Value → World → Prop) (x0 : Value) (x1 : Value) : World → Prop :=
  opS P (S.binI .lss x1 (.int .i64 1)) fun x2 =>
  brn x2 (
    K (.pointer none)
  ) (
    opS P (S.nc x0) fun x3 =>
    opS P (S.fa 58 x3 1) fun x4 =>
    opS P (S.ld 56 x4) fun x5 =>
    opS P (S.len x5) fun x6 =>
    opS P (S.binI .gtr x1 x6) fun x7 =>
    brn x7 (
      K (.pointer none)
    ) (
      opS P (S.nc x0) fun x8 =>
      opS P (S.fa 58 x8 1) fun x9 =>
      opS P (S.ld 56 x9) fun x10 =>
      opS P (S.binI .sub x1 (.int .i64 1)) fun x11 =>
      opS P (S.ia 56 x10 x11) fun x12 =>
      opS P (S.ld 59 x12) fun x13 =>
      K x13
    )
  )
instance fnb37 : FnB Tryz.prog 37 := ⟨Tryz.call37⟩
theorem e37 : p37 Tryz.prog = fun K x0 x1 => denF Tryz.prog Tryz.f37 [x0, x1] K := by kernel_rfl
theorem c37 {K : Value → World → Prop} {x0 x1 : Value} {w : World} (h : p37 Tryz.prog K x0 x1 w) : CallsR Tryz.prog 37 #[x0, x1] K w := by
  rw [e37] at h
  exact denF_sound mixed Tryz.func37 h

-- gemel/span.moment
def p38 (P : Program) (K : Value → World → Prop) (x0 : Value) : World → Prop :=
  opS P (S.binI .geq x0 (.int .i64 0)) fun x1 =>
  brn x1 (
    opS P (S.binI .leq x0 (.int .i64 1099511627776)) fun x2 =>
    K x2
  ) (
    K (.bool false)
  )
instance fnb38 : FnB Tryz.prog 38 := ⟨Tryz.call38⟩
theorem e38 : p38 Tryz.prog = fun K x0 => denF Tryz.prog Tryz.f38 [x0] K := by kernel_rfl
theorem c38 {K : Value → World → Prop} {x0 : Value} {w : World} (h : p38 Tryz.prog K x0 w) : CallsR Tryz.prog 38 #[x0] K w := by
  rw [e38] at h
  exact denF_sound mixed Tryz.func38 h

-- (*gemel/span.port).hears
def p42 (P : Program) (K : Value → World → Prop) (x0 : Value) (x1 : Value) (x2 : Value) : World → Prop :=
  opS P (S.box 38 x1) fun x3 =>
  opS P (S.ld 38 x3) fun x4 =>
  opS P (S.cl 68 [x4, (.int .i64 1)]) fun x5 =>
  opS P (S.ext x5 0) fun x6 =>
  opS P (S.ext x5 1) fun x7 =>
  opS P (S.alloc 44) fun x8 =>
  opS P (S.st 44 x8 x6) fun x9 =>
  opS P (S.fa 44 x8 4) fun x10 =>
  opS P (S.st 3 x10 (.int .i64 0)) fun x11 =>
  opS P (S.nc x0) fun x12 =>
  opS P (S.fa 63 x12 0) fun x13 =>
  opS P (S.fa 61 x13 4) fun x14 =>
  opS P (S.ld 44 x14) fun x15 =>
  opS P (S.alloc 44) fun x16 =>
  opS P (S.st 44 x16 x15) fun x17 =>
  jnJ 1 (fun x18 =>
    jnJ 0 (
      drw <|
      opS P (S.ld 44 x8) fun x19 =>
      opS P (S.fa 38 x3 6) fun x20 =>
      opS P (S.binI .add x2 (.int .i64 6)) fun x21 =>
      opS P (S.nc x0) fun x22 =>
      opS P (S.fa 63 x22 0) fun x23 =>
      opS P (S.fa 61 x23 4) fun x24 =>
      allW (
        opS P (S.ld 3 x20) fun x25 =>
        opS P (S.st 44 x24 x19) fun x26 =>
        opS P (S.nc x0) fun x27 =>
        opS P (S.fa 63 x27 0) fun x28 =>
        opS P (S.fa 61 x28 3) fun x29 =>
        opS P (S.st 4 x29 (.bool true)) fun x30 =>
        opS P (S.nc x0) fun x31 =>
        opS P (S.fa 63 x31 1) fun x32 =>
        opS P (S.st 3 x32 x25) fun x33 =>
        opS P (S.nc x0) fun x34 =>
        opS P (S.fa 63 x34 2) fun x35 =>
        opS P (S.st 3 x35 x21) fun x36 =>
        K (.tuple #[])
      ) (
        opS P (S.st 44 x24 x19) fun x25 =>
        opS P (S.nc x0) fun x26 =>
        opS P (S.fa 63 x26 0) fun x27 =>
        opS P (S.fa 61 x27 3) fun x28 =>
        allW (
          opS P (S.ld 3 x20) fun x29 =>
          opS P (S.st 4 x28 (.bool true)) fun x30 =>
          opS P (S.nc x0) fun x31 =>
          opS P (S.fa 63 x31 1) fun x32 =>
          opS P (S.st 3 x32 x29) fun x33 =>
          opS P (S.nc x0) fun x34 =>
          opS P (S.fa 63 x34 2) fun x35 =>
          opS P (S.st 3 x35 x21) fun x36 =>
          K (.tuple #[])
        ) (
          opS P (S.st 4 x28 (.bool true)) fun x29 =>
          opS P (S.ld 3 x20) fun x30 =>
          opS P (S.nc x0) fun x31 =>
          opS P (S.fa 63 x31 1) fun x32 =>
          opS P (S.st 3 x32 x30) fun x33 =>
          opS P (S.nc x0) fun x34 =>
          opS P (S.fa 63 x34 2) fun x35 =>
          opS P (S.st 3 x35 x21) fun x36 =>
          K (.tuple #[])
        )
      )
    ) fun j0 =>
    opS P (S.nc x0) fun x19 =>
    opS P (S.fa 63 x19 0) fun x20 =>
    opS P (S.fa 61 x20 3) fun x21 =>
    opS P (S.ld 4 x21) fun x22 =>
    opS P (S.un .not x22) fun x23 =>
    brn x23 (
      j0
    ) (
      brn x18 (
        j0
      ) (
        opS P (S.ld 44 x8) fun x24 =>
        opS P (S.ld 44 x16) fun x25 =>
        opS P (S.cl 35 [x24, x25]) fun x26 =>
        opS P (S.binI .leq x26 (.int .i64 0)) fun x27 =>
        brn x27 (
          j0
        ) (
          K (.tuple #[])
        )
      )
    )
  ) fun j0 =>
  opS P (S.fa 44 x8 2) fun x18 =>
  opS P (S.ld 25 x18) fun x19 =>
  opS P (S.fa 44 x16 2) fun x20 =>
  opS P (S.ld 25 x20) fun x21 =>
  opS P (S.binG .eql 25 x19 x21) fun x22 =>
  brn x22 (
    opS P (S.fa 44 x8 3) fun x23 =>
    opS P (S.ld 3 x23) fun x24 =>
    opS P (S.fa 44 x16 3) fun x25 =>
    opS P (S.ld 3 x25) fun x26 =>
    opS P (S.binI .eql x24 x26) fun x27 =>
    j0 x27
  ) (
    j0 (.bool false)
  )
instance fnb42 : FnB Tryz.prog 42 := ⟨Tryz.call42⟩
theorem e42 : p42 Tryz.prog = fun K x0 x1 x2 => denF Tryz.prog Tryz.f42 [x0, x1, x2] K := by kernel_rfl
theorem c42 {K : Value → World → Prop} {x0 x1 x2 : Value} {w : World} (h : p42 Tryz.prog K x0 x1 x2 w) : CallsR Tryz.prog 42 #[x0, x1, x2] K w := by
  rw [e42] at h
  exact denF_sound mixed Tryz.func42 h

-- (*gemel/span.Span).proposed
def p44 (P : Program) (K : Value → World → Prop) (x0 : Value) (x1 : Value) (x2 : Value) : World → Prop :=
  opS P (S.nc x0) fun x3 =>
  opS P (S.fa 58 x3 1) fun x4 =>
  opS P (S.ld 56 x4) fun x5 =>
  opS P (S.len x5) fun x6 =>
  jnJ 0 (
    opS P (S.nc x1) fun x7 =>
    opS P (S.fa 63 x7 4) fun x8 =>
    opS P (S.ld 3 x8) fun x9 =>
    opS P (S.binI .neq x9 (.int .i64 2)) fun x10 =>
    brn x10 (
      opS P (S.nc x1) fun x11 =>
      opS P (S.fa 63 x11 4) fun x12 =>
      opS P (S.ld 3 x12) fun x13 =>
      opS P (S.binI .neq x13 (.int .i64 0)) fun x14 =>
      opS P (S.nc x1) fun x15 =>
      opS P (S.fa 63 x15 8) fun x16 =>
      opS P (S.st 4 x16 x14) fun x17 =>
      K (.tuple #[])
    ) (
      opS P (S.nc x1) fun x11 =>
      opS P (S.fa 63 x11 8) fun x12 =>
      opS P (S.st 4 x12 (.bool false)) fun x13 =>
      K (.tuple #[])
    )
  ) fun j0 =>
  loopJ 1 (fun j1 x7 =>
    opS P (S.binI .lss x7 x6) fun x8 =>
    brn x8 (
      opS P (S.ia 56 x5 x7) fun x9 =>
      opS P (S.ld 59 x9) fun x10 =>
      opS P (S.nc x1) fun x11 =>
      opS P (S.fa 63 x11 4) fun x12 =>
      opS P (S.ld 3 x12) fun x13 =>
      opS P (S.binI .eql x13 (.int .i64 1)) fun x14 =>
      brn x14 (
        opS P (S.binG .neq 59 x10 x1) fun x15 =>
        brn x15 (
          opS P (S.nc x10) fun x16 =>
          opS P (S.fa 63 x16 4) fun x17 =>
          opS P (S.ld 3 x17) fun x18 =>
          opS P (S.binI .eql x18 (.int .i64 2)) fun x19 =>
          brn x19 (
            opS P (S.nc x10) fun x20 =>
            opS P (S.fa 63 x20 3) fun x21 =>
            opS P (S.ld 4 x21) fun x22 =>
            opS P (S.un .not x22) fun x23 =>
            brn x23 (
              opS P (S.nc x10) fun x24 =>
              opS P (S.fa 63 x24 7) fun x25 =>
              opS P (S.ld 4 x25) fun x26 =>
              opS P (S.un .not x26) fun x27 =>
              brn x27 (
                opS P (S.cl 69 [x10, x2]) fun x28 =>
                opS P (S.binI .add x7 (.int .i64 1)) fun x29 =>
                j1 x29
              ) (
                opS P (S.binI .add x7 (.int .i64 1)) fun x28 =>
                j1 x28
              )
            ) (
              opS P (S.binI .add x7 (.int .i64 1)) fun x24 =>
              j1 x24
            )
          ) (
            opS P (S.binI .add x7 (.int .i64 1)) fun x20 =>
            j1 x20
          )
        ) (
          opS P (S.binI .add x7 (.int .i64 1)) fun x16 =>
          j1 x16
        )
      ) (
        opS P (S.binI .add x7 (.int .i64 1)) fun x15 =>
        j1 x15
      )
    ) (
      j0
    )
  ) (.int .i64 0)
instance fnb44 : FnB Tryz.prog 44 := ⟨Tryz.call44⟩
theorem e44 : p44 Tryz.prog = fun K x0 x1 x2 => denF Tryz.prog Tryz.f44 [x0, x1, x2] K := by kernel_rfl
theorem c44 {K : Value → World → Prop} {x0 x1 x2 : Value} {w : World} (h : p44 Tryz.prog K x0 x1 x2 w) : CallsR Tryz.prog 44 #[x0, x1, x2] K w := by
  rw [e44] at h
  exact denF_sound mixed Tryz.func44 h

-- (*gemel/gemelref18.Span).right
def p46 (P : Program) (K : Value → World → Prop) (x0 : Value) (x1 : Value) (x2 : Value) : World → Prop :=
  opS P (S.binI .geq x1 (.int .i64 1)) fun x3 =>
  brn x3 (
    opS P (S.nc x0) fun x4 =>
    opS P (S.fa 49 x4 1) fun x5 =>
    opS P (S.ld 46 x5) fun x6 =>
    opS P (S.len x6) fun x7 =>
    opS P (S.binI .leq x1 x7) fun x8 =>
    brn x8 (
      opS P (S.binI .geq x2 (.int .i64 0)) fun x9 =>
      brn x9 (
        opS P (S.binI .leq x2 (.int .i64 1099511627776)) fun x10 =>
        K x10
      ) (
        K (.bool false)
      )
    ) (
      K (.bool false)
    )
  ) (
    K (.bool false)
  )
instance fnb46 : FnB Tryz.prog 46 := ⟨Tryz.call46⟩
theorem e46 : p46 Tryz.prog = fun K x0 x1 x2 => denF Tryz.prog Tryz.f46 [x0, x1, x2] K := by kernel_rfl
theorem c46 {K : Value → World → Prop} {x0 x1 x2 : Value} {w : World} (h : p46 Tryz.prog K x0 x1 x2 w) : CallsR Tryz.prog 46 #[x0, x1, x2] K w := by
  rw [e46] at h
  exact denF_sound mixed Tryz.func46 h

-- (*gemel/gemelref18.Span).hears
def p49 (P : Program) (K : Value → World → Prop) (x0 : Value) (x1 : Value) (x2 : Value) (x3 : Value) : World → Prop :=
  opS P (S.box 38 x2) fun x4 =>
  opS P (S.ld 38 x4) fun x5 =>
  opS P (S.cl 71 [x5, (.int .i64 1)]) fun x6 =>
  opS P (S.ext x6 0) fun x7 =>
  opS P (S.ext x6 1) fun x8 =>
  opS P (S.alloc 44) fun x9 =>
  opS P (S.st 44 x9 x7) fun x10 =>
  opS P (S.fa 44 x9 4) fun x11 =>
  opS P (S.st 3 x11 (.int .i64 0)) fun x12 =>
  opS P (S.nc x1) fun x13 =>
  opS P (S.fa 70 x13 0) fun x14 =>
  opS P (S.ld 61 x14) fun x15 =>
  opS P (S.alloc 61) fun x16 =>
  opS P (S.st 61 x16 x15) fun x17 =>
  jnJ 0 (
    opS P (S.ld 44 x9) fun x18 =>
    opS P (S.nc x1) fun x19 =>
    opS P (S.fa 70 x19 0) fun x20 =>
    opS P (S.fa 61 x20 4) fun x21 =>
    opS P (S.st 44 x21 x18) fun x22 =>
    opS P (S.nc x1) fun x23 =>
    opS P (S.fa 70 x23 0) fun x24 =>
    opS P (S.fa 61 x24 3) fun x25 =>
    opS P (S.st 4 x25 (.bool true)) fun x26 =>
    opS P (S.fa 38 x4 6) fun x27 =>
    opS P (S.ld 3 x27) fun x28 =>
    opS P (S.nc x1) fun x29 =>
    opS P (S.fa 70 x29 1) fun x30 =>
    opS P (S.st 3 x30 x28) fun x31 =>
    opS P (S.binI .add x3 (.int .i64 6)) fun x32 =>
    opS P (S.nc x1) fun x33 =>
    opS P (S.fa 70 x33 2) fun x34 =>
    opS P (S.st 3 x34 x32) fun x35 =>
    K (.tuple #[])
  ) fun j0 =>
  opS P (S.fa 61 x16 3) fun x18 =>
  opS P (S.ld 4 x18) fun x19 =>
  opS P (S.un .not x19) fun x20 =>
  brn x20 (
    j0
  ) (
    opS P (S.ld 44 x9) fun x21 =>
    opS P (S.fa 61 x16 4) fun x22 =>
    opS P (S.ld 44 x22) fun x23 =>
    opS P (S.cl 72 [x21, x23]) fun x24 =>
    opS P (S.binI .leq x24 (.int .i64 0)) fun x25 =>
    brn x25 (
      j0
    ) (
      opS P (S.fa 44 x9 2) fun x26 =>
      opS P (S.ld 25 x26) fun x27 =>
      opS P (S.fa 61 x16 4) fun x28 =>
      opS P (S.fa 44 x28 2) fun x29 =>
      opS P (S.ld 25 x29) fun x30 =>
      opS P (S.binG .eql 25 x27 x30) fun x31 =>
      brn x31 (
        opS P (S.fa 44 x9 3) fun x32 =>
        opS P (S.ld 3 x32) fun x33 =>
        opS P (S.fa 61 x16 4) fun x34 =>
        opS P (S.fa 44 x34 3) fun x35 =>
        opS P (S.ld 3 x35) fun x36 =>
        opS P (S.binI .eql x33 x36) fun x37 =>
        brn x37 (
          j0
        ) (
          K (.tuple #[])
        )
      ) (
        K (.tuple #[])
      )
    )
  )
instance fnb49 : FnB Tryz.prog 49 := ⟨Tryz.call49⟩
theorem e49 : p49 Tryz.prog = fun K x0 x1 x2 x3 => denF Tryz.prog Tryz.f49 [x0, x1, x2, x3] K := by kernel_rfl
theorem c49 {K : Value → World → Prop} {x0 x1 x2 x3 : Value} {w : World} (h : p49 Tryz.prog K x0 x1 x2 x3 w) : CallsR Tryz.prog 49 #[x0, x1, x2, x3] K w := by
  rw [e49] at h
  exact denF_sound mixed Tryz.func49 h

-- (*gemel/gemelref18.Span).proposed
def p51 (P : Program) (K : Value → World → Prop) (x0 : Value) (x1 : Value) (x2 : Value) : World → Prop :=
  opS P (S.nc x0) fun x3 =>
  opS P (S.fa 49 x3 1) fun x4 =>
  opS P (S.ld 46 x4) fun x5 =>
  opS P (S.binI .sub x1 (.int .i64 1)) fun x6 =>
  opS P (S.ia 46 x5 x6) fun x7 =>
  opS P (S.ld 68 x7) fun x8 =>
  jnJ 0 (
    opS P (S.nc x8) fun x9 =>
    opS P (S.fa 70 x9 4) fun x10 =>
    opS P (S.ld 3 x10) fun x11 =>
    opS P (S.binI .eql x11 (.int .i64 1)) fun x12 =>
    brn x12 (
      opS P (S.nc x8) fun x13 =>
      opS P (S.fa 70 x13 8) fun x14 =>
      opS P (S.st 4 x14 (.bool true)) fun x15 =>
      K (.tuple #[])
    ) (
      opS P (S.nc x8) fun x13 =>
      opS P (S.fa 70 x13 4) fun x14 =>
      opS P (S.ld 3 x14) fun x15 =>
      opS P (S.binI .eql x15 (.int .i64 3)) fun x16 =>
      brn x16 (
        opS P (S.nc x8) fun x17 =>
        opS P (S.fa 70 x17 8) fun x18 =>
        opS P (S.st 4 x18 (.bool true)) fun x19 =>
        K (.tuple #[])
      ) (
        opS P (S.nc x8) fun x17 =>
        opS P (S.fa 70 x17 4) fun x18 =>
        opS P (S.ld 3 x18) fun x19 =>
        opS P (S.binI .eql x19 (.int .i64 4)) fun x20 =>
        opS P (S.nc x8) fun x21 =>
        opS P (S.fa 70 x21 8) fun x22 =>
        opS P (S.st 4 x22 x20) fun x23 =>
        K (.tuple #[])
      )
    )
  ) fun j0 =>
  loopJ 1 (fun j1 x9 =>
    opS P (S.nc x0) fun x10 =>
    opS P (S.fa 49 x10 1) fun x11 =>
    opS P (S.ld 46 x11) fun x12 =>
    opS P (S.len x12) fun x13 =>
    opS P (S.binI .lss x9 x13) fun x14 =>
    brn x14 (
      opS P (S.nc x8) fun x15 =>
      opS P (S.fa 70 x15 4) fun x16 =>
      opS P (S.ld 3 x16) fun x17 =>
      opS P (S.binI .eql x17 (.int .i64 1)) fun x18 =>
      brn x18 (
        opS P (S.nc x0) fun x19 =>
        opS P (S.fa 49 x19 1) fun x20 =>
        opS P (S.ld 46 x20) fun x21 =>
        opS P (S.ia 46 x21 x9) fun x22 =>
        opS P (S.ld 68 x22) fun x23 =>
        opS P (S.binG .neq 68 x23 x8) fun x24 =>
        brn x24 (
          opS P (S.nc x23) fun x25 =>
          opS P (S.fa 70 x25 4) fun x26 =>
          opS P (S.ld 3 x26) fun x27 =>
          opS P (S.binI .eql x27 (.int .i64 2)) fun x28 =>
          brn x28 (
            opS P (S.nc x23) fun x29 =>
            opS P (S.fa 70 x29 3) fun x30 =>
            opS P (S.ld 4 x30) fun x31 =>
            opS P (S.un .not x31) fun x32 =>
            brn x32 (
              opS P (S.nc x23) fun x33 =>
              opS P (S.fa 70 x33 7) fun x34 =>
              opS P (S.ld 4 x34) fun x35 =>
              opS P (S.un .not x35) fun x36 =>
              brn x36 (
                opS P (S.cl 74 [x23, x2]) fun x37 =>
                opS P (S.binI .add x9 (.int .i64 1)) fun x38 =>
                j1 x38
              ) (
                opS P (S.binI .add x9 (.int .i64 1)) fun x37 =>
                j1 x37
              )
            ) (
              opS P (S.binI .add x9 (.int .i64 1)) fun x33 =>
              j1 x33
            )
          ) (
            opS P (S.binI .add x9 (.int .i64 1)) fun x29 =>
            j1 x29
          )
        ) (
          opS P (S.binI .add x9 (.int .i64 1)) fun x25 =>
          j1 x25
        )
      ) (
        j0
      )
    ) (
      j0
    )
  ) (.int .i64 0)
instance fnb51 : FnB Tryz.prog 51 := ⟨Tryz.call51⟩
theorem e51 : p51 Tryz.prog = fun K x0 x1 x2 => denF Tryz.prog Tryz.f51 [x0, x1, x2] K := by kernel_rfl
theorem c51 {K : Value → World → Prop} {x0 x1 x2 : Value} {w : World} (h : p51 Tryz.prog K x0 x1 x2 w) : CallsR Tryz.prog 51 #[x0, x1, x2] K w := by
  rw [e51] at h
  exact denF_sound mixed Tryz.func51 h

end Go.Gx.S
-- 37 38 46 25 26 42 49 44 51
end

section
/- What the functions of this program ask. -/
set_option linter.unusedVariables false
set_option maxRecDepth 100000
namespace Go.Gx.S
open Go Go.Gx Go.Proofs
-- (*gemel/span.Span).heards
def p19 (P : Program) (K : Value → World → Prop) (x0 : Value) : World → Prop :=
  opS P (S.nc x0) fun x1 =>
  opS P (S.fa 58 x1 1) fun x2 =>
  opS P (S.ld 56 x2) fun x3 =>
  opS P (S.len x3) fun x4 =>
  jnJ 1 (fun x5 =>
    K x5
  ) fun j0 =>
  loopJ 2 (fun j1 x5 x6 =>
    opS P (S.binI .lss x6 x4) fun x7 =>
    brn x7 (
      opS P (S.ia 56 x3 x6) fun x8 =>
      opS P (S.ld 59 x8) fun x9 =>
      opS P (S.nc x9) fun x10 =>
      opS P (S.fa 63 x10 0) fun x11 =>
      opS P (S.ld 61 x11) fun x12 =>
      opS P (S.buildS 66 1 [(0, x12)]) fun x13 =>
      opS P (S.bi .append #[66, 66] 66 [x5, x13]) fun x14 =>
      opS P (S.binI .add x6 (.int .i64 1)) fun x15 =>
      j1 x14 x15
    ) (
      j0 x5
    )
  ) (.slice none 0 0) (.int .i64 0)
instance fnb19 : FnB Tryz.prog 19 := ⟨Tryz.call19⟩
theorem e19 : p19 Tryz.prog = fun K x0 => denF Tryz.prog Tryz.f19 [x0] K := by kernel_rfl
theorem c19 {K : Value → World → Prop} {x0 : Value} {w : World} (h : p19 Tryz.prog K x0 w) : CallsR Tryz.prog 19 #[x0] K w := by
  rw [e19] at h
  exact denF_sound mixed Tryz.func19 h

-- (*gemel/span.Span).reckon
def p43 (P : Program) (K : Value → World → Prop) (x0 : Value) (x1 : Value) : World → Prop :=
  jnJ 2 (fun x2 x3 =>
    opS P (S.ld 44 x2) fun x4 =>
    opS P (S.nc x0) fun x5 =>
    opS P (S.fa 58 x5 2) fun x6 =>
    opS P (S.st 44 x6 x4) fun x7 =>
    opS P (S.nc x0) fun x8 =>
    opS P (S.fa 58 x8 1) fun x9 =>
    opS P (S.ld 56 x9) fun x10 =>
    opS P (S.len x10) fun x11 =>
    jnJ 0 (
      K (.tuple #[])
    ) fun j0 =>
    loopJ 1 (fun j1 x12 =>
      opS P (S.binI .lss x12 x11) fun x13 =>
      brn x13 (
        opS P (S.ia 56 x10 x12) fun x14 =>
        opS P (S.ld 59 x14) fun x15 =>
        opS P (S.nc x15) fun x16 =>
        opS P (S.fa 63 x16 4) fun x17 =>
        opS P (S.ld 3 x17) fun x18 =>
        opS P (S.ia 26 x3 x12) fun x19 =>
        opS P (S.ld 3 x19) fun x20 =>
        opS P (S.nc x15) fun x21 =>
        opS P (S.fa 63 x21 4) fun x22 =>
        opS P (S.st 3 x22 x20) fun x23 =>
        jnJ 0 (
          jnJ 1 (fun x24 =>
            jnJ 1 (fun x25 =>
              brn x25 (
                opS P (S.cl 45 [x0, x15, x1]) fun x26 =>
                opS P (S.binI .add x12 (.int .i64 1)) fun x27 =>
                j1 x27
              ) (
                brn x24 (
                  opS P (S.cl 69 [x15, x1]) fun x26 =>
                  opS P (S.binI .add x12 (.int .i64 1)) fun x27 =>
                  j1 x27
                ) (
                  opS P (S.nc x15) fun x26 =>
                  opS P (S.fa 63 x26 4) fun x27 =>
                  opS P (S.ld 3 x27) fun x28 =>
                  opS P (S.binI .neq x28 (.int .i64 2)) fun x29 =>
                  brn x29 (
                    opS P (S.nc x15) fun x30 =>
                    opS P (S.fa 63 x30 5) fun x31 =>
                    opS P (S.st 3 x31 (.int .i64 0)) fun x32 =>
                    opS P (S.binI .add x12 (.int .i64 1)) fun x33 =>
                    j1 x33
                  ) (
                    opS P (S.binI .add x12 (.int .i64 1)) fun x30 =>
                    j1 x30
                  )
                )
              )
            ) fun j2 =>
            opS P (S.nc x15) fun x25 =>
            opS P (S.fa 63 x25 4) fun x26 =>
            opS P (S.ld 3 x26) fun x27 =>
            opS P (S.binI .eql x27 (.int .i64 1)) fun x28 =>
            brn x28 (
              j2 x28
            ) (
              jnJ 1 (fun x29 =>
                j2 x29
              ) fun j3 =>
              brn x24 (
                opS P (S.nc x15) fun x29 =>
                opS P (S.fa 63 x29 3) fun x30 =>
                opS P (S.ld 4 x30) fun x31 =>
                j3 x31
              ) (
                j3 (.bool false)
              )
            )
          ) fun j2 =>
          opS P (S.nc x15) fun x24 =>
          opS P (S.fa 63 x24 4) fun x25 =>
          opS P (S.ld 3 x25) fun x26 =>
          opS P (S.binI .eql x26 (.int .i64 2)) fun x27 =>
          brn x27 (
            opS P (S.binI .neq x18 (.int .i64 2)) fun x28 =>
            j2 x28
          ) (
            j2 (.bool false)
          )
        ) fun j2 =>
        opS P (S.nc x15) fun x24 =>
        opS P (S.fa 63 x24 4) fun x25 =>
        opS P (S.ld 3 x25) fun x26 =>
        opS P (S.binI .neq x18 x26) fun x27 =>
        brn x27 (
          opS P (S.nc x15) fun x28 =>
          opS P (S.fa 63 x28 7) fun x29 =>
          opS P (S.st 4 x29 (.bool false)) fun x30 =>
          opS P (S.nc x15) fun x31 =>
          opS P (S.fa 63 x31 8) fun x32 =>
          opS P (S.st 4 x32 (.bool false)) fun x33 =>
          j2
        ) (
          j2
        )
      ) (
        j0
      )
    ) (.int .i64 0)
  ) fun j0 =>
  drw <|
  opS P (S.nc x0) fun x2 =>
  opS P (S.fa 58 x2 0) fun x3 =>
  allW (
    opS P (S.ld 25 x3) fun x4 =>
    allW (
      opS P (S.cl 19 [x0]) fun x5 =>
      allW (
        opS P (S.cl 18 [x4, x5]) fun x6 =>
        opS P (S.ext x6 0) fun x7 =>
        opS P (S.ext x6 1) fun x8 =>
        opS P (S.ext x6 2) fun x9 =>
        opS P (S.alloc 44) fun x10 =>
        opS P (S.st 44 x10 x7) fun x11 =>
        j0 x10 x8
      ) (
        opS P (S.alloc 44) fun x6 =>
        opS P (S.cl 18 [x4, x5]) fun x7 =>
        opS P (S.ext x7 0) fun x8 =>
        opS P (S.ext x7 1) fun x9 =>
        opS P (S.ext x7 2) fun x10 =>
        opS P (S.st 44 x6 x8) fun x11 =>
        j0 x6 x9
      )
    ) (
      opS P (S.alloc 44) fun x5 =>
      opS P (S.cl 19 [x0]) fun x6 =>
      opS P (S.cl 18 [x4, x6]) fun x7 =>
      opS P (S.ext x7 0) fun x8 =>
      opS P (S.ext x7 1) fun x9 =>
      opS P (S.ext x7 2) fun x10 =>
      opS P (S.st 44 x5 x8) fun x11 =>
      j0 x5 x9
    )
  ) (
    allW (
      opS P (S.cl 19 [x0]) fun x4 =>
      allW (
        opS P (S.ld 25 x3) fun x5 =>
        allW (
          opS P (S.cl 18 [x5, x4]) fun x6 =>
          opS P (S.ext x6 0) fun x7 =>
          opS P (S.ext x6 1) fun x8 =>
          opS P (S.ext x6 2) fun x9 =>
          opS P (S.alloc 44) fun x10 =>
          opS P (S.st 44 x10 x7) fun x11 =>
          j0 x10 x8
        ) (
          opS P (S.alloc 44) fun x6 =>
          opS P (S.cl 18 [x5, x4]) fun x7 =>
          opS P (S.ext x7 0) fun x8 =>
          opS P (S.ext x7 1) fun x9 =>
          opS P (S.ext x7 2) fun x10 =>
          opS P (S.st 44 x6 x8) fun x11 =>
          j0 x6 x9
        )
      ) (
        opS P (S.alloc 44) fun x5 =>
        opS P (S.ld 25 x3) fun x6 =>
        opS P (S.cl 18 [x6, x4]) fun x7 =>
        opS P (S.ext x7 0) fun x8 =>
        opS P (S.ext x7 1) fun x9 =>
        opS P (S.ext x7 2) fun x10 =>
        opS P (S.st 44 x5 x8) fun x11 =>
        j0 x5 x9
      )
    ) (
      opS P (S.alloc 44) fun x4 =>
      allW (
        opS P (S.ld 25 x3) fun x5 =>
        opS P (S.cl 19 [x0]) fun x6 =>
        opS P (S.cl 18 [x5, x6]) fun x7 =>
        opS P (S.ext x7 0) fun x8 =>
        opS P (S.ext x7 1) fun x9 =>
        opS P (S.ext x7 2) fun x10 =>
        opS P (S.st 44 x4 x8) fun x11 =>
        j0 x4 x9
      ) (
        opS P (S.cl 19 [x0]) fun x5 =>
        opS P (S.ld 25 x3) fun x6 =>
        opS P (S.cl 18 [x6, x5]) fun x7 =>
        opS P (S.ext x7 0) fun x8 =>
        opS P (S.ext x7 1) fun x9 =>
        opS P (S.ext x7 2) fun x10 =>
        opS P (S.st 44 x4 x8) fun x11 =>
        j0 x4 x9
      )
    )
  )
instance fnb43 : FnB Tryz.prog 43 := ⟨Tryz.call43⟩
theorem e43 : p43 Tryz.prog = fun K x0 x1 => denF Tryz.prog Tryz.f43 [x0, x1] K := by kernel_rfl
theorem c43 {K : Value → World → Prop} {x0 x1 : Value} {w : World} (h : p43 Tryz.prog K x0 x1 w) : CallsR Tryz.prog 43 #[x0, x1] K w := by
  rw [e43] at h
  exact denF_sound mixed Tryz.func43 h

-- (*gemel/gemelref18.Span).reckon
def p50 (P : Program) (K : Value → World → Prop) (x0 : Value) (x1 : Value) : World → Prop :=
  jnJ 1 (fun x2 =>
    opS P (S.nc x0) fun x3 =>
    opS P (S.fa 49 x3 0) fun x4 =>
    opS P (S.ld 25 x4) fun x5 =>
    opS P (S.cl 73 [x5, x2]) fun x6 =>
    opS P (S.ext x6 0) fun x7 =>
    opS P (S.ext x6 1) fun x8 =>
    opS P (S.ext x6 2) fun x9 =>
    opS P (S.alloc 44) fun x10 =>
    opS P (S.st 44 x10 x7) fun x11 =>
    opS P (S.ld 44 x10) fun x12 =>
    opS P (S.nc x0) fun x13 =>
    opS P (S.fa 49 x13 2) fun x14 =>
    opS P (S.st 44 x14 x12) fun x15 =>
    jnJ 0 (
      K (.tuple #[])
    ) fun j0 =>
    loopJ 1 (fun j1 x16 =>
      opS P (S.nc x0) fun x17 =>
      opS P (S.fa 49 x17 1) fun x18 =>
      opS P (S.ld 46 x18) fun x19 =>
      opS P (S.len x19) fun x20 =>
      opS P (S.binI .lss x16 x20) fun x21 =>
      brn x21 (
        opS P (S.nc x0) fun x22 =>
        opS P (S.fa 49 x22 1) fun x23 =>
        opS P (S.ld 46 x23) fun x24 =>
        opS P (S.ia 46 x24 x16) fun x25 =>
        opS P (S.ld 68 x25) fun x26 =>
        opS P (S.nc x26) fun x27 =>
        opS P (S.fa 70 x27 4) fun x28 =>
        opS P (S.ld 3 x28) fun x29 =>
        opS P (S.ia 26 x8 x16) fun x30 =>
        opS P (S.ld 3 x30) fun x31 =>
        opS P (S.nc x26) fun x32 =>
        opS P (S.fa 70 x32 4) fun x33 =>
        opS P (S.st 3 x33 x31) fun x34 =>
        jnJ 0 (
          opS P (S.nc x26) fun x35 =>
          opS P (S.fa 70 x35 4) fun x36 =>
          opS P (S.ld 3 x36) fun x37 =>
          opS P (S.binI .eql x37 (.int .i64 1)) fun x38 =>
          brn x38 (
            opS P (S.cl 52 [x0, x16, x1]) fun x39 =>
            opS P (S.binI .add x16 (.int .i64 1)) fun x40 =>
            j1 x40
          ) (
            opS P (S.nc x26) fun x39 =>
            opS P (S.fa 70 x39 4) fun x40 =>
            opS P (S.ld 3 x40) fun x41 =>
            opS P (S.binI .neq x41 (.int .i64 2)) fun x42 =>
            brn x42 (
              opS P (S.nc x26) fun x43 =>
              opS P (S.fa 70 x43 5) fun x44 =>
              opS P (S.st 3 x44 (.int .i64 0)) fun x45 =>
              opS P (S.binI .add x16 (.int .i64 1)) fun x46 =>
              j1 x46
            ) (
              jnJ 0 (
                opS P (S.binI .neq x29 (.int .i64 2)) fun x43 =>
                brn x43 (
                  opS P (S.cl 74 [x26, x1]) fun x44 =>
                  opS P (S.binI .add x16 (.int .i64 1)) fun x45 =>
                  j1 x45
                ) (
                  opS P (S.binI .add x16 (.int .i64 1)) fun x44 =>
                  j1 x44
                )
              ) fun j2 =>
              opS P (S.binI .neq x29 (.int .i64 2)) fun x43 =>
              brn x43 (
                opS P (S.nc x26) fun x44 =>
                opS P (S.fa 70 x44 3) fun x45 =>
                opS P (S.ld 4 x45) fun x46 =>
                brn x46 (
                  opS P (S.cl 52 [x0, x16, x1]) fun x47 =>
                  opS P (S.binI .add x16 (.int .i64 1)) fun x48 =>
                  j1 x48
                ) (
                  j2
                )
              ) (
                j2
              )
            )
          )
        ) fun j2 =>
        opS P (S.nc x26) fun x35 =>
        opS P (S.fa 70 x35 4) fun x36 =>
        opS P (S.ld 3 x36) fun x37 =>
        opS P (S.binI .neq x29 x37) fun x38 =>
        brn x38 (
          opS P (S.nc x26) fun x39 =>
          opS P (S.fa 70 x39 7) fun x40 =>
          opS P (S.st 4 x40 (.bool false)) fun x41 =>
          opS P (S.nc x26) fun x42 =>
          opS P (S.fa 70 x42 8) fun x43 =>
          opS P (S.st 4 x43 (.bool false)) fun x44 =>
          j2
        ) (
          j2
        )
      ) (
        j0
      )
    ) (.int .i64 0)
  ) fun j0 =>
  loopJ 2 (fun j1 x2 x3 =>
    opS P (S.nc x0) fun x4 =>
    opS P (S.fa 49 x4 1) fun x5 =>
    opS P (S.ld 46 x5) fun x6 =>
    opS P (S.len x6) fun x7 =>
    opS P (S.binI .lss x3 x7) fun x8 =>
    brn x8 (
      opS P (S.nc x0) fun x9 =>
      opS P (S.fa 49 x9 1) fun x10 =>
      opS P (S.ld 46 x10) fun x11 =>
      opS P (S.ia 46 x11 x3) fun x12 =>
      opS P (S.ld 68 x12) fun x13 =>
      opS P (S.nc x13) fun x14 =>
      opS P (S.fa 70 x14 0) fun x15 =>
      opS P (S.ld 61 x15) fun x16 =>
      opS P (S.buildS 66 1 [(0, x16)]) fun x17 =>
      opS P (S.bi .append #[66, 66] 66 [x2, x17]) fun x18 =>
      opS P (S.binI .add x3 (.int .i64 1)) fun x19 =>
      j1 x18 x19
    ) (
      j0 x2
    )
  ) (.slice none 0 0) (.int .i64 0)
instance fnb50 : FnB Tryz.prog 50 := ⟨Tryz.call50⟩
theorem e50 : p50 Tryz.prog = fun K x0 x1 => denF Tryz.prog Tryz.f50 [x0, x1] K := by kernel_rfl
theorem c50 {K : Value → World → Prop} {x0 x1 : Value} {w : World} (h : p50 Tryz.prog K x0 x1 w) : CallsR Tryz.prog 50 #[x0, x1] K w := by
  rw [e50] at h
  exact denF_sound mixed Tryz.func50 h

end Go.Gx.S
-- 19 43 50
end

section
/- What the functions of this program ask. -/
set_option linter.unusedVariables false
set_option maxRecDepth 100000
namespace Go.Gx.S
open Go Go.Gx Go.Proofs
-- (*gemel/span.Span).changed
def p40 (P : Program) (K : Value → World → Prop) (x0 : Value) (x1 : Value) (x2 : Value) : World → Prop :=
  opS P (S.nc x0) fun x3 =>
  opS P (S.fa 58 x3 1) fun x4 =>
  opS P (S.ld 56 x4) fun x5 =>
  opS P (S.len x5) fun x6 =>
  jnJ 0 (
    opS P (S.binI .add x2 (.int .i64 4)) fun x7 =>
    opS P (S.nc x0) fun x8 =>
    opS P (S.fa 58 x8 3) fun x9 =>
    opS P (S.st 3 x9 x7) fun x10 =>
    K (.tuple #[])
  ) fun j0 =>
  loopJ 1 (fun j1 x7 =>
    opS P (S.binI .lss x7 x6) fun x8 =>
    brn x8 (
      opS P (S.ia 56 x5 x7) fun x9 =>
      opS P (S.ld 59 x9) fun x10 =>
      opS P (S.binG .neq 59 x10 x1) fun x11 =>
      brn x11 (
        opS P (S.nc x0) fun x12 =>
        opS P (S.fa 58 x12 5) fun x13 =>
        opS P (S.ld 55 x13) fun x14 =>
        opS P (S.binI .add x7 (.int .i64 1)) fun x15 =>
        opS P (S.mu 55 x14 x15 (.bool true)) fun x16 =>
        opS P (S.binI .add x7 (.int .i64 1)) fun x17 =>
        j1 x17
      ) (
        opS P (S.binI .add x7 (.int .i64 1)) fun x12 =>
        j1 x12
      )
    ) (
      j0
    )
  ) (.int .i64 0)
instance fnb40 : FnB Tryz.prog 40 := ⟨Tryz.call40⟩
theorem e40 : p40 Tryz.prog = fun K x0 x1 x2 => denF Tryz.prog Tryz.f40 [x0, x1, x2] K := by kernel_rfl
theorem c40 {K : Value → World → Prop} {x0 x1 x2 : Value} {w : World} (h : p40 Tryz.prog K x0 x1 x2 w) : CallsR Tryz.prog 40 #[x0, x1, x2] K w := by
  rw [e40] at h
  exact denF_sound mixed Tryz.func40 h

-- (*gemel/span.Span).forwards
def p45 (P : Program) (K : Value → World → Prop) (x0 : Value) (x1 : Value) (x2 : Value) : World → Prop :=
  opS P (S.nc x1) fun x3 =>
  opS P (S.fa 63 x3 5) fun x4 =>
  opS P (S.ld 3 x4) fun x5 =>
  opS P (S.binI .neq x5 (.int .i64 2)) fun x6 =>
  brn x6 (
    opS P (S.nc x1) fun x7 =>
    opS P (S.fa 63 x7 3) fun x8 =>
    opS P (S.ld 4 x8) fun x9 =>
    opS P (S.un .not x9) fun x10 =>
    brn x10 (
      opS P (S.cl 40 [x0, x1, x2]) fun x11 =>
      opS P (S.nc x1) fun x12 =>
      opS P (S.fa 63 x12 5) fun x13 =>
      opS P (S.st 3 x13 (.int .i64 2)) fun x14 =>
      K (.tuple #[])
    ) (
      opS P (S.nc x1) fun x11 =>
      opS P (S.fa 63 x11 5) fun x12 =>
      opS P (S.st 3 x12 (.int .i64 2)) fun x13 =>
      K (.tuple #[])
    )
  ) (
    opS P (S.nc x1) fun x7 =>
    opS P (S.fa 63 x7 5) fun x8 =>
    opS P (S.st 3 x8 (.int .i64 2)) fun x9 =>
    K (.tuple #[])
  )
instance fnb45 : FnB Tryz.prog 45 := ⟨Tryz.call45⟩
theorem e45 : p45 Tryz.prog = fun K x0 x1 x2 => denF Tryz.prog Tryz.f45 [x0, x1, x2] K := by kernel_rfl
theorem c45 {K : Value → World → Prop} {x0 x1 x2 : Value} {w : World} (h : p45 Tryz.prog K x0 x1 x2 w) : CallsR Tryz.prog 45 #[x0, x1, x2] K w := by
  rw [e45] at h
  exact denF_sound mixed Tryz.func45 h

-- (*gemel/gemelref18.Span).change
def p48 (P : Program) (K : Value → World → Prop) (x0 : Value) (x1 : Value) (x2 : Value) : World → Prop :=
  jnJ 0 (
    opS P (S.binI .add x2 (.int .i64 4)) fun x3 =>
    opS P (S.nc x0) fun x4 =>
    opS P (S.fa 49 x4 3) fun x5 =>
    opS P (S.st 3 x5 x3) fun x6 =>
    K (.tuple #[])
  ) fun j0 =>
  loopJ 1 (fun j1 x3 =>
    opS P (S.nc x0) fun x4 =>
    opS P (S.fa 49 x4 1) fun x5 =>
    opS P (S.ld 46 x5) fun x6 =>
    opS P (S.len x6) fun x7 =>
    opS P (S.binI .lss x3 x7) fun x8 =>
    brn x8 (
      opS P (S.binI .neq x3 x1) fun x9 =>
      brn x9 (
        opS P (S.nc x0) fun x10 =>
        opS P (S.fa 49 x10 5) fun x11 =>
        opS P (S.ld 47 x11) fun x12 =>
        opS P (S.ia 47 x12 x3) fun x13 =>
        opS P (S.st 4 x13 (.bool true)) fun x14 =>
        opS P (S.binI .add x3 (.int .i64 1)) fun x15 =>
        j1 x15
      ) (
        opS P (S.binI .add x3 (.int .i64 1)) fun x10 =>
        j1 x10
      )
    ) (
      j0
    )
  ) (.int .i64 0)
instance fnb48 : FnB Tryz.prog 48 := ⟨Tryz.call48⟩
theorem e48 : p48 Tryz.prog = fun K x0 x1 x2 => denF Tryz.prog Tryz.f48 [x0, x1, x2] K := by kernel_rfl
theorem c48 {K : Value → World → Prop} {x0 x1 x2 : Value} {w : World} (h : p48 Tryz.prog K x0 x1 x2 w) : CallsR Tryz.prog 48 #[x0, x1, x2] K w := by
  rw [e48] at h
  exact denF_sound mixed Tryz.func48 h

-- (*gemel/gemelref18.Span).forwards
def p52 (P : Program) (K : Value → World → Prop) (x0 : Value) (x1 : Value) (x2 : Value) : World → Prop :=
  opS P (S.nc x0) fun x3 =>
  opS P (S.fa 49 x3 1) fun x4 =>
  opS P (S.ld 46 x4) fun x5 =>
  opS P (S.ia 46 x5 x1) fun x6 =>
  opS P (S.ld 68 x6) fun x7 =>
  opS P (S.nc x7) fun x8 =>
  opS P (S.fa 70 x8 5) fun x9 =>
  opS P (S.ld 3 x9) fun x10 =>
  opS P (S.binI .neq x10 (.int .i64 2)) fun x11 =>
  brn x11 (
    opS P (S.nc x7) fun x12 =>
    opS P (S.fa 70 x12 3) fun x13 =>
    opS P (S.ld 4 x13) fun x14 =>
    opS P (S.un .not x14) fun x15 =>
    brn x15 (
      opS P (S.cl 48 [x0, x1, x2]) fun x16 =>
      opS P (S.nc x7) fun x17 =>
      opS P (S.fa 70 x17 5) fun x18 =>
      opS P (S.st 3 x18 (.int .i64 2)) fun x19 =>
      K (.tuple #[])
    ) (
      opS P (S.nc x7) fun x16 =>
      opS P (S.fa 70 x16 5) fun x17 =>
      opS P (S.st 3 x17 (.int .i64 2)) fun x18 =>
      K (.tuple #[])
    )
  ) (
    opS P (S.nc x7) fun x12 =>
    opS P (S.fa 70 x12 5) fun x13 =>
    opS P (S.st 3 x13 (.int .i64 2)) fun x14 =>
    K (.tuple #[])
  )
instance fnb52 : FnB Tryz.prog 52 := ⟨Tryz.call52⟩
theorem e52 : p52 Tryz.prog = fun K x0 x1 x2 => denF Tryz.prog Tryz.f52 [x0, x1, x2] K := by kernel_rfl
theorem c52 {K : Value → World → Prop} {x0 x1 x2 : Value} {w : World} (h : p52 Tryz.prog K x0 x1 x2 w) : CallsR Tryz.prog 52 #[x0, x1, x2] K w := by
  rw [e52] at h
  exact denF_sound mixed Tryz.func52 h

-- (*gemel/span.port).holds
def p69 (P : Program) (K : Value → World → Prop) (x0 : Value) (x1 : Value) : World → Prop :=
  opS P (S.binI .add x1 (.int .i64 15)) fun x2 =>
  opS P (S.nc x0) fun x3 =>
  opS P (S.fa 63 x3 5) fun x4 =>
  opS P (S.st 3 x4 (.int .i64 0)) fun x5 =>
  opS P (S.nc x0) fun x6 =>
  opS P (S.fa 63 x6 6) fun x7 =>
  opS P (S.st 3 x7 x2) fun x8 =>
  K (.tuple #[])
instance fnb69 : FnB Tryz.prog 69 := ⟨Tryz.call69⟩
theorem e69 : p69 Tryz.prog = fun K x0 x1 => denF Tryz.prog Tryz.f69 [x0, x1] K := by kernel_rfl
theorem c69 {K : Value → World → Prop} {x0 x1 : Value} {w : World} (h : p69 Tryz.prog K x0 x1 w) : CallsR Tryz.prog 69 #[x0, x1] K w := by
  rw [e69] at h
  exact denF_sound mixed Tryz.func69 h

-- (*gemel/gemelref18.Port).holds
def p74 (P : Program) (K : Value → World → Prop) (x0 : Value) (x1 : Value) : World → Prop :=
  opS P (S.nc x0) fun x2 =>
  opS P (S.fa 70 x2 5) fun x3 =>
  opS P (S.st 3 x3 (.int .i64 0)) fun x4 =>
  opS P (S.binI .add x1 (.int .i64 15)) fun x5 =>
  opS P (S.nc x0) fun x6 =>
  opS P (S.fa 70 x6 6) fun x7 =>
  opS P (S.st 3 x7 x5) fun x8 =>
  K (.tuple #[])
instance fnb74 : FnB Tryz.prog 74 := ⟨Tryz.call74⟩
theorem e74 : p74 Tryz.prog = fun K x0 x1 => denF Tryz.prog Tryz.f74 [x0, x1] K := by kernel_rfl
theorem c74 {K : Value → World → Prop} {x0 x1 : Value} {w : World} (h : p74 Tryz.prog K x0 x1 w) : CallsR Tryz.prog 74 #[x0, x1] K w := by
  rw [e74] at h
  exact denF_sound mixed Tryz.func74 h

end Go.Gx.S
-- 69 74 40 48 45 52
end

section
/- What the functions of this program ask. -/
set_option linter.unusedVariables false
set_option maxRecDepth 100000
namespace Go.Gx.S
open Go Go.Gx Go.Proofs
-- gemel/gemelref17.Select
def p73 (P : Program) (K : Value → World → Prop) (x0 : Value) (x1 : Value) : World → Prop :=
  opS P (S.box 25 x0) fun x2 =>
  opS P (S.alloc 44) fun x3 =>
  opS P (S.len x1) fun x4 =>
  opS P (S.binI .gtr x4 (.int .i64 64)) fun x5 =>
  brn x5 (
    opS P (S.build 44 []) fun x6 =>
    opS P (S.st 44 x3 x6) fun x7 =>
    opS P (S.ld 44 x3) fun x8 =>
    K (.tuple #[x8, (.slice none 0 0), (.int .i64 1)])
  ) (
    jnJ 0 (
      jnJ 0 (
        opS P (S.ld 25 x2) fun x6 =>
        opS P (S.ld 25 x2) fun x7 =>
        opS P (S.build 44 [(0, x6), (2, x7)]) fun x8 =>
        opS P (S.alloc 44) fun x9 =>
        opS P (S.st 44 x9 x8) fun x10 =>
        jnJ 1 (fun x11 =>
          jnJ 1 (fun x12 =>
            opS P (S.ld 44 x9) fun x13 =>
            opS P (S.st 44 x3 x13) fun x14 =>
            opS P (S.ld 44 x3) fun x15 =>
            K (.tuple #[x15, x12, (.int .i64 0)])
          ) fun j0 =>
          loopJ 2 (fun j1 x12 x13 =>
            opS P (S.len x1) fun x14 =>
            opS P (S.binI .lss x13 x14) fun x15 =>
            brn x15 (
              opS P (S.ia 66 x1 x13) fun x16 =>
              opS P (S.fa 61 x16 4) fun x17 =>
              opS P (S.ld 44 x17) fun x18 =>
              opS P (S.alloc 44) fun x19 =>
              opS P (S.st 44 x19 x18) fun x20 =>
              opS P (S.fa 44 x19 4) fun x21 =>
              opS P (S.st 3 x21 (.int .i64 0)) fun x22 =>
              jnJ 1 (fun x23 =>
                opS P (S.ia 66 x1 x13) fun x24 =>
                opS P (S.fa 61 x24 2) fun x25 =>
                opS P (S.ld 4 x25) fun x26 =>
                opS P (S.un .not x26) fun x27 =>
                brn x27 (
                  opS P (S.buildS 26 1 [(0, (.int .i64 0))]) fun x28 =>
                  opS P (S.bi .append #[26, 26] 26 [x12, x28]) fun x29 =>
                  opS P (S.binI .add x13 (.int .i64 1)) fun x30 =>
                  j1 x29 x30
                ) (
                  opS P (S.binI .eql x13 x11) fun x28 =>
                  brn x28 (
                    opS P (S.buildS 26 1 [(0, (.int .i64 1))]) fun x29 =>
                    opS P (S.bi .append #[26, 26] 26 [x12, x29]) fun x30 =>
                    opS P (S.binI .add x13 (.int .i64 1)) fun x31 =>
                    j1 x30 x31
                  ) (
                    jnJ 0 (
                      brn x23 (
                        opS P (S.buildS 26 1 [(0, (.int .i64 3))]) fun x29 =>
                        opS P (S.bi .append #[26, 26] 26 [x12, x29]) fun x30 =>
                        opS P (S.binI .add x13 (.int .i64 1)) fun x31 =>
                        j1 x30 x31
                      ) (
                        opS P (S.buildS 26 1 [(0, (.int .i64 2))]) fun x29 =>
                        opS P (S.bi .append #[26, 26] 26 [x12, x29]) fun x30 =>
                        opS P (S.binI .add x13 (.int .i64 1)) fun x31 =>
                        j1 x30 x31
                      )
                    ) fun j2 =>
                    brn x23 (
                      opS P (S.fa 44 x19 2) fun x29 =>
                      opS P (S.ld 25 x29) fun x30 =>
                      opS P (S.ld 25 x2) fun x31 =>
                      opS P (S.binG .eql 25 x30 x31) fun x32 =>
                      brn x32 (
                        opS P (S.buildS 26 1 [(0, (.int .i64 4))]) fun x33 =>
                        opS P (S.bi .append #[26, 26] 26 [x12, x33]) fun x34 =>
                        opS P (S.binI .add x13 (.int .i64 1)) fun x35 =>
                        j1 x34 x35
                      ) (
                        j2
                      )
                    ) (
                      j2
                    )
                  )
                )
              ) fun j2 =>
              drw <|
              opS P (S.ia 66 x1 x13) fun x23 =>
              opS P (S.ld 61 x23) fun x24 =>
              opS P (S.cl 84 [x24]) fun x25 =>
              brn x25 (
                opS P (S.ld 25 x2) fun x26 =>
                opS P (S.ld 44 x9) fun x27 =>
                opS P (S.ia 66 x1 x13) fun x28 =>
                opS P (S.fa 61 x28 0) fun x29 =>
                opS P (S.ld 3 x29) fun x30 =>
                allW (
                  opS P (S.ld 44 x19) fun x31 =>
                  opS P (S.cl 86 [x26, x27, x30]) fun x32 =>
                  opS P (S.cl 72 [x31, x32]) fun x33 =>
                  opS P (S.binI .lss x33 (.int .i64 0)) fun x34 =>
                  j2 x34
                ) (
                  opS P (S.cl 86 [x26, x27, x30]) fun x31 =>
                  opS P (S.ld 44 x19) fun x32 =>
                  opS P (S.cl 72 [x32, x31]) fun x33 =>
                  opS P (S.binI .lss x33 (.int .i64 0)) fun x34 =>
                  j2 x34
                )
              ) (
                allW (
                  j2 (.bool false)
                ) (
                  j2 (.bool false)
                )
              )
            ) (
              j0 x12
            )
          ) (.slice none 0 0) (.int .i64 0)
        ) fun j0 =>
        loopJ 2 (fun j1 x11 x12 =>
          opS P (S.len x1) fun x13 =>
          opS P (S.binI .lss x12 x13) fun x14 =>
          brn x14 (
            drw <|
            opS P (S.ia 66 x1 x12) fun x15 =>
            opS P (S.ld 61 x15) fun x16 =>
            opS P (S.cl 84 [x16]) fun x17 =>
            opS P (S.un .not x17) fun x18 =>
            brn x18 (
              opS P (S.binI .add x12 (.int .i64 1)) fun x19 =>
              j1 x11 x19
            ) (
              opS P (S.ia 66 x1 x12) fun x19 =>
              opS P (S.fa 61 x19 4) fun x20 =>
              opS P (S.fa 44 x20 2) fun x21 =>
              opS P (S.ld 25 x21) fun x22 =>
              opS P (S.ld 25 x2) fun x23 =>
              opS P (S.binG .eql 25 x22 x23) fun x24 =>
              brn x24 (
                opS P (S.binI .add x12 (.int .i64 1)) fun x25 =>
                j1 x11 x25
              ) (
                opS P (S.ia 66 x1 x12) fun x25 =>
                opS P (S.fa 61 x25 4) fun x26 =>
                opS P (S.ld 44 x26) fun x27 =>
                opS P (S.alloc 44) fun x28 =>
                opS P (S.st 44 x28 x27) fun x29 =>
                opS P (S.ia 66 x1 x12) fun x30 =>
                opS P (S.fa 61 x30 0) fun x31 =>
                opS P (S.ld 3 x31) fun x32 =>
                opS P (S.fa 44 x28 4) fun x33 =>
                opS P (S.st 3 x33 x32) fun x34 =>
                drw <|
                opS P (S.ld 44 x28) fun x35 =>
                opS P (S.ia 66 x1 x12) fun x36 =>
                opS P (S.fa 61 x36 1) fun x37 =>
                opS P (S.ld 3 x37) fun x38 =>
                opS P (S.cl 85 [x35, x38]) fun x39 =>
                opS P (S.st 44 x28 x39) fun x40 =>
                opS P (S.ld 44 x28) fun x41 =>
                opS P (S.ld 44 x9) fun x42 =>
                opS P (S.cl 72 [x41, x42]) fun x43 =>
                opS P (S.binI .lss x43 (.int .i64 0)) fun x44 =>
                brn x44 (
                  opS P (S.ld 44 x28) fun x45 =>
                  opS P (S.st 44 x9 x45) fun x46 =>
                  opS P (S.binI .add x12 (.int .i64 1)) fun x47 =>
                  j1 x12 x47
                ) (
                  opS P (S.binI .add x12 (.int .i64 1)) fun x45 =>
                  j1 x11 x45
                )
              )
            )
          ) (
            j0 x11
          )
        ) (.int .i64 (-1)) (.int .i64 0)
      ) fun j0 =>
      loopJ 1 (fun j1 x6 =>
        opS P (S.len x1) fun x7 =>
        opS P (S.binI .lss x6 x7) fun x8 =>
        brn x8 (
          jnJ 0 (
            opS P (S.binI .add x6 (.int .i64 1)) fun x9 =>
            j1 x9
          ) fun j2 =>
          jnJ 0 (
            j2
          ) fun j3 =>
          loopJ 1 (fun j4 x9 =>
            opS P (S.binI .lss x9 x6) fun x10 =>
            brn x10 (
              drw <|
              opS P (S.ia 66 x1 x9) fun x11 =>
              opS P (S.fa 61 x11 0) fun x12 =>
              opS P (S.ld 3 x12) fun x13 =>
              opS P (S.ia 66 x1 x6) fun x14 =>
              opS P (S.fa 61 x14 0) fun x15 =>
              opS P (S.ld 3 x15) fun x16 =>
              opS P (S.binI .eql x13 x16) fun x17 =>
              brn x17 (
                opS P (S.build 44 []) fun x18 =>
                opS P (S.st 44 x3 x18) fun x19 =>
                opS P (S.ld 44 x3) fun x20 =>
                K (.tuple #[x20, (.slice none 0 0), (.int .i64 5)])
              ) (
                opS P (S.binI .add x9 (.int .i64 1)) fun x18 =>
                j4 x18
              )
            ) (
              j3
            )
          ) (.int .i64 0)
        ) (
          j0
        )
      ) (.int .i64 0)
    ) fun j0 =>
    loopJ 1 (fun j1 x6 =>
      opS P (S.len x1) fun x7 =>
      opS P (S.binI .lss x6 x7) fun x8 =>
      brn x8 (
        opS P (S.ia 66 x1 x6) fun x9 =>
        opS P (S.fa 61 x9 0) fun x10 =>
        opS P (S.ld 3 x10) fun x11 =>
        opS P (S.binI .lss x11 (.int .i64 1)) fun x12 =>
        brn x12 (
          opS P (S.build 44 []) fun x13 =>
          opS P (S.st 44 x3 x13) fun x14 =>
          opS P (S.ld 44 x3) fun x15 =>
          K (.tuple #[x15, (.slice none 0 0), (.int .i64 1)])
        ) (
          opS P (S.ia 66 x1 x6) fun x13 =>
          opS P (S.fa 61 x13 0) fun x14 =>
          opS P (S.ld 3 x14) fun x15 =>
          opS P (S.binI .gtr x15 (.int .i64 65535)) fun x16 =>
          brn x16 (
            opS P (S.build 44 []) fun x17 =>
            opS P (S.st 44 x3 x17) fun x18 =>
            opS P (S.ld 44 x3) fun x19 =>
            K (.tuple #[x19, (.slice none 0 0), (.int .i64 1)])
          ) (
            opS P (S.ia 66 x1 x6) fun x17 =>
            opS P (S.fa 61 x17 1) fun x18 =>
            opS P (S.ld 3 x18) fun x19 =>
            opS P (S.binI .lss x19 (.int .i64 1)) fun x20 =>
            brn x20 (
              opS P (S.build 44 []) fun x21 =>
              opS P (S.st 44 x3 x21) fun x22 =>
              opS P (S.ld 44 x3) fun x23 =>
              K (.tuple #[x23, (.slice none 0 0), (.int .i64 1)])
            ) (
              opS P (S.ia 66 x1 x6) fun x21 =>
              opS P (S.fa 61 x21 1) fun x22 =>
              opS P (S.ld 3 x22) fun x23 =>
              opS P (S.binI .gtr x23 (.int .i64 200000000)) fun x24 =>
              brn x24 (
                opS P (S.build 44 []) fun x25 =>
                opS P (S.st 44 x3 x25) fun x26 =>
                opS P (S.ld 44 x3) fun x27 =>
                K (.tuple #[x27, (.slice none 0 0), (.int .i64 1)])
              ) (
                opS P (S.binI .add x6 (.int .i64 1)) fun x25 =>
                j1 x25
              )
            )
          )
        )
      ) (
        j0
      )
    ) (.int .i64 0)
  )
instance fnb73 : FnB Tryz.prog 73 := ⟨Tryz.call73⟩
theorem e73 : p73 Tryz.prog = fun K x0 x1 => denF Tryz.prog Tryz.f73 [x0, x1] K := by kernel_rfl
theorem c73 {K : Value → World → Prop} {x0 x1 : Value} {w : World} (h : p73 Tryz.prog K x0 x1 w) : CallsR Tryz.prog 73 #[x0, x1] K w := by
  rw [e73] at h
  exact denF_sound mixed Tryz.func73 h

end Go.Gx.S
-- 73
end

section
/- What the functions of this program ask. -/
set_option linter.unusedVariables false
set_option maxRecDepth 100000
namespace Go.Gx.S
open Go Go.Gx Go.Proofs
-- gemel/roles.Select
def p18 (P : Program) (K : Value → World → Prop) (x0 : Value) (x1 : Value) : World → Prop :=
  opS P (S.box 25 x0) fun x2 =>
  opS P (S.box 66 x1) fun x3 =>
  opS P (S.alloc 44) fun x4 =>
  opS P (S.ld 66 x3) fun x5 =>
  opS P (S.cl 32 [x5]) fun x6 =>
  opS P (S.binI .neq x6 (.int .i64 0)) fun x7 =>
  brn x7 (
    opS P (S.build 44 []) fun x8 =>
    opS P (S.st 44 x4 x8) fun x9 =>
    opS P (S.ld 44 x4) fun x10 =>
    K (.tuple #[x10, (.slice none 0 0), x6])
  ) (
    opS P (S.ld 25 x2) fun x8 =>
    opS P (S.ld 25 x2) fun x9 =>
    opS P (S.build 44 [(0, x8), (2, x9)]) fun x10 =>
    opS P (S.alloc 44) fun x11 =>
    opS P (S.st 44 x11 x10) fun x12 =>
    opS P (S.mkf (.func 33) [] [x3]) fun x13 =>
    opS P (S.ld 66 x3) fun x14 =>
    opS P (S.len x14) fun x15 =>
    jnJ 1 (fun x16 =>
      opS P (S.ld 66 x3) fun x17 =>
      opS P (S.len x17) fun x18 =>
      opS P (S.mks 26 x18 x18) fun x19 =>
      opS P (S.ld 66 x3) fun x20 =>
      opS P (S.len x20) fun x21 =>
      jnJ 0 (
        opS P (S.ld 44 x11) fun x22 =>
        opS P (S.st 44 x4 x22) fun x23 =>
        opS P (S.ld 44 x4) fun x24 =>
        K (.tuple #[x24, x19, (.int .i64 0)])
      ) fun j0 =>
      loopJ 1 (fun j1 x22 =>
        opS P (S.binI .lss x22 x21) fun x23 =>
        brn x23 (
          opS P (S.ld 66 x3) fun x24 =>
          opS P (S.ia 66 x24 x22) fun x25 =>
          opS P (S.fa 61 x25 4) fun x26 =>
          opS P (S.ld 44 x26) fun x27 =>
          opS P (S.alloc 44) fun x28 =>
          opS P (S.st 44 x28 x27) fun x29 =>
          opS P (S.fa 44 x28 4) fun x30 =>
          opS P (S.st 3 x30 (.int .i64 0)) fun x31 =>
          opS P (S.ld 66 x3) fun x32 =>
          opS P (S.ia 66 x32 x22) fun x33 =>
          opS P (S.fa 61 x33 2) fun x34 =>
          opS P (S.ld 4 x34) fun x35 =>
          opS P (S.un .not x35) fun x36 =>
          brn x36 (
            opS P (S.ia 26 x19 x22) fun x37 =>
            opS P (S.st 3 x37 (.int .i64 0)) fun x38 =>
            opS P (S.binI .add x22 (.int .i64 1)) fun x39 =>
            j1 x39
          ) (
            opS P (S.binI .eql x22 x16) fun x37 =>
            brn x37 (
              opS P (S.ia 26 x19 x22) fun x38 =>
              opS P (S.st 3 x38 (.int .i64 1)) fun x39 =>
              opS P (S.binI .add x22 (.int .i64 1)) fun x40 =>
              j1 x40
            ) (
              jnJ 0 (
                opS P (S.fa 44 x28 2) fun x38 =>
                opS P (S.ld 25 x38) fun x39 =>
                opS P (S.ld 25 x2) fun x40 =>
                opS P (S.binG .eql 25 x39 x40) fun x41 =>
                brn x41 (
                  opS P (S.ia 26 x19 x22) fun x42 =>
                  opS P (S.st 3 x42 (.int .i64 4)) fun x43 =>
                  opS P (S.binI .add x22 (.int .i64 1)) fun x44 =>
                  j1 x44
                ) (
                  opS P (S.ia 26 x19 x22) fun x42 =>
                  opS P (S.st 3 x42 (.int .i64 3)) fun x43 =>
                  opS P (S.binI .add x22 (.int .i64 1)) fun x44 =>
                  j1 x44
                )
              ) fun j2 =>
              drw <|
              opS P (S.call x13 [x22]) fun x38 =>
              opS P (S.un .not x38) fun x39 =>
              brn x39 (
                allW (
                  opS P (S.ia 26 x19 x22) fun x40 =>
                  opS P (S.st 3 x40 (.int .i64 2)) fun x41 =>
                  opS P (S.binI .add x22 (.int .i64 1)) fun x42 =>
                  j1 x42
                ) (
                  opS P (S.ia 26 x19 x22) fun x40 =>
                  opS P (S.st 3 x40 (.int .i64 2)) fun x41 =>
                  opS P (S.binI .add x22 (.int .i64 1)) fun x42 =>
                  j1 x42
                )
              ) (
                opS P (S.ld 25 x2) fun x40 =>
                opS P (S.ld 44 x11) fun x41 =>
                opS P (S.ld 66 x3) fun x42 =>
                opS P (S.ia 66 x42 x22) fun x43 =>
                opS P (S.fa 61 x43 0) fun x44 =>
                opS P (S.ld 3 x44) fun x45 =>
                allW (
                  opS P (S.ld 44 x28) fun x46 =>
                  opS P (S.cl 36 [x40, x41, x45]) fun x47 =>
                  opS P (S.cl 35 [x46, x47]) fun x48 =>
                  opS P (S.binI .geq x48 (.int .i64 0)) fun x49 =>
                  brn x49 (
                    opS P (S.ia 26 x19 x22) fun x50 =>
                    opS P (S.st 3 x50 (.int .i64 2)) fun x51 =>
                    opS P (S.binI .add x22 (.int .i64 1)) fun x52 =>
                    j1 x52
                  ) (
                    j2
                  )
                ) (
                  opS P (S.cl 36 [x40, x41, x45]) fun x46 =>
                  opS P (S.ld 44 x28) fun x47 =>
                  opS P (S.cl 35 [x47, x46]) fun x48 =>
                  opS P (S.binI .geq x48 (.int .i64 0)) fun x49 =>
                  brn x49 (
                    opS P (S.ia 26 x19 x22) fun x50 =>
                    opS P (S.st 3 x50 (.int .i64 2)) fun x51 =>
                    opS P (S.binI .add x22 (.int .i64 1)) fun x52 =>
                    j1 x52
                  ) (
                    j2
                  )
                )
              )
            )
          )
        ) (
          j0
        )
      ) (.int .i64 0)
    ) fun j0 =>
    loopJ 2 (fun j1 x16 x17 =>
      opS P (S.binI .lss x17 x15) fun x18 =>
      brn x18 (
        jnJ 1 (fun x19 =>
          opS P (S.ld 66 x3) fun x20 =>
          opS P (S.ia 66 x20 x17) fun x21 =>
          opS P (S.fa 61 x21 0) fun x22 =>
          opS P (S.ld 3 x22) fun x23 =>
          opS P (S.fa 44 x19 4) fun x24 =>
          opS P (S.st 3 x24 x23) fun x25 =>
          opS P (S.call x13 [x17]) fun x26 =>
          brn x26 (
            opS P (S.fa 44 x19 2) fun x27 =>
            opS P (S.ld 25 x27) fun x28 =>
            opS P (S.ld 25 x2) fun x29 =>
            opS P (S.binG .neq 25 x28 x29) fun x30 =>
            brn x30 (
              opS P (S.ld 44 x19) fun x31 =>
              opS P (S.ld 44 x11) fun x32 =>
              opS P (S.cl 35 [x31, x32]) fun x33 =>
              opS P (S.binI .lss x33 (.int .i64 0)) fun x34 =>
              brn x34 (
                opS P (S.ld 44 x19) fun x35 =>
                opS P (S.st 44 x11 x35) fun x36 =>
                opS P (S.binI .add x17 (.int .i64 1)) fun x37 =>
                j1 x17 x37
              ) (
                opS P (S.binI .add x17 (.int .i64 1)) fun x35 =>
                j1 x16 x35
              )
            ) (
              opS P (S.binI .add x17 (.int .i64 1)) fun x31 =>
              j1 x16 x31
            )
          ) (
            opS P (S.binI .add x17 (.int .i64 1)) fun x27 =>
            j1 x16 x27
          )
        ) fun j2 =>
        drw <|
        allW (
          opS P (S.ld 66 x3) fun x19 =>
          opS P (S.ia 66 x19 x17) fun x20 =>
          opS P (S.fa 61 x20 4) fun x21 =>
          allW (
            opS P (S.ld 44 x21) fun x22 =>
            allW (
              opS P (S.ld 66 x3) fun x23 =>
              opS P (S.ia 66 x23 x17) fun x24 =>
              opS P (S.fa 61 x24 1) fun x25 =>
              allW (
                opS P (S.ld 3 x25) fun x26 =>
                allW (
                  opS P (S.cl 34 [x22, x26]) fun x27 =>
                  opS P (S.alloc 44) fun x28 =>
                  opS P (S.st 44 x28 x27) fun x29 =>
                  j2 x28
                ) (
                  opS P (S.alloc 44) fun x27 =>
                  opS P (S.cl 34 [x22, x26]) fun x28 =>
                  opS P (S.st 44 x27 x28) fun x29 =>
                  j2 x27
                )
              ) (
                opS P (S.alloc 44) fun x26 =>
                opS P (S.ld 3 x25) fun x27 =>
                opS P (S.cl 34 [x22, x27]) fun x28 =>
                opS P (S.st 44 x26 x28) fun x29 =>
                j2 x26
              )
            ) (
              opS P (S.alloc 44) fun x23 =>
              opS P (S.ld 66 x3) fun x24 =>
              opS P (S.ia 66 x24 x17) fun x25 =>
              opS P (S.fa 61 x25 1) fun x26 =>
              opS P (S.ld 3 x26) fun x27 =>
              opS P (S.cl 34 [x22, x27]) fun x28 =>
              opS P (S.st 44 x23 x28) fun x29 =>
              j2 x23
            )
          ) (
            allW (
              opS P (S.ld 66 x3) fun x22 =>
              opS P (S.ia 66 x22 x17) fun x23 =>
              opS P (S.fa 61 x23 1) fun x24 =>
              allW (
                opS P (S.ld 44 x21) fun x25 =>
                allW (
                  opS P (S.ld 3 x24) fun x26 =>
                  allW (
                    opS P (S.cl 34 [x25, x26]) fun x27 =>
                    opS P (S.alloc 44) fun x28 =>
                    opS P (S.st 44 x28 x27) fun x29 =>
                    j2 x28
                  ) (
                    opS P (S.alloc 44) fun x27 =>
                    opS P (S.cl 34 [x25, x26]) fun x28 =>
                    opS P (S.st 44 x27 x28) fun x29 =>
                    j2 x27
                  )
                ) (
                  opS P (S.alloc 44) fun x26 =>
                  opS P (S.ld 3 x24) fun x27 =>
                  opS P (S.cl 34 [x25, x27]) fun x28 =>
                  opS P (S.st 44 x26 x28) fun x29 =>
                  j2 x26
                )
              ) (
                allW (
                  opS P (S.ld 3 x24) fun x25 =>
                  allW (
                    opS P (S.ld 44 x21) fun x26 =>
                    allW (
                      opS P (S.cl 34 [x26, x25]) fun x27 =>
                      opS P (S.alloc 44) fun x28 =>
                      opS P (S.st 44 x28 x27) fun x29 =>
                      j2 x28
                    ) (
                      opS P (S.alloc 44) fun x27 =>
                      opS P (S.cl 34 [x26, x25]) fun x28 =>
                      opS P (S.st 44 x27 x28) fun x29 =>
                      j2 x27
                    )
                  ) (
                    opS P (S.alloc 44) fun x26 =>
                    opS P (S.ld 44 x21) fun x27 =>
                    opS P (S.cl 34 [x27, x25]) fun x28 =>
                    opS P (S.st 44 x26 x28) fun x29 =>
                    j2 x26
                  )
                ) (
                  opS P (S.alloc 44) fun x25 =>
                  opS P (S.ld 44 x21) fun x26 =>
                  opS P (S.ld 3 x24) fun x27 =>
                  opS P (S.cl 34 [x26, x27]) fun x28 =>
                  opS P (S.st 44 x25 x28) fun x29 =>
                  j2 x25
                )
              )
            ) (
              opS P (S.alloc 44) fun x22 =>
              opS P (S.ld 44 x21) fun x23 =>
              opS P (S.ld 66 x3) fun x24 =>
              opS P (S.ia 66 x24 x17) fun x25 =>
              opS P (S.fa 61 x25 1) fun x26 =>
              opS P (S.ld 3 x26) fun x27 =>
              opS P (S.cl 34 [x23, x27]) fun x28 =>
              opS P (S.st 44 x22 x28) fun x29 =>
              j2 x22
            )
          )
        ) (
          allW (
            opS P (S.ld 66 x3) fun x19 =>
            opS P (S.ia 66 x19 x17) fun x20 =>
            opS P (S.fa 61 x20 1) fun x21 =>
            allW (
              opS P (S.ld 66 x3) fun x22 =>
              opS P (S.ia 66 x22 x17) fun x23 =>
              opS P (S.fa 61 x23 4) fun x24 =>
              allW (
                opS P (S.ld 44 x24) fun x25 =>
                allW (
                  opS P (S.ld 3 x21) fun x26 =>
                  allW (
                    opS P (S.cl 34 [x25, x26]) fun x27 =>
                    opS P (S.alloc 44) fun x28 =>
                    opS P (S.st 44 x28 x27) fun x29 =>
                    j2 x28
                  ) (
                    opS P (S.alloc 44) fun x27 =>
                    opS P (S.cl 34 [x25, x26]) fun x28 =>
                    opS P (S.st 44 x27 x28) fun x29 =>
                    j2 x27
                  )
                ) (
                  opS P (S.alloc 44) fun x26 =>
                  opS P (S.ld 3 x21) fun x27 =>
                  opS P (S.cl 34 [x25, x27]) fun x28 =>
                  opS P (S.st 44 x26 x28) fun x29 =>
                  j2 x26
                )
              ) (
                allW (
                  opS P (S.ld 3 x21) fun x25 =>
                  allW (
                    opS P (S.ld 44 x24) fun x26 =>
                    allW (
                      opS P (S.cl 34 [x26, x25]) fun x27 =>
                      opS P (S.alloc 44) fun x28 =>
                      opS P (S.st 44 x28 x27) fun x29 =>
                      j2 x28
                    ) (
                      opS P (S.alloc 44) fun x27 =>
                      opS P (S.cl 34 [x26, x25]) fun x28 =>
                      opS P (S.st 44 x27 x28) fun x29 =>
                      j2 x27
                    )
                  ) (
                    opS P (S.alloc 44) fun x26 =>
                    opS P (S.ld 44 x24) fun x27 =>
                    opS P (S.cl 34 [x27, x25]) fun x28 =>
                    opS P (S.st 44 x26 x28) fun x29 =>
                    j2 x26
                  )
                ) (
                  opS P (S.alloc 44) fun x25 =>
                  opS P (S.ld 44 x24) fun x26 =>
                  opS P (S.ld 3 x21) fun x27 =>
                  opS P (S.cl 34 [x26, x27]) fun x28 =>
                  opS P (S.st 44 x25 x28) fun x29 =>
                  j2 x25
                )
              )
            ) (
              allW (
                opS P (S.ld 3 x21) fun x22 =>
                allW (
                  opS P (S.ld 66 x3) fun x23 =>
                  opS P (S.ia 66 x23 x17) fun x24 =>
                  opS P (S.fa 61 x24 4) fun x25 =>
                  allW (
                    opS P (S.ld 44 x25) fun x26 =>
                    allW (
                      opS P (S.cl 34 [x26, x22]) fun x27 =>
                      opS P (S.alloc 44) fun x28 =>
                      opS P (S.st 44 x28 x27) fun x29 =>
                      j2 x28
                    ) (
                      opS P (S.alloc 44) fun x27 =>
                      opS P (S.cl 34 [x26, x22]) fun x28 =>
                      opS P (S.st 44 x27 x28) fun x29 =>
                      j2 x27
                    )
                  ) (
                    opS P (S.alloc 44) fun x26 =>
                    opS P (S.ld 44 x25) fun x27 =>
                    opS P (S.cl 34 [x27, x22]) fun x28 =>
                    opS P (S.st 44 x26 x28) fun x29 =>
                    j2 x26
                  )
                ) (
                  opS P (S.alloc 44) fun x23 =>
                  opS P (S.ld 66 x3) fun x24 =>
                  opS P (S.ia 66 x24 x17) fun x25 =>
                  opS P (S.fa 61 x25 4) fun x26 =>
                  opS P (S.ld 44 x26) fun x27 =>
                  opS P (S.cl 34 [x27, x22]) fun x28 =>
                  opS P (S.st 44 x23 x28) fun x29 =>
                  j2 x23
                )
              ) (
                opS P (S.alloc 44) fun x22 =>
                opS P (S.ld 66 x3) fun x23 =>
                opS P (S.ia 66 x23 x17) fun x24 =>
                opS P (S.fa 61 x24 4) fun x25 =>
                opS P (S.ld 44 x25) fun x26 =>
                opS P (S.ld 3 x21) fun x27 =>
                opS P (S.cl 34 [x26, x27]) fun x28 =>
                opS P (S.st 44 x22 x28) fun x29 =>
                j2 x22
              )
            )
          ) (
            opS P (S.alloc 44) fun x19 =>
            opS P (S.ld 66 x3) fun x20 =>
            opS P (S.ia 66 x20 x17) fun x21 =>
            opS P (S.fa 61 x21 4) fun x22 =>
            opS P (S.ld 44 x22) fun x23 =>
            opS P (S.ld 66 x3) fun x24 =>
            opS P (S.ia 66 x24 x17) fun x25 =>
            opS P (S.fa 61 x25 1) fun x26 =>
            opS P (S.ld 3 x26) fun x27 =>
            opS P (S.cl 34 [x23, x27]) fun x28 =>
            opS P (S.st 44 x19 x28) fun x29 =>
            j2 x19
          )
        )
      ) (
        j0 x16
      )
    ) (.int .i64 (-1)) (.int .i64 0)
  )
instance fnb18 : FnB Tryz.prog 18 := ⟨Tryz.call18⟩
theorem e18 : p18 Tryz.prog = fun K x0 x1 => denF Tryz.prog Tryz.f18 [x0, x1] K := by kernel_rfl
theorem c18 {K : Value → World → Prop} {x0 x1 : Value} {w : World} (h : p18 Tryz.prog K x0 x1 w) : CallsR Tryz.prog 18 #[x0, x1] K w := by
  rw [e18] at h
  exact denF_sound mixed Tryz.func18 h

end Go.Gx.S
-- 18
end

section
/- What the functions of this program ask. -/
set_option linter.unusedVariables false
set_option maxRecDepth 100000
namespace Go.Gx.S
open Go Go.Gx Go.Proofs
-- gemel/roles.fair
def p32 (P : Program) (K : Value → World → Prop) (x0 : Value) : World → Prop :=
  opS P (S.mkm 55 none) fun x1 =>
  opS P (S.len x0) fun x2 =>
  opS P (S.binI .gtr x2 (.int .i64 64)) fun x3 =>
  brn x3 (
    K (.int .i64 1)
  ) (
    opS P (S.len x0) fun x4 =>
    jnJ 0 (
      opS P (S.bi .len #[55] 3 [x1]) fun x5 =>
      opS P (S.len x0) fun x6 =>
      opS P (S.binI .lss x5 x6) fun x7 =>
      brn x7 (
        K (.int .i64 5)
      ) (
        K (.int .i64 0)
      )
    ) fun j0 =>
    loopJ 1 (fun j1 x5 =>
      opS P (S.binI .lss x5 x4) fun x6 =>
      brn x6 (
        opS P (S.ia 66 x0 x5) fun x7 =>
        opS P (S.ld 61 x7) fun x8 =>
        opS P (S.alloc 61) fun x9 =>
        opS P (S.st 61 x9 x8) fun x10 =>
        opS P (S.fa 61 x9 0) fun x11 =>
        opS P (S.ld 3 x11) fun x12 =>
        opS P (S.binI .lss x12 (.int .i64 1)) fun x13 =>
        brn x13 (
          K (.int .i64 1)
        ) (
          opS P (S.fa 61 x9 0) fun x14 =>
          opS P (S.ld 3 x14) fun x15 =>
          opS P (S.binI .gtr x15 (.int .i64 65535)) fun x16 =>
          brn x16 (
            K (.int .i64 1)
          ) (
            opS P (S.fa 61 x9 1) fun x17 =>
            opS P (S.ld 3 x17) fun x18 =>
            opS P (S.binI .lss x18 (.int .i64 1)) fun x19 =>
            brn x19 (
              K (.int .i64 1)
            ) (
              opS P (S.fa 61 x9 1) fun x20 =>
              opS P (S.ld 3 x20) fun x21 =>
              opS P (S.binI .gtr x21 (.int .i64 200000000)) fun x22 =>
              brn x22 (
                K (.int .i64 1)
              ) (
                opS P (S.fa 61 x9 0) fun x23 =>
                opS P (S.ld 3 x23) fun x24 =>
                opS P (S.mu 55 x1 x24 (.bool true)) fun x25 =>
                opS P (S.binI .add x5 (.int .i64 1)) fun x26 =>
                j1 x26
              )
            )
          )
        )
      ) (
        j0
      )
    ) (.int .i64 0)
  )
instance fnb32 : FnB Tryz.prog 32 := ⟨Tryz.call32⟩
theorem e32 : p32 Tryz.prog = fun K x0 => denF Tryz.prog Tryz.f32 [x0] K := by kernel_rfl
theorem c32 {K : Value → World → Prop} {x0 : Value} {w : World} (h : p32 Tryz.prog K x0 w) : CallsR Tryz.prog 32 #[x0] K w := by
  rw [e32] at h
  exact denF_sound mixed Tryz.func32 h

-- gemel/roles.Select$1
def p33 (P : Program) (K : Value → World → Prop) (x0 : Value) (x1 : Value) : World → Prop :=
  opS P (S.ld 66 x1) fun x2 =>
  opS P (S.ia 66 x2 x0) fun x3 =>
  opS P (S.fa 61 x3 2) fun x4 =>
  opS P (S.ld 4 x4) fun x5 =>
  brn x5 (
    opS P (S.ld 66 x1) fun x6 =>
    opS P (S.ia 66 x6 x0) fun x7 =>
    opS P (S.fa 61 x7 3) fun x8 =>
    opS P (S.ld 4 x8) fun x9 =>
    K x9
  ) (
    K (.bool false)
  )
instance fnb33 : FnB Tryz.prog 33 := ⟨Tryz.call33⟩
theorem e33 : p33 Tryz.prog = fun K x0 x1 => denF Tryz.prog Tryz.f33 [x0, x1] K := by kernel_rfl
theorem c33 {K : Value → World → Prop} {x0 x1 : Value} {w : World} (h : p33 Tryz.prog K x0 x1 w) : CallsR Tryz.prog 33 #[x0, x1] K w := by
  rw [e33] at h
  exact denF_sound mixed Tryz.func33 h

-- gemel/gemelref17.counts
def p84 (P : Program) (K : Value → World → Prop) (x0 : Value) : World → Prop :=
  opS P (S.box 61 x0) fun x1 =>
  opS P (S.fa 61 x1 2) fun x2 =>
  opS P (S.ld 4 x2) fun x3 =>
  brn x3 (
    opS P (S.fa 61 x1 3) fun x4 =>
    opS P (S.ld 4 x4) fun x5 =>
    K x5
  ) (
    K (.bool false)
  )
instance fnb84 : FnB Tryz.prog 84 := ⟨Tryz.call84⟩
theorem e84 : p84 Tryz.prog = fun K x0 => denF Tryz.prog Tryz.f84 [x0] K := by kernel_rfl
theorem c84 {K : Value → World → Prop} {x0 : Value} {w : World} (h : p84 Tryz.prog K x0 w) : CallsR Tryz.prog 84 #[x0] K w := by
  rw [e84] at h
  exact denF_sound mixed Tryz.func84 h

end Go.Gx.S
-- 32 33 84
end

section
/- What the functions of this program ask. -/
set_option linter.unusedVariables false
set_option maxRecDepth 100000
namespace Go.Gx.S
open Go Go.Gx Go.Proofs
-- gemel/vector.Add
def p34 (P : Program) (K : Value → World → Prop) (x0 : Value) (x1 : Value) : World → Prop :=
  opS P (S.box 44 x0) fun x2 =>
  opS P (S.alloc 44) fun x3 =>
  opS P (S.fa 44 x2 1) fun x4 =>
  opS P (S.ld 3 x4) fun x5 =>
  opS P (S.cl 61 [x5]) fun x6 =>
  brn x6 (
    opS P (S.cl 61 [x1]) fun x7 =>
    brn x7 (
      opS P (S.fa 44 x2 1) fun x8 =>
      opS P (S.ld 3 x8) fun x9 =>
      opS P (S.binI .add x9 x1) fun x10 =>
      opS P (S.bi .min #[3, 3] 3 [x10, (.int .i64 4294967295)]) fun x11 =>
      opS P (S.fa 44 x2 1) fun x12 =>
      opS P (S.st 3 x12 x11) fun x13 =>
      opS P (S.ld 44 x2) fun x14 =>
      opS P (S.st 44 x3 x14) fun x15 =>
      opS P (S.ld 44 x3) fun x16 =>
      K x16
    ) (
      opS P (S.ld 44 x2) fun x8 =>
      opS P (S.st 44 x3 x8) fun x9 =>
      opS P (S.ld 44 x3) fun x10 =>
      K x10
    )
  ) (
    opS P (S.ld 44 x2) fun x7 =>
    opS P (S.st 44 x3 x7) fun x8 =>
    opS P (S.ld 44 x3) fun x9 =>
    K x9
  )
instance fnb34 : FnB Tryz.prog 34 := ⟨Tryz.call34⟩
theorem e34 : p34 Tryz.prog = fun K x0 x1 => denF Tryz.prog Tryz.f34 [x0, x1] K := by kernel_rfl
theorem c34 {K : Value → World → Prop} {x0 x1 : Value} {w : World} (h : p34 Tryz.prog K x0 x1 w) : CallsR Tryz.prog 34 #[x0, x1] K w := by
  rw [e34] at h
  exact denF_sound mixed Tryz.func34 h

-- gemel/roles.Offer
def p36 (P : Program) (K : Value → World → Prop) (x0 : Value) (x1 : Value) (x2 : Value) : World → Prop :=
  opS P (S.box 25 x0) fun x3 =>
  opS P (S.box 44 x1) fun x4 =>
  opS P (S.alloc 44) fun x5 =>
  opS P (S.fa 44 x4 0) fun x6 =>
  opS P (S.ld 25 x6) fun x7 =>
  opS P (S.fa 44 x4 1) fun x8 =>
  opS P (S.ld 3 x8) fun x9 =>
  opS P (S.ld 25 x3) fun x10 =>
  opS P (S.build 44 [(0, x7), (1, x9), (2, x10), (3, x2)]) fun x11 =>
  opS P (S.st 44 x5 x11) fun x12 =>
  opS P (S.ld 44 x5) fun x13 =>
  K x13
instance fnb36 : FnB Tryz.prog 36 := ⟨Tryz.call36⟩
theorem e36 : p36 Tryz.prog = fun K x0 x1 x2 => denF Tryz.prog Tryz.f36 [x0, x1, x2] K := by kernel_rfl
theorem c36 {K : Value → World → Prop} {x0 x1 x2 : Value} {w : World} (h : p36 Tryz.prog K x0 x1 x2 w) : CallsR Tryz.prog 36 #[x0, x1, x2] K w := by
  rw [e36] at h
  exact denF_sound mixed Tryz.func36 h

-- gemel/bpdu.Right
def p39 (P : Program) (K : Value → World → Prop) (x0 : Value) : World → Prop :=
  opS P (S.box 38 x0) fun x1 =>
  opS P (S.fa 38 x1 0) fun x2 =>
  opS P (S.ld 3 x2) fun x3 =>
  opS P (S.binI .eql x3 (.int .i64 128)) fun x4 =>
  brn x4 (
    opS P (S.ld 38 x1) fun x5 =>
    opS P (S.fa 38 x1 0) fun x6 =>
    opS P (S.ld 3 x6) fun x7 =>
    opS P (S.build 38 [(0, x7)]) fun x8 =>
    opS P (S.binG .eql 38 x5 x8) fun x9 =>
    K x9
  ) (
    opS P (S.binI .eql x3 (.int .i64 0)) fun x5 =>
    brn x5 (
      opS P (S.alloc 4) fun x6 =>
      opS P (S.st 4 x6 (.bool true)) fun x7 =>
      opS P (S.mkf (.func 66) [] [x6]) fun x8 =>
      opS P (S.cl 65 [x1, x8, (.func (.func 67) #[] #[])]) fun x9 =>
      opS P (S.ld 4 x6) fun x10 =>
      K x10
    ) (
      opS P (S.binI .eql x3 (.int .i64 2)) fun x6 =>
      brn x6 (
        opS P (S.alloc 4) fun x7 =>
        opS P (S.st 4 x7 (.bool true)) fun x8 =>
        opS P (S.mkf (.func 66) [] [x7]) fun x9 =>
        opS P (S.cl 65 [x1, x9, (.func (.func 67) #[] #[])]) fun x10 =>
        opS P (S.ld 4 x7) fun x11 =>
        K x11
      ) (
        K (.bool false)
      )
    )
  )
instance fnb39 : FnB Tryz.prog 39 := ⟨Tryz.call39⟩
theorem e39 : p39 Tryz.prog = fun K x0 => denF Tryz.prog Tryz.f39 [x0] K := by kernel_rfl
theorem c39 {K : Value → World → Prop} {x0 : Value} {w : World} (h : p39 Tryz.prog K x0 w) : CallsR Tryz.prog 39 #[x0] K w := by
  rw [e39] at h
  exact denF_sound mixed Tryz.func39 h

-- gemel/gemelref05.Right
def p47 (P : Program) (K : Value → World → Prop) (x0 : Value) : World → Prop :=
  opS P (S.box 38 x0) fun x1 =>
  opS P (S.fa 38 x1 0) fun x2 =>
  opS P (S.ld 3 x2) fun x3 =>
  opS P (S.binI .eql x3 (.int .i64 128)) fun x4 =>
  brn x4 (
    opS P (S.ld 38 x1) fun x5 =>
    opS P (S.build 38 [(0, (.int .i64 128))]) fun x6 =>
    opS P (S.binG .eql 38 x5 x6) fun x7 =>
    K x7
  ) (
    jnJ 0 (
      jnJ 1 (fun x5 =>
        brn x5 (
          opS P (S.fa 38 x1 1) fun x6 =>
          opS P (S.ld 3 x6) fun x7 =>
          opS P (S.cl 70 [x7, (.int .i64 255)]) fun x8 =>
          brn x8 (
            opS P (S.fa 38 x1 2) fun x9 =>
            opS P (S.fa 25 x9 0) fun x10 =>
            opS P (S.ld 3 x10) fun x11 =>
            opS P (S.cl 70 [x11, (.int .i64 65535)]) fun x12 =>
            brn x12 (
              opS P (S.fa 38 x1 4) fun x13 =>
              opS P (S.fa 25 x13 0) fun x14 =>
              opS P (S.ld 3 x14) fun x15 =>
              opS P (S.cl 70 [x15, (.int .i64 65535)]) fun x16 =>
              brn x16 (
                opS P (S.fa 38 x1 5) fun x17 =>
                opS P (S.ld 3 x17) fun x18 =>
                opS P (S.cl 70 [x18, (.int .i64 65535)]) fun x19 =>
                brn x19 (
                  opS P (S.fa 38 x1 3) fun x20 =>
                  opS P (S.ld 3 x20) fun x21 =>
                  opS P (S.cl 70 [x21, (.int .i64 4294967295)]) fun x22 =>
                  K x22
                ) (
                  K (.bool false)
                )
              ) (
                K (.bool false)
              )
            ) (
              K (.bool false)
            )
          ) (
            K (.bool false)
          )
        ) (
          K (.bool false)
        )
      ) fun j0 =>
      opS P (S.fa 38 x1 6) fun x5 =>
      opS P (S.ld 3 x5) fun x6 =>
      opS P (S.cl 70 [x6, (.int .i64 65535)]) fun x7 =>
      brn x7 (
        opS P (S.fa 38 x1 7) fun x8 =>
        opS P (S.ld 3 x8) fun x9 =>
        opS P (S.cl 70 [x9, (.int .i64 65535)]) fun x10 =>
        brn x10 (
          opS P (S.fa 38 x1 8) fun x11 =>
          opS P (S.ld 3 x11) fun x12 =>
          opS P (S.cl 70 [x12, (.int .i64 65535)]) fun x13 =>
          brn x13 (
            opS P (S.fa 38 x1 9) fun x14 =>
            opS P (S.ld 3 x14) fun x15 =>
            opS P (S.cl 70 [x15, (.int .i64 65535)]) fun x16 =>
            j0 x16
          ) (
            j0 (.bool false)
          )
        ) (
          j0 (.bool false)
        )
      ) (
        j0 (.bool false)
      )
    ) fun j0 =>
    opS P (S.fa 38 x1 0) fun x5 =>
    opS P (S.ld 3 x5) fun x6 =>
    opS P (S.binI .neq x6 (.int .i64 0)) fun x7 =>
    brn x7 (
      opS P (S.fa 38 x1 0) fun x8 =>
      opS P (S.ld 3 x8) fun x9 =>
      opS P (S.binI .neq x9 (.int .i64 2)) fun x10 =>
      brn x10 (
        K (.bool false)
      ) (
        j0
      )
    ) (
      j0
    )
  )
instance fnb47 : FnB Tryz.prog 47 := ⟨Tryz.call47⟩
theorem e47 : p47 Tryz.prog = fun K x0 => denF Tryz.prog Tryz.f47 [x0] K := by kernel_rfl
theorem c47 {K : Value → World → Prop} {x0 : Value} {w : World} (h : p47 Tryz.prog K x0 w) : CallsR Tryz.prog 47 #[x0] K w := by
  rw [e47] at h
  exact denF_sound mixed Tryz.func47 h

-- gemel/vector.costs
def p61 (P : Program) (K : Value → World → Prop) (x0 : Value) : World → Prop :=
  opS P (S.binI .geq x0 (.int .i64 0)) fun x1 =>
  brn x1 (
    opS P (S.binI .leq x0 (.int .i64 4294967295)) fun x2 =>
    K x2
  ) (
    K (.bool false)
  )
instance fnb61 : FnB Tryz.prog 61 := ⟨Tryz.call61⟩
theorem e61 : p61 Tryz.prog = fun K x0 => denF Tryz.prog Tryz.f61 [x0] K := by kernel_rfl
theorem c61 {K : Value → World → Prop} {x0 : Value} {w : World} (h : p61 Tryz.prog K x0 w) : CallsR Tryz.prog 61 #[x0] K w := by
  rw [e61] at h
  exact denF_sound mixed Tryz.func61 h

-- gemel/bpdu.walk
def p65 (P : Program) (K : Value → World → Prop) (x0 : Value) (x1 : Value) (x2 : Value) : World → Prop :=
  drw <|
  opS P (S.nc x0) fun x3 =>
  opS P (S.fa 38 x3 2) fun x4 =>
  opS P (S.fa 25 x4 1) fun x5 =>
  opS P (S.nc x0) fun x6 =>
  opS P (S.fa 38 x6 4) fun x7 =>
  opS P (S.fa 25 x7 1) fun x8 =>
  opS P (S.build 118 [(0, x5), (1, x8)]) fun x9 =>
  opS P (S.alloc 118) fun x10 =>
  opS P (S.st 118 x10 x9) fun x11 =>
  opS P (S.cl 81 [x0]) fun x12 =>
  opS P (S.len x12) fun x13 =>
  jnJ 0 (
    K (.tuple #[])
  ) fun j0 =>
  loopJ 1 (fun j1 x14 =>
    opS P (S.binI .lss x14 x13) fun x15 =>
    brn x15 (
      opS P (S.ia 119 x12 x14) fun x16 =>
      opS P (S.ld 109 x16) fun x17 =>
      opS P (S.alloc 109) fun x18 =>
      opS P (S.st 109 x18 x17) fun x19 =>
      opS P (S.fa 109 x18 0) fun x20 =>
      opS P (S.ld 107 x20) fun x21 =>
      opS P (S.binN .eql (S.isNilP x21)) fun x22 =>
      brn x22 (
        opS P (S.fa 109 x18 1) fun x23 =>
        opS P (S.ld 3 x23) fun x24 =>
        opS P (S.ia 118 x10 x24) fun x25 =>
        opS P (S.ld 111 x25) fun x26 =>
        opS P (S.call x2 [x26]) fun x27 =>
        opS P (S.binI .add x14 (.int .i64 1)) fun x28 =>
        j1 x28
      ) (
        opS P (S.ld 109 x18) fun x23 =>
        opS P (S.call x1 [x23]) fun x24 =>
        opS P (S.binI .add x14 (.int .i64 1)) fun x25 =>
        j1 x25
      )
    ) (
      j0
    )
  ) (.int .i64 0)
instance fnb65 : FnB Tryz.prog 65 := ⟨Tryz.call65⟩
theorem e65 : p65 Tryz.prog = fun K x0 x1 x2 => denF Tryz.prog Tryz.f65 [x0, x1, x2] K := by kernel_rfl
theorem c65 {K : Value → World → Prop} {x0 x1 x2 : Value} {w : World} (h : p65 Tryz.prog K x0 x1 x2 w) : CallsR Tryz.prog 65 #[x0, x1, x2] K w := by
  rw [e65] at h
  exact denF_sound mixed Tryz.func65 h

-- gemel/bpdu.Right$1
def p66 (P : Program) (K : Value → World → Prop) (x0 : Value) (x1 : Value) : World → Prop :=
  opS P (S.box 109 x0) fun x2 =>
  drw <|
  opS P (S.ld 4 x1) fun x3 =>
  brn x3 (
    opS P (S.fa 109 x2 0) fun x4 =>
    opS P (S.ld 107 x4) fun x5 =>
    opS P (S.nc x5) fun x6 =>
    opS P (S.ld 3 x6) fun x7 =>
    opS P (S.binI .geq x7 (.int .i64 0)) fun x8 =>
    brn x8 (
      opS P (S.fa 109 x2 0) fun x9 =>
      opS P (S.ld 107 x9) fun x10 =>
      opS P (S.nc x10) fun x11 =>
      opS P (S.ld 3 x11) fun x12 =>
      opS P (S.fa 109 x2 1) fun x13 =>
      opS P (S.ld 3 x13) fun x14 =>
      opS P (S.binI .mul (.int .i64 8) x14) fun x15 =>
      opS P (S.binI .shl (.int .i64 1) x15) fun x16 =>
      opS P (S.binI .lss x12 x16) fun x17 =>
      opS P (S.st 4 x1 x17) fun x18 =>
      K (.tuple #[])
    ) (
      opS P (S.st 4 x1 (.bool false)) fun x9 =>
      K (.tuple #[])
    )
  ) (
    opS P (S.st 4 x1 (.bool false)) fun x4 =>
    K (.tuple #[])
  )
instance fnb66 : FnB Tryz.prog 66 := ⟨Tryz.call66⟩
theorem e66 : p66 Tryz.prog = fun K x0 x1 => denF Tryz.prog Tryz.f66 [x0, x1] K := by kernel_rfl
theorem c66 {K : Value → World → Prop} {x0 x1 : Value} {w : World} (h : p66 Tryz.prog K x0 x1 w) : CallsR Tryz.prog 66 #[x0, x1] K w := by
  rw [e66] at h
  exact denF_sound mixed Tryz.func66 h

-- gemel/bpdu.Right$2
def p67 (P : Program) (K : Value → World → Prop) (x0 : Value) : World → Prop :=
  K (.tuple #[])
instance fnb67 : FnB Tryz.prog 67 := ⟨Tryz.call67⟩
theorem e67 : p67 Tryz.prog = fun K x0 => denF Tryz.prog Tryz.f67 [x0] K := by kernel_rfl
theorem c67 {K : Value → World → Prop} {x0 : Value} {w : World} (h : p67 Tryz.prog K x0 w) : CallsR Tryz.prog 67 #[x0] K w := by
  rw [e67] at h
  exact denF_sound mixed Tryz.func67 h

-- gemel/vector.Of
def p68 (P : Program) (K : Value → World → Prop) (x0 : Value) (x1 : Value) : World → Prop :=
  opS P (S.box 38 x0) fun x2 =>
  opS P (S.alloc 44) fun x3 =>
  opS P (S.ld 38 x2) fun x4 =>
  opS P (S.cl 39 [x4]) fun x5 =>
  opS P (S.un .not x5) fun x6 =>
  brn x6 (
    opS P (S.build 44 []) fun x7 =>
    opS P (S.st 44 x3 x7) fun x8 =>
    opS P (S.ld 44 x3) fun x9 =>
    K (.tuple #[x9, (.int .i64 2)])
  ) (
    opS P (S.fa 38 x2 0) fun x7 =>
    opS P (S.ld 3 x7) fun x8 =>
    opS P (S.binI .eql x8 (.int .i64 128)) fun x9 =>
    brn x9 (
      opS P (S.build 44 []) fun x10 =>
      opS P (S.st 44 x3 x10) fun x11 =>
      opS P (S.ld 44 x3) fun x12 =>
      K (.tuple #[x12, (.int .i64 2)])
    ) (
      opS P (S.binI .lss x1 (.int .i64 1)) fun x10 =>
      brn x10 (
        opS P (S.build 44 []) fun x11 =>
        opS P (S.st 44 x3 x11) fun x12 =>
        opS P (S.ld 44 x3) fun x13 =>
        K (.tuple #[x13, (.int .i64 1)])
      ) (
        opS P (S.binI .gtr x1 (.int .i64 65535)) fun x11 =>
        brn x11 (
          opS P (S.build 44 []) fun x12 =>
          opS P (S.st 44 x3 x12) fun x13 =>
          opS P (S.ld 44 x3) fun x14 =>
          K (.tuple #[x14, (.int .i64 1)])
        ) (
          opS P (S.fa 38 x2 2) fun x12 =>
          opS P (S.ld 25 x12) fun x13 =>
          opS P (S.fa 38 x2 3) fun x14 =>
          opS P (S.ld 3 x14) fun x15 =>
          opS P (S.fa 38 x2 4) fun x16 =>
          opS P (S.ld 25 x16) fun x17 =>
          opS P (S.fa 38 x2 5) fun x18 =>
          opS P (S.ld 3 x18) fun x19 =>
          opS P (S.build 44 [(0, x13), (1, x15), (2, x17), (3, x19), (4, x1)]) fun x20 =>
          opS P (S.st 44 x3 x20) fun x21 =>
          opS P (S.ld 44 x3) fun x22 =>
          K (.tuple #[x22, (.int .i64 0)])
        )
      )
    )
  )
instance fnb68 : FnB Tryz.prog 68 := ⟨Tryz.call68⟩
theorem e68 : p68 Tryz.prog = fun K x0 x1 => denF Tryz.prog Tryz.f68 [x0, x1] K := by kernel_rfl
theorem c68 {K : Value → World → Prop} {x0 x1 : Value} {w : World} (h : p68 Tryz.prog K x0 x1 w) : CallsR Tryz.prog 68 #[x0, x1] K w := by
  rw [e68] at h
  exact denF_sound mixed Tryz.func68 h

-- gemel/gemelref05.within
def p70 (P : Program) (K : Value → World → Prop) (x0 : Value) (x1 : Value) : World → Prop :=
  opS P (S.binI .geq x0 (.int .i64 0)) fun x2 =>
  brn x2 (
    opS P (S.binI .leq x0 x1) fun x3 =>
    K x3
  ) (
    K (.bool false)
  )
instance fnb70 : FnB Tryz.prog 70 := ⟨Tryz.call70⟩
theorem e70 : p70 Tryz.prog = fun K x0 x1 => denF Tryz.prog Tryz.f70 [x0, x1] K := by kernel_rfl
theorem c70 {K : Value → World → Prop} {x0 x1 : Value} {w : World} (h : p70 Tryz.prog K x0 x1 w) : CallsR Tryz.prog 70 #[x0, x1] K w := by
  rw [e70] at h
  exact denF_sound mixed Tryz.func70 h

-- gemel/gemelref16.Of
def p71 (P : Program) (K : Value → World → Prop) (x0 : Value) (x1 : Value) : World → Prop :=
  opS P (S.box 38 x0) fun x2 =>
  opS P (S.alloc 44) fun x3 =>
  opS P (S.ld 38 x2) fun x4 =>
  opS P (S.cl 47 [x4]) fun x5 =>
  opS P (S.un .not x5) fun x6 =>
  brn x6 (
    opS P (S.build 44 []) fun x7 =>
    opS P (S.st 44 x3 x7) fun x8 =>
    opS P (S.ld 44 x3) fun x9 =>
    K (.tuple #[x9, (.int .i64 2)])
  ) (
    opS P (S.fa 38 x2 0) fun x7 =>
    opS P (S.ld 3 x7) fun x8 =>
    opS P (S.binI .eql x8 (.int .i64 128)) fun x9 =>
    brn x9 (
      opS P (S.build 44 []) fun x10 =>
      opS P (S.st 44 x3 x10) fun x11 =>
      opS P (S.ld 44 x3) fun x12 =>
      K (.tuple #[x12, (.int .i64 2)])
    ) (
      opS P (S.binI .lss x1 (.int .i64 1)) fun x10 =>
      brn x10 (
        opS P (S.build 44 []) fun x11 =>
        opS P (S.st 44 x3 x11) fun x12 =>
        opS P (S.ld 44 x3) fun x13 =>
        K (.tuple #[x13, (.int .i64 1)])
      ) (
        opS P (S.binI .gtr x1 (.int .i64 65535)) fun x11 =>
        brn x11 (
          opS P (S.build 44 []) fun x12 =>
          opS P (S.st 44 x3 x12) fun x13 =>
          opS P (S.ld 44 x3) fun x14 =>
          K (.tuple #[x14, (.int .i64 1)])
        ) (
          opS P (S.fa 38 x2 2) fun x12 =>
          opS P (S.ld 25 x12) fun x13 =>
          opS P (S.fa 38 x2 3) fun x14 =>
          opS P (S.ld 3 x14) fun x15 =>
          opS P (S.fa 38 x2 4) fun x16 =>
          opS P (S.ld 25 x16) fun x17 =>
          opS P (S.fa 38 x2 5) fun x18 =>
          opS P (S.ld 3 x18) fun x19 =>
          opS P (S.build 44 [(0, x13), (1, x15), (2, x17), (3, x19), (4, x1)]) fun x20 =>
          opS P (S.st 44 x3 x20) fun x21 =>
          opS P (S.ld 44 x3) fun x22 =>
          K (.tuple #[x22, (.int .i64 0)])
        )
      )
    )
  )
instance fnb71 : FnB Tryz.prog 71 := ⟨Tryz.call71⟩
theorem e71 : p71 Tryz.prog = fun K x0 x1 => denF Tryz.prog Tryz.f71 [x0, x1] K := by kernel_rfl
theorem c71 {K : Value → World → Prop} {x0 x1 : Value} {w : World} (h : p71 Tryz.prog K x0 x1 w) : CallsR Tryz.prog 71 #[x0, x1] K w := by
  rw [e71] at h
  exact denF_sound mixed Tryz.func71 h

-- gemel/bpdu.fields
def p81 (P : Program) (K : Value → World → Prop) (x0 : Value) : World → Prop :=
  drw <|
  opS P (S.nc x0) fun x1 =>
  opS P (S.fa 38 x1 1) fun x2 =>
  opS P (S.build 109 [(0, x2), (1, (.int .i64 1))]) fun x3 =>
  opS P (S.nc x0) fun x4 =>
  opS P (S.fa 38 x4 2) fun x5 =>
  opS P (S.fa 25 x5 0) fun x6 =>
  opS P (S.build 109 [(0, x6), (1, (.int .i64 2))]) fun x7 =>
  opS P (S.build 109 [(0, (.pointer none)), (1, (.int .i64 0))]) fun x8 =>
  opS P (S.nc x0) fun x9 =>
  opS P (S.fa 38 x9 3) fun x10 =>
  opS P (S.build 109 [(0, x10), (1, (.int .i64 4))]) fun x11 =>
  opS P (S.nc x0) fun x12 =>
  opS P (S.fa 38 x12 4) fun x13 =>
  opS P (S.fa 25 x13 0) fun x14 =>
  opS P (S.build 109 [(0, x14), (1, (.int .i64 2))]) fun x15 =>
  opS P (S.build 109 [(0, (.pointer none)), (1, (.int .i64 1))]) fun x16 =>
  opS P (S.nc x0) fun x17 =>
  opS P (S.fa 38 x17 5) fun x18 =>
  opS P (S.build 109 [(0, x18), (1, (.int .i64 2))]) fun x19 =>
  opS P (S.nc x0) fun x20 =>
  opS P (S.fa 38 x20 6) fun x21 =>
  opS P (S.build 109 [(0, x21), (1, (.int .i64 2))]) fun x22 =>
  opS P (S.nc x0) fun x23 =>
  opS P (S.fa 38 x23 7) fun x24 =>
  opS P (S.build 109 [(0, x24), (1, (.int .i64 2))]) fun x25 =>
  opS P (S.nc x0) fun x26 =>
  opS P (S.fa 38 x26 8) fun x27 =>
  opS P (S.build 109 [(0, x27), (1, (.int .i64 2))]) fun x28 =>
  opS P (S.nc x0) fun x29 =>
  opS P (S.fa 38 x29 9) fun x30 =>
  opS P (S.build 109 [(0, x30), (1, (.int .i64 2))]) fun x31 =>
  opS P (S.buildS 119 11 [(0, x3), (1, x7), (2, x8), (3, x11), (4, x15), (5, x16), (6, x19), (7, x22), (8, x25), (9, x28), (10, x31)]) fun x32 =>
  K x32
instance fnb81 : FnB Tryz.prog 81 := ⟨Tryz.call81⟩
theorem e81 : p81 Tryz.prog = fun K x0 => denF Tryz.prog Tryz.f81 [x0] K := by kernel_rfl
theorem c81 {K : Value → World → Prop} {x0 : Value} {w : World} (h : p81 Tryz.prog K x0 w) : CallsR Tryz.prog 81 #[x0] K w := by
  rw [e81] at h
  exact denF_sound mixed Tryz.func81 h

-- gemel/gemelref16.Add
def p85 (P : Program) (K : Value → World → Prop) (x0 : Value) (x1 : Value) : World → Prop :=
  opS P (S.box 44 x0) fun x2 =>
  opS P (S.alloc 44) fun x3 =>
  opS P (S.fa 44 x2 1) fun x4 =>
  opS P (S.ld 3 x4) fun x5 =>
  opS P (S.binI .lss x5 (.int .i64 0)) fun x6 =>
  brn x6 (
    opS P (S.ld 44 x2) fun x7 =>
    opS P (S.st 44 x3 x7) fun x8 =>
    opS P (S.ld 44 x3) fun x9 =>
    K x9
  ) (
    opS P (S.fa 44 x2 1) fun x7 =>
    opS P (S.ld 3 x7) fun x8 =>
    opS P (S.binI .gtr x8 (.int .i64 4294967295)) fun x9 =>
    brn x9 (
      opS P (S.ld 44 x2) fun x10 =>
      opS P (S.st 44 x3 x10) fun x11 =>
      opS P (S.ld 44 x3) fun x12 =>
      K x12
    ) (
      opS P (S.binI .lss x1 (.int .i64 0)) fun x10 =>
      brn x10 (
        opS P (S.ld 44 x2) fun x11 =>
        opS P (S.st 44 x3 x11) fun x12 =>
        opS P (S.ld 44 x3) fun x13 =>
        K x13
      ) (
        opS P (S.binI .gtr x1 (.int .i64 4294967295)) fun x11 =>
        brn x11 (
          opS P (S.ld 44 x2) fun x12 =>
          opS P (S.st 44 x3 x12) fun x13 =>
          opS P (S.ld 44 x3) fun x14 =>
          K x14
        ) (
          opS P (S.fa 44 x2 1) fun x12 =>
          opS P (S.ld 3 x12) fun x13 =>
          opS P (S.binI .add x13 x1) fun x14 =>
          opS P (S.bi .min #[3, 3] 3 [x14, (.int .i64 4294967295)]) fun x15 =>
          opS P (S.fa 44 x2 1) fun x16 =>
          opS P (S.st 3 x16 x15) fun x17 =>
          opS P (S.ld 44 x2) fun x18 =>
          opS P (S.st 44 x3 x18) fun x19 =>
          opS P (S.ld 44 x3) fun x20 =>
          K x20
        )
      )
    )
  )
instance fnb85 : FnB Tryz.prog 85 := ⟨Tryz.call85⟩
theorem e85 : p85 Tryz.prog = fun K x0 x1 => denF Tryz.prog Tryz.f85 [x0, x1] K := by kernel_rfl
theorem c85 {K : Value → World → Prop} {x0 x1 : Value} {w : World} (h : p85 Tryz.prog K x0 x1 w) : CallsR Tryz.prog 85 #[x0, x1] K w := by
  rw [e85] at h
  exact denF_sound mixed Tryz.func85 h

-- gemel/gemelref17.Offer
def p86 (P : Program) (K : Value → World → Prop) (x0 : Value) (x1 : Value) (x2 : Value) : World → Prop :=
  opS P (S.box 25 x0) fun x3 =>
  opS P (S.box 44 x1) fun x4 =>
  opS P (S.alloc 44) fun x5 =>
  opS P (S.fa 44 x4 0) fun x6 =>
  opS P (S.ld 25 x6) fun x7 =>
  opS P (S.fa 44 x4 1) fun x8 =>
  opS P (S.ld 3 x8) fun x9 =>
  opS P (S.ld 25 x3) fun x10 =>
  opS P (S.build 44 [(0, x7), (1, x9), (2, x10), (3, x2)]) fun x11 =>
  opS P (S.st 44 x5 x11) fun x12 =>
  opS P (S.ld 44 x5) fun x13 =>
  K x13
instance fnb86 : FnB Tryz.prog 86 := ⟨Tryz.call86⟩
theorem e86 : p86 Tryz.prog = fun K x0 x1 x2 => denF Tryz.prog Tryz.f86 [x0, x1, x2] K := by kernel_rfl
theorem c86 {K : Value → World → Prop} {x0 x1 x2 : Value} {w : World} (h : p86 Tryz.prog K x0 x1 x2 w) : CallsR Tryz.prog 86 #[x0, x1, x2] K w := by
  rw [e86] at h
  exact denF_sound mixed Tryz.func86 h

end Go.Gx.S
-- 61 34 85 36 86 81 65 39 66 67 70 47 68 71
end
