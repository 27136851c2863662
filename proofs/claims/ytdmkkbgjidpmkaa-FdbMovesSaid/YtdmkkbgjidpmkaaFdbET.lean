/- What the functions of this program ask. -/
import Derived.Test.YtdmkkbgjidpmkaaTy
set_option linter.unusedVariables false
set_option maxRecDepth 100000
namespace Go.Gx.S
open Go Go.Gx Go.Proofs
-- gemel/gemellaw08.FdbScripts
def p3 (P : Program) (K : Value → World → Prop) (x0 : Value) (x1 : Value) (x2 : Value) : World → Prop :=
  opS P (S.box 26 x2) fun x3 =>
  opS P (S.cl 9 []) fun x4 =>
  opS P (S.cl 10 [x0, x1]) fun x5 =>
  opS P (S.ext x5 0) fun x6 =>
  opS P (S.ext x5 1) fun x7 =>
  opS P (S.ext x5 2) fun x8 =>
  jnJ 0 (
    jnJ 1 (fun x9 =>
      K x9
    ) fun j0 =>
    brn x4 (
      j0 x8
    ) (
      j0 (.bool false)
    )
  ) fun j0 =>
  opS P (S.un .not x4) fun x9 =>
  brn x9 (
    j0
  ) (
    opS P (S.un .not x8) fun x10 =>
    brn x10 (
      j0
    ) (
      opS P (S.binN .eql (S.isNilP x6)) fun x11 =>
      brn x11 (
        j0
      ) (
        opS P (S.fa 26 x3 1) fun x12 =>
        opS P (S.ld 3 x12) fun x13 =>
        opS P (S.fa 26 x3 2) fun x14 =>
        opS P (S.ld 24 x14) fun x15 =>
        opS P (S.cl 11 [x6, x13, x15]) fun x16 =>
        opS P (S.ext x16 0) fun x17 =>
        opS P (S.ext x16 1) fun x18 =>
        opS P (S.alloc 33) fun x19 =>
        opS P (S.st 33 x19 x17) fun x20 =>
        opS P (S.fa 26 x3 1) fun x21 =>
        opS P (S.ld 3 x21) fun x22 =>
        opS P (S.fa 26 x3 2) fun x23 =>
        opS P (S.ld 24 x23) fun x24 =>
        opS P (S.cl 12 [x7, x22, x24]) fun x25 =>
        opS P (S.ext x25 0) fun x26 =>
        opS P (S.ext x25 1) fun x27 =>
        opS P (S.alloc 33) fun x28 =>
        opS P (S.st 33 x28 x26) fun x29 =>
        jnJ 1 (fun x30 =>
          drw <|
          brn x30 (
            opS P (S.ld 33 x19) fun x31 =>
            opS P (S.ld 33 x28) fun x32 =>
            opS P (S.binG .eql 33 x31 x32) fun x33 =>
            brn x33 (
              opS P (S.binB .eql x18 x27) fun x34 =>
              brn x34 (
                opS P (S.nc x7) fun x35 =>
                opS P (S.fa 40 x35 1) fun x36 =>
                allW (
                  opS P (S.cl 15 [x6]) fun x37 =>
                  opS P (S.ld 37 x36) fun x38 =>
                  opS P (S.len x38) fun x39 =>
                  opS P (S.binI .eql x37 x39) fun x40 =>
                  K x40
                ) (
                  opS P (S.ld 37 x36) fun x37 =>
                  opS P (S.cl 15 [x6]) fun x38 =>
                  opS P (S.len x37) fun x39 =>
                  opS P (S.binI .eql x38 x39) fun x40 =>
                  K x40
                )
              ) (
                allW (
                  K (.bool false)
                ) (
                  K (.bool false)
                )
              )
            ) (
              allW (
                K (.bool false)
              ) (
                K (.bool false)
              )
            )
          ) (
            allW (
              K (.bool false)
            ) (
              K (.bool false)
            )
          )
        ) fun j1 =>
        drw <|
        opS P (S.nc x7) fun x30 =>
        opS P (S.fa 40 x30 1) fun x31 =>
        allW (
          opS P (S.cl 14 [x6]) fun x32 =>
          opS P (S.ld 37 x31) fun x33 =>
          opS P (S.cl 13 [x32, x33]) fun x34 =>
          j1 x34
        ) (
          opS P (S.ld 37 x31) fun x32 =>
          opS P (S.cl 14 [x6]) fun x33 =>
          opS P (S.cl 13 [x33, x32]) fun x34 =>
          j1 x34
        )
      )
    )
  )
instance fnb3 : FnB Try.prog 3 := ⟨Try.call3⟩
theorem e3 : p3 Try.prog = fun K x0 x1 x2 => denF Try.prog Try.f3 [x0, x1, x2] K := by kernel_rfl
theorem c3 {K : Value → World → Prop} {x0 x1 x2 : Value} {w : World} (h : p3 Try.prog K x0 x1 x2 w) : CallsR Try.prog 3 #[x0, x1, x2] K w := by
  rw [e3] at h
  exact denF_sound mixed Try.func3 h

-- gemel/gemellaw08.FdbLast
def p4 (P : Program) (K : Value → World → Prop) (x0 : Value) (x1 : Value) : World → Prop :=
  opS P (S.box 26 x1) fun x2 =>
  opS P (S.cl 9 []) fun x3 =>
  opS P (S.cl 10 [(.int .i64 8), x0]) fun x4 =>
  opS P (S.ext x4 0) fun x5 =>
  opS P (S.ext x4 1) fun x6 =>
  opS P (S.ext x4 2) fun x7 =>
  jnJ 0 (
    jnJ 1 (fun x8 =>
      K x8
    ) fun j0 =>
    brn x3 (
      j0 x7
    ) (
      j0 (.bool false)
    )
  ) fun j0 =>
  opS P (S.un .not x3) fun x8 =>
  brn x8 (
    j0
  ) (
    opS P (S.un .not x7) fun x9 =>
    brn x9 (
      j0
    ) (
      opS P (S.binN .eql (S.isNilP x5)) fun x10 =>
      brn x10 (
        j0
      ) (
        opS P (S.fa 26 x2 1) fun x11 =>
        opS P (S.ld 3 x11) fun x12 =>
        opS P (S.fa 26 x2 2) fun x13 =>
        opS P (S.ld 24 x13) fun x14 =>
        opS P (S.fa 26 x2 3) fun x15 =>
        opS P (S.ld 3 x15) fun x16 =>
        opS P (S.fa 26 x2 4) fun x17 =>
        opS P (S.ld 3 x17) fun x18 =>
        opS P (S.cl 16 [x5, x12, x14, x16, x18]) fun x19 =>
        opS P (S.ext x19 0) fun x20 =>
        opS P (S.ext x19 1) fun x21 =>
        opS P (S.binI .neq x21 (.int .i64 0)) fun x22 =>
        brn x22 (
          jnJ 1 (fun x23 =>
            K x23
          ) fun j1 =>
          opS P (S.binI .eql x20 (.int .i64 0)) fun x23 =>
          brn x23 (
            opS P (S.binI .eql x21 (.int .i64 1)) fun x24 =>
            brn x24 (
              j1 (.bool true)
            ) (
              opS P (S.binI .eql x21 (.int .i64 3)) fun x25 =>
              brn x25 (
                opS P (S.cl 15 [x5]) fun x26 =>
                opS P (S.binI .eql x26 (.int .i64 8)) fun x27 =>
                j1 x27
              ) (
                j1 (.bool false)
              )
            )
          ) (
            j1 (.bool false)
          )
        ) (
          jnJ 0 (
            opS P (S.fa 26 x2 1) fun x23 =>
            opS P (S.ld 3 x23) fun x24 =>
            opS P (S.fa 26 x2 2) fun x25 =>
            opS P (S.ld 24 x25) fun x26 =>
            opS P (S.cl 11 [x5, x24, x26]) fun x27 =>
            opS P (S.ext x27 0) fun x28 =>
            opS P (S.ext x27 1) fun x29 =>
            opS P (S.alloc 33) fun x30 =>
            opS P (S.st 33 x30 x28) fun x31 =>
            brn x29 (
              opS P (S.fa 33 x30 4) fun x32 =>
              opS P (S.ld 4 x32) fun x33 =>
              brn x33 (
                opS P (S.binI .eql x20 (.int .i64 0)) fun x34 =>
                brn x34 (
                  K (.bool true)
                ) (
                  opS P (S.fa 33 x30 2) fun x35 =>
                  opS P (S.ld 3 x35) fun x36 =>
                  opS P (S.fa 26 x2 3) fun x37 =>
                  opS P (S.ld 3 x37) fun x38 =>
                  opS P (S.binI .eql x36 x38) fun x39 =>
                  brn x39 (
                    opS P (S.fa 33 x30 3) fun x40 =>
                    opS P (S.ld 3 x40) fun x41 =>
                    opS P (S.fa 26 x2 4) fun x42 =>
                    opS P (S.ld 3 x42) fun x43 =>
                    opS P (S.binI .eql x41 x43) fun x44 =>
                    K x44
                  ) (
                    K (.bool false)
                  )
                )
              ) (
                opS P (S.fa 33 x30 2) fun x34 =>
                opS P (S.ld 3 x34) fun x35 =>
                opS P (S.fa 26 x2 3) fun x36 =>
                opS P (S.ld 3 x36) fun x37 =>
                opS P (S.binI .eql x35 x37) fun x38 =>
                brn x38 (
                  opS P (S.fa 33 x30 3) fun x39 =>
                  opS P (S.ld 3 x39) fun x40 =>
                  opS P (S.fa 26 x2 4) fun x41 =>
                  opS P (S.ld 3 x41) fun x42 =>
                  opS P (S.binI .eql x40 x42) fun x43 =>
                  K x43
                ) (
                  K (.bool false)
                )
              )
            ) (
              K (.bool false)
            )
          ) fun j1 =>
          loopJ 1 (fun j2 x23 =>
            opS P (S.len x0) fun x24 =>
            opS P (S.binI .lss x23 x24) fun x25 =>
            brn x25 (
              opS P (S.binI .lss x23 (.int .i64 60)) fun x26 =>
              brn x26 (
                jnJ 0 (
                  drw <|
                  opS P (S.ia 22 x0 x23) fun x27 =>
                  opS P (S.fa 26 x27 1) fun x28 =>
                  opS P (S.ld 3 x28) fun x29 =>
                  opS P (S.ia 22 x0 x23) fun x30 =>
                  opS P (S.fa 26 x30 2) fun x31 =>
                  opS P (S.ld 24 x31) fun x32 =>
                  opS P (S.ia 22 x0 x23) fun x33 =>
                  opS P (S.fa 26 x33 3) fun x34 =>
                  opS P (S.ld 3 x34) fun x35 =>
                  opS P (S.ia 22 x0 x23) fun x36 =>
                  opS P (S.fa 26 x36 4) fun x37 =>
                  opS P (S.ld 3 x37) fun x38 =>
                  opS P (S.cl 16 [x5, x29, x32, x35, x38]) fun x39 =>
                  opS P (S.binI .add x23 (.int .i64 1)) fun x40 =>
                  j2 x40
                ) fun j3 =>
                drw <|
                opS P (S.ia 22 x0 x23) fun x27 =>
                opS P (S.fa 26 x27 0) fun x28 =>
                opS P (S.ld 3 x28) fun x29 =>
                opS P (S.binI .eql x29 (.int .i64 0)) fun x30 =>
                brn x30 (
                  opS P (S.ia 22 x0 x23) fun x31 =>
                  opS P (S.fa 26 x31 1) fun x32 =>
                  opS P (S.ld 3 x32) fun x33 =>
                  opS P (S.fa 26 x2 1) fun x34 =>
                  opS P (S.ld 3 x34) fun x35 =>
                  opS P (S.binI .neq x33 x35) fun x36 =>
                  brn x36 (
                    j3
                  ) (
                    opS P (S.ia 22 x0 x23) fun x37 =>
                    opS P (S.fa 26 x37 2) fun x38 =>
                    opS P (S.ld 24 x38) fun x39 =>
                    opS P (S.fa 26 x2 2) fun x40 =>
                    opS P (S.ld 24 x40) fun x41 =>
                    opS P (S.binG .neq 24 x39 x41) fun x42 =>
                    brn x42 (
                      j3
                    ) (
                      opS P (S.binI .add x23 (.int .i64 1)) fun x43 =>
                      j2 x43
                    )
                  )
                ) (
                  opS P (S.binI .add x23 (.int .i64 1)) fun x31 =>
                  j2 x31
                )
              ) (
                j1
              )
            ) (
              j1
            )
          ) (.int .i64 0)
        )
      )
    )
  )
instance fnb4 : FnB Try.prog 4 := ⟨Try.call4⟩
theorem e4 : p4 Try.prog = fun K x0 x1 => denF Try.prog Try.f4 [x0, x1] K := by kernel_rfl
theorem c4 {K : Value → World → Prop} {x0 x1 : Value} {w : World} (h : p4 Try.prog K x0 x1 w) : CallsR Try.prog 4 #[x0, x1] K w := by
  rw [e4] at h
  exact denF_sound mixed Try.func4 h

-- gemel/gemellaw08.FdbAlone
def p5 (P : Program) (K : Value → World → Prop) (x0 : Value) : World → Prop :=
  opS P (S.cl 9 []) fun x1 =>
  opS P (S.cl 10 [(.int .i64 8), x0]) fun x2 =>
  opS P (S.ext x2 0) fun x3 =>
  opS P (S.ext x2 1) fun x4 =>
  opS P (S.ext x2 2) fun x5 =>
  opS P (S.cl 17 [(.int .i64 8)]) fun x6 =>
  opS P (S.ext x6 0) fun x7 =>
  opS P (S.ext x6 1) fun x8 =>
  jnJ 0 (
    jnJ 1 (fun x9 =>
      K x9
    ) fun j0 =>
    brn x1 (
      brn x5 (
        opS P (S.binI .eql x8 (.int .i64 0)) fun x9 =>
        j0 x9
      ) (
        j0 (.bool false)
      )
    ) (
      j0 (.bool false)
    )
  ) fun j0 =>
  opS P (S.un .not x1) fun x9 =>
  brn x9 (
    j0
  ) (
    opS P (S.un .not x5) fun x10 =>
    brn x10 (
      j0
    ) (
      opS P (S.binN .eql (S.isNilP x3)) fun x11 =>
      brn x11 (
        j0
      ) (
        opS P (S.binI .neq x8 (.int .i64 0)) fun x12 =>
        brn x12 (
          j0
        ) (
          opS P (S.binN .eql (S.isNilP x7)) fun x13 =>
          brn x13 (
            j0
          ) (
            opS P (S.cl 14 [x3]) fun x14 =>
            opS P (S.len x14) fun x15 =>
            opS P (S.binI .sub x15 (.int .i64 1)) fun x16 =>
            jnJ 0 (
              opS P (S.cl 14 [x7]) fun x17 =>
              opS P (S.cl 13 [x17, x14]) fun x18 =>
              K x18
            ) fun j1 =>
            loopJ 1 (fun j2 x17 =>
              opS P (S.binI .geq x17 (.int .i64 0)) fun x18 =>
              brn x18 (
                opS P (S.ia 37 x14 x17) fun x19 =>
                opS P (S.ld 33 x19) fun x20 =>
                opS P (S.alloc 33) fun x21 =>
                opS P (S.st 33 x21 x20) fun x22 =>
                opS P (S.fa 33 x21 4) fun x23 =>
                opS P (S.ld 4 x23) fun x24 =>
                brn x24 (
                  opS P (S.fa 33 x21 0) fun x25 =>
                  opS P (S.ld 3 x25) fun x26 =>
                  opS P (S.fa 33 x21 1) fun x27 =>
                  opS P (S.ld 24 x27) fun x28 =>
                  opS P (S.fa 33 x21 2) fun x29 =>
                  opS P (S.ld 3 x29) fun x30 =>
                  opS P (S.cl 18 [x7, x26, x28, x30]) fun x31 =>
                  opS P (S.binI .sub x17 (.int .i64 1)) fun x32 =>
                  j2 x32
                ) (
                  opS P (S.fa 33 x21 0) fun x25 =>
                  opS P (S.ld 3 x25) fun x26 =>
                  opS P (S.fa 33 x21 1) fun x27 =>
                  opS P (S.ld 24 x27) fun x28 =>
                  opS P (S.fa 33 x21 2) fun x29 =>
                  opS P (S.ld 3 x29) fun x30 =>
                  opS P (S.fa 33 x21 3) fun x31 =>
                  opS P (S.ld 3 x31) fun x32 =>
                  opS P (S.cl 16 [x7, x26, x28, x30, x32]) fun x33 =>
                  opS P (S.binI .sub x17 (.int .i64 1)) fun x34 =>
                  j2 x34
                )
              ) (
                j1
              )
            ) x16
          )
        )
      )
    )
  )
instance fnb5 : FnB Try.prog 5 := ⟨Try.call5⟩
theorem e5 : p5 Try.prog = fun K x0 => denF Try.prog Try.f5 [x0] K := by kernel_rfl
theorem c5 {K : Value → World → Prop} {x0 : Value} {w : World} (h : p5 Try.prog K x0 w) : CallsR Try.prog 5 #[x0] K w := by
  rw [e5] at h
  exact denF_sound mixed Try.func5 h

-- gemel/gemellaw08.FdbForgets
def p6 (P : Program) (K : Value → World → Prop) (x0 : Value) (x1 : Value) : World → Prop :=
  opS P (S.box 26 x1) fun x2 =>
  opS P (S.cl 9 []) fun x3 =>
  opS P (S.cl 10 [(.int .i64 8), x0]) fun x4 =>
  opS P (S.ext x4 0) fun x5 =>
  opS P (S.ext x4 1) fun x6 =>
  opS P (S.ext x4 2) fun x7 =>
  jnJ 0 (
    jnJ 1 (fun x8 =>
      K x8
    ) fun j0 =>
    brn x3 (
      j0 x7
    ) (
      j0 (.bool false)
    )
  ) fun j0 =>
  opS P (S.un .not x3) fun x8 =>
  brn x8 (
    j0
  ) (
    opS P (S.un .not x7) fun x9 =>
    brn x9 (
      j0
    ) (
      opS P (S.binN .eql (S.isNilP x5)) fun x10 =>
      brn x10 (
        j0
      ) (
        opS P (S.fa 26 x2 0) fun x11 =>
        opS P (S.ld 3 x11) fun x12 =>
        opS P (S.binI .lss x12 (.int .i64 3)) fun x13 =>
        brn x13 (
          j0
        ) (
          opS P (S.fa 26 x2 0) fun x14 =>
          opS P (S.ld 3 x14) fun x15 =>
          opS P (S.binI .gtr x15 (.int .i64 5)) fun x16 =>
          brn x16 (
            j0
          ) (
            opS P (S.cl 14 [x5]) fun x17 =>
            opS P (S.fa 26 x2 0) fun x18 =>
            opS P (S.ld 3 x18) fun x19 =>
            jnJ 1 (fun x20 =>
              opS P (S.cl 14 [x5]) fun x21 =>
              jnJ 2 (fun x22 x23 =>
                opS P (S.len x20) fun x24 =>
                opS P (S.binI .eql x22 x24) fun x25 =>
                brn x25 (
                  opS P (S.len x21) fun x26 =>
                  opS P (S.binI .eql x23 x26) fun x27 =>
                  K x27
                ) (
                  K (.bool false)
                )
              ) fun j1 =>
              loopJ 3 (fun j2 x22 x23 x24 =>
                opS P (S.len x17) fun x25 =>
                opS P (S.binI .lss x24 x25) fun x26 =>
                brn x26 (
                  jnJ 0 (
                    drw <|
                    opS P (S.len x21) fun x27 =>
                    opS P (S.binI .lss x23 x27) fun x28 =>
                    brn x28 (
                      opS P (S.ia 37 x21 x23) fun x29 =>
                      opS P (S.ld 33 x29) fun x30 =>
                      opS P (S.ia 37 x17 x24) fun x31 =>
                      opS P (S.ld 33 x31) fun x32 =>
                      opS P (S.binG .eql 33 x30 x32) fun x33 =>
                      brn x33 (
                        opS P (S.binI .add x23 (.int .i64 1)) fun x34 =>
                        opS P (S.binI .add x24 (.int .i64 1)) fun x35 =>
                        j2 x22 x34 x35
                      ) (
                        K (.bool false)
                      )
                    ) (
                      K (.bool false)
                    )
                  ) fun j3 =>
                  drw <|
                  opS P (S.len x20) fun x27 =>
                  opS P (S.binI .lss x22 x27) fun x28 =>
                  brn x28 (
                    opS P (S.ia 37 x20 x22) fun x29 =>
                    opS P (S.ld 33 x29) fun x30 =>
                    opS P (S.ia 37 x17 x24) fun x31 =>
                    opS P (S.ld 33 x31) fun x32 =>
                    opS P (S.binG .eql 33 x30 x32) fun x33 =>
                    brn x33 (
                      drw <|
                      opS P (S.ia 37 x17 x24) fun x34 =>
                      opS P (S.fa 33 x34 4) fun x35 =>
                      opS P (S.ld 4 x35) fun x36 =>
                      brn x36 (
                        K (.bool false)
                      ) (
                        opS P (S.fa 26 x2 0) fun x37 =>
                        opS P (S.ld 3 x37) fun x38 =>
                        opS P (S.binI .eql x38 (.int .i64 4)) fun x39 =>
                        brn x39 (
                          opS P (S.ia 37 x17 x24) fun x40 =>
                          opS P (S.fa 33 x40 2) fun x41 =>
                          opS P (S.ld 3 x41) fun x42 =>
                          opS P (S.fa 26 x2 3) fun x43 =>
                          opS P (S.ld 3 x43) fun x44 =>
                          opS P (S.binI .neq x42 x44) fun x45 =>
                          brn x45 (
                            K (.bool false)
                          ) (
                            opS P (S.fa 26 x2 0) fun x46 =>
                            opS P (S.ld 3 x46) fun x47 =>
                            opS P (S.binI .eql x47 (.int .i64 5)) fun x48 =>
                            brn x48 (
                              opS P (S.ia 37 x17 x24) fun x49 =>
                              opS P (S.fa 33 x49 0) fun x50 =>
                              opS P (S.ld 3 x50) fun x51 =>
                              opS P (S.fa 26 x2 1) fun x52 =>
                              opS P (S.ld 3 x52) fun x53 =>
                              opS P (S.binI .neq x51 x53) fun x54 =>
                              brn x54 (
                                K (.bool false)
                              ) (
                                opS P (S.binI .add x22 (.int .i64 1)) fun x55 =>
                                opS P (S.binI .add x24 (.int .i64 1)) fun x56 =>
                                j2 x55 x23 x56
                              )
                            ) (
                              opS P (S.binI .add x22 (.int .i64 1)) fun x49 =>
                              opS P (S.binI .add x24 (.int .i64 1)) fun x50 =>
                              j2 x49 x23 x50
                            )
                          )
                        ) (
                          opS P (S.fa 26 x2 0) fun x40 =>
                          opS P (S.ld 3 x40) fun x41 =>
                          opS P (S.binI .eql x41 (.int .i64 5)) fun x42 =>
                          brn x42 (
                            opS P (S.ia 37 x17 x24) fun x43 =>
                            opS P (S.fa 33 x43 0) fun x44 =>
                            opS P (S.ld 3 x44) fun x45 =>
                            opS P (S.fa 26 x2 1) fun x46 =>
                            opS P (S.ld 3 x46) fun x47 =>
                            opS P (S.binI .neq x45 x47) fun x48 =>
                            brn x48 (
                              K (.bool false)
                            ) (
                              opS P (S.binI .add x22 (.int .i64 1)) fun x49 =>
                              opS P (S.binI .add x24 (.int .i64 1)) fun x50 =>
                              j2 x49 x23 x50
                            )
                          ) (
                            opS P (S.binI .add x22 (.int .i64 1)) fun x43 =>
                            opS P (S.binI .add x24 (.int .i64 1)) fun x44 =>
                            j2 x43 x23 x44
                          )
                        )
                      )
                    ) (
                      j3
                    )
                  ) (
                    j3
                  )
                ) (
                  j1 x22 x23
                )
              ) (.int .i64 0) (.int .i64 0) (.int .i64 0)
            ) fun j1 =>
            opS P (S.binI .eql x19 (.int .i64 3)) fun x20 =>
            brn x20 (
              opS P (S.fa 26 x2 4) fun x21 =>
              opS P (S.ld 3 x21) fun x22 =>
              opS P (S.fa 26 x2 5) fun x23 =>
              opS P (S.ld 3 x23) fun x24 =>
              opS P (S.cl 19 [x5, x22, x24]) fun x25 =>
              j1 x25
            ) (
              jnJ 1 (fun x21 =>
                j1 x21
              ) fun j2 =>
              opS P (S.binI .eql x19 (.int .i64 4)) fun x21 =>
              brn x21 (
                opS P (S.fa 26 x2 3) fun x22 =>
                opS P (S.ld 3 x22) fun x23 =>
                opS P (S.cl 20 [x5, x23]) fun x24 =>
                j2 x24
              ) (
                jnJ 1 (fun x22 =>
                  j2 x22
                ) fun j3 =>
                opS P (S.binI .eql x19 (.int .i64 5)) fun x22 =>
                brn x22 (
                  opS P (S.fa 26 x2 1) fun x23 =>
                  opS P (S.ld 3 x23) fun x24 =>
                  opS P (S.cl 21 [x5, x24]) fun x25 =>
                  j3 x25
                ) (
                  j3 (.slice none 0 0)
                )
              )
            )
          )
        )
      )
    )
  )
instance fnb6 : FnB Try.prog 6 := ⟨Try.call6⟩
theorem e6 : p6 Try.prog = fun K x0 x1 => denF Try.prog Try.f6 [x0, x1] K := by kernel_rfl
theorem c6 {K : Value → World → Prop} {x0 x1 : Value} {w : World} (h : p6 Try.prog K x0 x1 w) : CallsR Try.prog 6 #[x0, x1] K w := by
  rw [e6] at h
  exact denF_sound mixed Try.func6 h

-- gemel/gemellaw08.FdbBounds
def p7 (P : Program) (K : Value → World → Prop) (x0 : Value) (x1 : Value) (x2 : Value) : World → Prop :=
  opS P (S.box 26 x2) fun x3 =>
  opS P (S.cl 9 []) fun x4 =>
  opS P (S.cl 10 [x0, x1]) fun x5 =>
  opS P (S.ext x5 0) fun x6 =>
  opS P (S.ext x5 1) fun x7 =>
  opS P (S.ext x5 2) fun x8 =>
  jnJ 0 (
    jnJ 1 (fun x9 =>
      K x9
    ) fun j0 =>
    brn x4 (
      j0 x8
    ) (
      j0 (.bool false)
    )
  ) fun j0 =>
  opS P (S.un .not x4) fun x9 =>
  brn x9 (
    j0
  ) (
    opS P (S.un .not x8) fun x10 =>
    brn x10 (
      j0
    ) (
      opS P (S.binN .eql (S.isNilP x6)) fun x11 =>
      brn x11 (
        j0
      ) (
        opS P (S.cl 14 [x6]) fun x12 =>
        jnJ 0 (
          opS P (S.fa 26 x3 1) fun x13 =>
          opS P (S.ld 3 x13) fun x14 =>
          opS P (S.fa 26 x3 2) fun x15 =>
          opS P (S.ld 24 x15) fun x16 =>
          opS P (S.cl 11 [x6, x14, x16]) fun x17 =>
          opS P (S.ext x17 0) fun x18 =>
          opS P (S.ext x17 1) fun x19 =>
          opS P (S.alloc 33) fun x20 =>
          opS P (S.st 33 x20 x18) fun x21 =>
          opS P (S.fa 26 x3 1) fun x22 =>
          opS P (S.ld 3 x22) fun x23 =>
          opS P (S.fa 26 x3 2) fun x24 =>
          opS P (S.ld 24 x24) fun x25 =>
          opS P (S.fa 26 x3 3) fun x26 =>
          opS P (S.ld 3 x26) fun x27 =>
          opS P (S.fa 26 x3 4) fun x28 =>
          opS P (S.ld 3 x28) fun x29 =>
          opS P (S.cl 16 [x6, x23, x25, x27, x29]) fun x30 =>
          opS P (S.ext x30 0) fun x31 =>
          opS P (S.ext x30 1) fun x32 =>
          opS P (S.binI .eql x32 (.int .i64 3)) fun x33 =>
          brn x33 (
            jnJ 1 (fun x34 =>
              K x34
            ) fun j1 =>
            opS P (S.un .not x19) fun x34 =>
            brn x34 (
              opS P (S.len x12) fun x35 =>
              opS P (S.binI .eql x35 x0) fun x36 =>
              brn x36 (
                opS P (S.cl 14 [x6]) fun x37 =>
                opS P (S.cl 13 [x37, x12]) fun x38 =>
                j1 x38
              ) (
                j1 (.bool false)
              )
            ) (
              j1 (.bool false)
            )
          ) (
            opS P (S.len x12) fun x34 =>
            opS P (S.binI .leq x34 x0) fun x35 =>
            brn x35 (
              opS P (S.cl 15 [x6]) fun x36 =>
              opS P (S.binI .leq x36 x0) fun x37 =>
              K x37
            ) (
              K (.bool false)
            )
          )
        ) fun j1 =>
        loopJ 1 (fun j2 x13 =>
          opS P (S.len x12) fun x14 =>
          opS P (S.binI .lss x13 x14) fun x15 =>
          brn x15 (
            opS P (S.ia 37 x12 x13) fun x16 =>
            opS P (S.ld 33 x16) fun x17 =>
            opS P (S.alloc 33) fun x18 =>
            opS P (S.st 33 x18 x17) fun x19 =>
            drw <|
            opS P (S.fa 33 x18 1) fun x20 =>
            opS P (S.ld 24 x20) fun x21 =>
            opS P (S.cl 22 [x21]) fun x22 =>
            brn x22 (
              K (.bool false)
            ) (
              opS P (S.fa 33 x18 4) fun x23 =>
              opS P (S.ld 4 x23) fun x24 =>
              brn x24 (
                opS P (S.fa 33 x18 3) fun x25 =>
                opS P (S.ld 3 x25) fun x26 =>
                opS P (S.binI .neq x26 (.int .i64 0)) fun x27 =>
                brn x27 (
                  K (.bool false)
                ) (
                  opS P (S.binI .gtr x13 (.int .i64 0)) fun x28 =>
                  brn x28 (
                    opS P (S.binI .sub x13 (.int .i64 1)) fun x29 =>
                    opS P (S.ia 37 x12 x29) fun x30 =>
                    opS P (S.fa 33 x30 0) fun x31 =>
                    opS P (S.ld 3 x31) fun x32 =>
                    opS P (S.fa 33 x18 0) fun x33 =>
                    opS P (S.ld 3 x33) fun x34 =>
                    opS P (S.binI .gtr x32 x34) fun x35 =>
                    brn x35 (
                      K (.bool false)
                    ) (
                      opS P (S.binI .sub x13 (.int .i64 1)) fun x36 =>
                      opS P (S.ia 37 x12 x36) fun x37 =>
                      opS P (S.fa 33 x37 0) fun x38 =>
                      opS P (S.ld 3 x38) fun x39 =>
                      opS P (S.fa 33 x18 0) fun x40 =>
                      opS P (S.ld 3 x40) fun x41 =>
                      opS P (S.binI .eql x39 x41) fun x42 =>
                      brn x42 (
                        opS P (S.binI .sub x13 (.int .i64 1)) fun x43 =>
                        opS P (S.ia 37 x12 x43) fun x44 =>
                        opS P (S.fa 33 x44 1) fun x45 =>
                        opS P (S.ld 24 x45) fun x46 =>
                        opS P (S.fa 33 x18 1) fun x47 =>
                        opS P (S.ld 24 x47) fun x48 =>
                        opS P (S.cl 23 [x46, x48]) fun x49 =>
                        opS P (S.binI .geq x49 (.int .i64 0)) fun x50 =>
                        brn x50 (
                          K (.bool false)
                        ) (
                          opS P (S.binI .add x13 (.int .i64 1)) fun x51 =>
                          j2 x51
                        )
                      ) (
                        opS P (S.binI .add x13 (.int .i64 1)) fun x43 =>
                        j2 x43
                      )
                    )
                  ) (
                    opS P (S.binI .add x13 (.int .i64 1)) fun x29 =>
                    j2 x29
                  )
                )
              ) (
                opS P (S.binI .gtr x13 (.int .i64 0)) fun x25 =>
                brn x25 (
                  opS P (S.binI .sub x13 (.int .i64 1)) fun x26 =>
                  opS P (S.ia 37 x12 x26) fun x27 =>
                  opS P (S.fa 33 x27 0) fun x28 =>
                  opS P (S.ld 3 x28) fun x29 =>
                  opS P (S.fa 33 x18 0) fun x30 =>
                  opS P (S.ld 3 x30) fun x31 =>
                  opS P (S.binI .gtr x29 x31) fun x32 =>
                  brn x32 (
                    K (.bool false)
                  ) (
                    opS P (S.binI .sub x13 (.int .i64 1)) fun x33 =>
                    opS P (S.ia 37 x12 x33) fun x34 =>
                    opS P (S.fa 33 x34 0) fun x35 =>
                    opS P (S.ld 3 x35) fun x36 =>
                    opS P (S.fa 33 x18 0) fun x37 =>
                    opS P (S.ld 3 x37) fun x38 =>
                    opS P (S.binI .eql x36 x38) fun x39 =>
                    brn x39 (
                      opS P (S.binI .sub x13 (.int .i64 1)) fun x40 =>
                      opS P (S.ia 37 x12 x40) fun x41 =>
                      opS P (S.fa 33 x41 1) fun x42 =>
                      opS P (S.ld 24 x42) fun x43 =>
                      opS P (S.fa 33 x18 1) fun x44 =>
                      opS P (S.ld 24 x44) fun x45 =>
                      opS P (S.cl 23 [x43, x45]) fun x46 =>
                      opS P (S.binI .geq x46 (.int .i64 0)) fun x47 =>
                      brn x47 (
                        K (.bool false)
                      ) (
                        opS P (S.binI .add x13 (.int .i64 1)) fun x48 =>
                        j2 x48
                      )
                    ) (
                      opS P (S.binI .add x13 (.int .i64 1)) fun x40 =>
                      j2 x40
                    )
                  )
                ) (
                  opS P (S.binI .add x13 (.int .i64 1)) fun x26 =>
                  j2 x26
                )
              )
            )
          ) (
            j1
          )
        ) (.int .i64 0)
      )
    )
  )
instance fnb7 : FnB Try.prog 7 := ⟨Try.call7⟩
theorem e7 : p7 Try.prog = fun K x0 x1 x2 => denF Try.prog Try.f7 [x0, x1, x2] K := by kernel_rfl
theorem c7 {K : Value → World → Prop} {x0 x1 x2 : Value} {w : World} (h : p7 Try.prog K x0 x1 x2 w) : CallsR Try.prog 7 #[x0, x1, x2] K w := by
  rw [e7] at h
  exact denF_sound mixed Try.func7 h

-- gemel/gemellaw08.FdbMoves
def p8 (P : Program) (K : Value → World → Prop) (x0 : Value) (x1 : Value) (x2 : Value) : World → Prop :=
  opS P (S.box 26 x1) fun x3 =>
  opS P (S.cl 9 []) fun x4 =>
  opS P (S.cl 10 [(.int .i64 8), x0]) fun x5 =>
  opS P (S.ext x5 0) fun x6 =>
  opS P (S.ext x5 1) fun x7 =>
  opS P (S.ext x5 2) fun x8 =>
  jnJ 0 (
    jnJ 1 (fun x9 =>
      K x9
    ) fun j0 =>
    brn x4 (
      j0 x8
    ) (
      j0 (.bool false)
    )
  ) fun j0 =>
  opS P (S.un .not x4) fun x9 =>
  brn x9 (
    j0
  ) (
    opS P (S.un .not x8) fun x10 =>
    brn x10 (
      j0
    ) (
      opS P (S.binN .eql (S.isNilP x6)) fun x11 =>
      brn x11 (
        j0
      ) (
        opS P (S.fa 26 x3 1) fun x12 =>
        opS P (S.ld 3 x12) fun x13 =>
        opS P (S.fa 26 x3 2) fun x14 =>
        opS P (S.ld 24 x14) fun x15 =>
        opS P (S.fa 26 x3 3) fun x16 =>
        opS P (S.ld 3 x16) fun x17 =>
        opS P (S.fa 26 x3 4) fun x18 =>
        opS P (S.ld 3 x18) fun x19 =>
        opS P (S.cl 16 [x6, x13, x15, x17, x19]) fun x20 =>
        opS P (S.ext x20 0) fun x21 =>
        opS P (S.ext x20 1) fun x22 =>
        opS P (S.cl 15 [x6]) fun x23 =>
        opS P (S.fa 26 x3 1) fun x24 =>
        opS P (S.ld 3 x24) fun x25 =>
        opS P (S.fa 26 x3 2) fun x26 =>
        opS P (S.ld 24 x26) fun x27 =>
        opS P (S.fa 26 x3 4) fun x28 =>
        opS P (S.ld 3 x28) fun x29 =>
        opS P (S.cl 16 [x6, x25, x27, x2, x29]) fun x30 =>
        opS P (S.ext x30 0) fun x31 =>
        opS P (S.ext x30 1) fun x32 =>
        opS P (S.fa 26 x3 1) fun x33 =>
        opS P (S.ld 3 x33) fun x34 =>
        opS P (S.fa 26 x3 2) fun x35 =>
        opS P (S.ld 24 x35) fun x36 =>
        opS P (S.fa 26 x3 4) fun x37 =>
        opS P (S.ld 3 x37) fun x38 =>
        opS P (S.cl 16 [x6, x34, x36, x2, x38]) fun x39 =>
        opS P (S.ext x39 0) fun x40 =>
        opS P (S.ext x39 1) fun x41 =>
        opS P (S.binI .neq x22 (.int .i64 0)) fun x42 =>
        brn x42 (
          opS P (S.binI .eql x21 (.int .i64 0)) fun x43 =>
          K x43
        ) (
          opS P (S.fa 26 x3 1) fun x43 =>
          opS P (S.ld 3 x43) fun x44 =>
          opS P (S.fa 26 x3 2) fun x45 =>
          opS P (S.ld 24 x45) fun x46 =>
          opS P (S.cl 11 [x6, x44, x46]) fun x47 =>
          opS P (S.ext x47 0) fun x48 =>
          opS P (S.ext x47 1) fun x49 =>
          opS P (S.alloc 33) fun x50 =>
          opS P (S.st 33 x50 x48) fun x51 =>
          opS P (S.binI .neq x32 (.int .i64 0)) fun x52 =>
          brn x52 (
            jnJ 1 (fun x53 =>
              K x53
            ) fun j1 =>
            opS P (S.binI .eql x32 (.int .i64 1)) fun x53 =>
            brn x53 (
              opS P (S.binI .eql x41 (.int .i64 1)) fun x54 =>
              brn x54 (
                j1 x49
              ) (
                j1 (.bool false)
              )
            ) (
              j1 (.bool false)
            )
          ) (
            jnJ 1 (fun x53 =>
              opS P (S.binI .leq x21 (.int .i64 2)) fun x54 =>
              brn x54 (
                opS P (S.binI .eql x31 x53) fun x55 =>
                brn x55 (
                  opS P (S.binI .eql x40 (.int .i64 0)) fun x56 =>
                  brn x56 (
                    opS P (S.binI .eql x41 (.int .i64 0)) fun x57 =>
                    brn x57 (
                      opS P (S.cl 15 [x6]) fun x58 =>
                      opS P (S.binI .eql x58 x23) fun x59 =>
                      brn x59 (
                        opS P (S.fa 33 x50 4) fun x60 =>
                        opS P (S.ld 4 x60) fun x61 =>
                        brn x61 (
                          K (.bool true)
                        ) (
                          opS P (S.fa 33 x50 2) fun x62 =>
                          opS P (S.ld 3 x62) fun x63 =>
                          opS P (S.binI .eql x63 x2) fun x64 =>
                          K x64
                        )
                      ) (
                        K (.bool false)
                      )
                    ) (
                      K (.bool false)
                    )
                  ) (
                    K (.bool false)
                  )
                ) (
                  K (.bool false)
                )
              ) (
                K (.bool false)
              )
            ) fun j1 =>
            jnJ 0 (
              j1 (.int .i64 0)
            ) fun j2 =>
            opS P (S.fa 26 x3 3) fun x53 =>
            opS P (S.ld 3 x53) fun x54 =>
            opS P (S.binI .neq x2 x54) fun x55 =>
            brn x55 (
              opS P (S.fa 33 x50 4) fun x56 =>
              opS P (S.ld 4 x56) fun x57 =>
              opS P (S.un .not x57) fun x58 =>
              brn x58 (
                j1 (.int .i64 2)
              ) (
                j2
              )
            ) (
              j2
            )
          )
        )
      )
    )
  )
instance fnb8 : FnB Try.prog 8 := ⟨Try.call8⟩
theorem e8 : p8 Try.prog = fun K x0 x1 x2 => denF Try.prog Try.f8 [x0, x1, x2] K := by kernel_rfl
theorem c8 {K : Value → World → Prop} {x0 x1 x2 : Value} {w : World} (h : p8 Try.prog K x0 x1 x2 w) : CallsR Try.prog 8 #[x0, x1, x2] K w := by
  rw [e8] at h
  exact denF_sound mixed Try.func8 h

end Go.Gx.S
-- 3 4 5 6 7 8
