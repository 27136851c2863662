/- What the functions of this program ask. -/
import Derived.Test.YtogbkljoganbhaaTy
set_option linter.unusedVariables false
set_option maxRecDepth 100000
namespace Go.Gx.S
open Go Go.Gx Go.Proofs
-- gemel/gemellaw09.JournalReplays
def p5 (P : Program) (K : Value → World → Prop) (x0 : Value) (x1 : Value) : World → Prop :=
  opS P (S.cl 9 []) fun x2 =>
  opS P (S.un .not x2) fun x3 =>
  brn x3 (
    K x2
  ) (
    opS P (S.len x0) fun x4 =>
    opS P (S.binI .gtr x4 (.int .i64 60)) fun x5 =>
    brn x5 (
      K x2
    ) (
      opS P (S.len x1) fun x6 =>
      opS P (S.binI .gtr x6 (.int .i64 60)) fun x7 =>
      brn x7 (
        K x2
      ) (
        opS P (S.cl 18 [x1, (.int .i64 0)]) fun x8 =>
        opS P (S.cl 20 [x0, x8]) fun x9 =>
        opS P (S.cl 21 [x0, x8]) fun x10 =>
        opS P (S.cl 19 [x9, x10]) fun x11 =>
        K x11
      )
    )
  )
instance fnb5 : FnB Try.prog 5 := ⟨Try.call5⟩
theorem e5 : p5 Try.prog = fun K x0 x1 => denF Try.prog Try.f5 [x0, x1] K := by kernel_rfl
theorem c5 {K : Value → World → Prop} {x0 x1 : Value} {w : World} (h : p5 Try.prog K x0 x1 w) : CallsR Try.prog 5 #[x0, x1] K w := by
  rw [e5] at h
  exact denF_sound mixed Try.func5 h

-- gemel/gemellaw09.JournalWhole
def p6 (P : Program) (K : Value → World → Prop) (x0 : Value) (x1 : Value) (x2 : Value) : World → Prop :=
  opS P (S.box 54 x0) fun x3 =>
  opS P (S.cl 9 []) fun x4 =>
  opS P (S.ia 54 x3 (.int .i64 0)) fun x5 =>
  opS P (S.ld 3 x5) fun x6 =>
  opS P (S.cl 10 [x6]) fun x7 =>
  opS P (S.ext x7 0) fun x8 =>
  opS P (S.ext x7 1) fun x9 =>
  jnJ 0 (
    jnJ 1 (fun x10 =>
      K x10
    ) fun j0 =>
    brn x4 (
      opS P (S.binI .eql x9 (.int .i64 0)) fun x10 =>
      brn x10 (
        j0 (.bool true)
      ) (
        opS P (S.binI .eql x9 (.int .i64 1)) fun x11 =>
        j0 x11
      )
    ) (
      j0 (.bool false)
    )
  ) fun j0 =>
  opS P (S.un .not x4) fun x10 =>
  brn x10 (
    j0
  ) (
    opS P (S.binI .neq x9 (.int .i64 0)) fun x11 =>
    brn x11 (
      j0
    ) (
      opS P (S.binN .eql (S.isNilP x8)) fun x12 =>
      brn x12 (
        j0
      ) (
        opS P (S.len x1) fun x13 =>
        opS P (S.binI .gtr x13 (.int .i64 40)) fun x14 =>
        brn x14 (
          j0
        ) (
          opS P (S.len x2) fun x15 =>
          opS P (S.binI .gtr x15 (.int .i64 60)) fun x16 =>
          brn x16 (
            j0
          ) (
            opS P (S.cl 20 [x1, (.slice none 0 0)]) fun x17 =>
            jnJ 2 (fun x18 x19 =>
              jnJ 0 (
                opS P (S.ia 54 x3 (.int .i64 1)) fun x20 =>
                opS P (S.ld 3 x20) fun x21 =>
                opS P (S.cl 15 [x8, x21]) fun x22 =>
                opS P (S.ext x22 0) fun x23 =>
                opS P (S.ext x22 1) fun x24 =>
                opS P (S.un .not x24) fun x25 =>
                K x25
              ) fun j1 =>
              opS P (S.ia 54 x3 (.int .i64 1)) fun x20 =>
              opS P (S.ld 3 x20) fun x21 =>
              opS P (S.binI .lss x21 (.int .i64 0)) fun x22 =>
              brn x22 (
                j1
              ) (
                opS P (S.ia 54 x3 (.int .i64 1)) fun x23 =>
                opS P (S.ld 3 x23) fun x24 =>
                opS P (S.len x2) fun x25 =>
                opS P (S.binI .gtr x24 x25) fun x26 =>
                brn x26 (
                  j1
                ) (
                  opS P (S.ia 54 x3 (.int .i64 1)) fun x27 =>
                  opS P (S.ld 3 x27) fun x28 =>
                  opS P (S.cl 15 [x8, x28]) fun x29 =>
                  opS P (S.ext x29 0) fun x30 =>
                  opS P (S.ext x29 1) fun x31 =>
                  opS P (S.len x2) fun x32 =>
                  opS P (S.ia 54 x3 (.int .i64 1)) fun x33 =>
                  opS P (S.ld 3 x33) fun x34 =>
                  opS P (S.binI .sub x32 x34) fun x35 =>
                  opS P (S.ia 54 x3 (.int .i64 0)) fun x36 =>
                  opS P (S.ld 3 x36) fun x37 =>
                  opS P (S.binI .leq x35 x37) fun x38 =>
                  opS P (S.binB .neq x31 x38) fun x39 =>
                  brn x39 (
                    K (.bool false)
                  ) (
                    opS P (S.un .not x31) fun x40 =>
                    brn x40 (
                      K (.bool true)
                    ) (
                      opS P (S.cl 20 [x18, x30]) fun x41 =>
                      opS P (S.cl 19 [x41, x19]) fun x42 =>
                      K x42
                    )
                  )
                )
              )
            ) fun j1 =>
            loopJ 3 (fun j2 x18 x19 x20 =>
              opS P (S.len x2) fun x21 =>
              opS P (S.binI .lss x20 x21) fun x22 =>
              brn x22 (
                drw <|
                opS P (S.ia 22 x2 x20) fun x23 =>
                opS P (S.fa 38 x23 0) fun x24 =>
                opS P (S.ld 36 x24) fun x25 =>
                opS P (S.ia 22 x2 x20) fun x26 =>
                opS P (S.fa 38 x26 1) fun x27 =>
                opS P (S.ld 4 x27) fun x28 =>
                opS P (S.cl 12 [x8, x25, x28]) fun x29 =>
                opS P (S.ext x29 0) fun x30 =>
                opS P (S.ext x29 1) fun x31 =>
                opS P (S.binI .neq x31 (.int .i64 0)) fun x32 =>
                brn x32 (
                  K (.bool false)
                ) (
                  opS P (S.binI .add x20 (.int .i64 1)) fun x33 =>
                  opS P (S.binI .neq x30 x33) fun x34 =>
                  brn x34 (
                    K (.bool false)
                  ) (
                    drw <|
                    opS P (S.ia 22 x2 x20) fun x35 =>
                    opS P (S.fa 38 x35 0) fun x36 =>
                    opS P (S.ld 36 x36) fun x37 =>
                    opS P (S.ia 22 x2 x20) fun x38 =>
                    opS P (S.fa 38 x38 1) fun x39 =>
                    opS P (S.ld 4 x39) fun x40 =>
                    opS P (S.build 48 [(0, x30), (1, x37), (2, x40)]) fun x41 =>
                    opS P (S.buildS 40 1 [(0, x41)]) fun x42 =>
                    opS P (S.cl 20 [x19, x42]) fun x43 =>
                    opS P (S.ia 54 x3 (.int .i64 1)) fun x44 =>
                    opS P (S.ld 3 x44) fun x45 =>
                    opS P (S.binI .eql x30 x45) fun x46 =>
                    brn x46 (
                      opS P (S.binI .add x20 (.int .i64 1)) fun x47 =>
                      j2 x43 x43 x47
                    ) (
                      opS P (S.binI .add x20 (.int .i64 1)) fun x47 =>
                      j2 x18 x43 x47
                    )
                  )
                )
              ) (
                j1 x18 x19
              )
            ) x17 x17 (.int .i64 0)
          )
        )
      )
    )
  )
instance fnb6 : FnB Try.prog 6 := ⟨Try.call6⟩
theorem e6 : p6 Try.prog = fun K x0 x1 x2 => denF Try.prog Try.f6 [x0, x1, x2] K := by kernel_rfl
theorem c6 {K : Value → World → Prop} {x0 x1 x2 : Value} {w : World} (h : p6 Try.prog K x0 x1 x2 w) : CallsR Try.prog 6 #[x0, x1, x2] K w := by
  rw [e6] at h
  exact denF_sound mixed Try.func6 h

-- gemel/gemellaw09.JournalTwice
def p7 (P : Program) (K : Value → World → Prop) (x0 : Value) (x1 : Value) (x2 : Value) : World → Prop :=
  opS P (S.cl 9 []) fun x3 =>
  opS P (S.un .not x3) fun x4 =>
  brn x4 (
    K x3
  ) (
    opS P (S.len x0) fun x5 =>
    opS P (S.binI .gtr x5 (.int .i64 40)) fun x6 =>
    brn x6 (
      K x3
    ) (
      opS P (S.len x1) fun x7 =>
      opS P (S.binI .gtr x7 (.int .i64 40)) fun x8 =>
      brn x8 (
        K x3
      ) (
        opS P (S.len x2) fun x9 =>
        opS P (S.binI .gtr x9 (.int .i64 60)) fun x10 =>
        brn x10 (
          K x3
        ) (
          opS P (S.cl 18 [x2, (.int .i64 5)]) fun x11 =>
          opS P (S.cl 20 [x0, x11]) fun x12 =>
          opS P (S.cl 20 [x1, x11]) fun x13 =>
          opS P (S.cl 20 [x12, x11]) fun x14 =>
          opS P (S.cl 19 [x14, x12]) fun x15 =>
          jnJ 0 (
            K x15
          ) fun j0 =>
          loopJ 1 (fun j1 x16 =>
            opS P (S.len x2) fun x17 =>
            opS P (S.binI .lss x16 x17) fun x18 =>
            brn x18 (
              opS P (S.ia 22 x2 x16) fun x19 =>
              opS P (S.fa 38 x19 0) fun x20 =>
              opS P (S.ld 36 x20) fun x21 =>
              opS P (S.cl 22 [x12, x21]) fun x22 =>
              opS P (S.ext x22 0) fun x23 =>
              opS P (S.ext x22 1) fun x24 =>
              opS P (S.alloc 36) fun x25 =>
              opS P (S.st 36 x25 x23) fun x26 =>
              opS P (S.ia 22 x2 x16) fun x27 =>
              opS P (S.fa 38 x27 0) fun x28 =>
              opS P (S.ld 36 x28) fun x29 =>
              opS P (S.cl 22 [x13, x29]) fun x30 =>
              opS P (S.ext x30 0) fun x31 =>
              opS P (S.ext x30 1) fun x32 =>
              opS P (S.alloc 36) fun x33 =>
              opS P (S.st 36 x33 x31) fun x34 =>
              opS P (S.binB .neq x24 x32) fun x35 =>
              brn x35 (
                K (.bool false)
              ) (
                opS P (S.ld 36 x25) fun x36 =>
                opS P (S.ld 36 x33) fun x37 =>
                opS P (S.binG .neq 36 x36 x37) fun x38 =>
                brn x38 (
                  K (.bool false)
                ) (
                  opS P (S.binI .add x16 (.int .i64 1)) fun x39 =>
                  j1 x39
                )
              )
            ) (
              j0
            )
          ) (.int .i64 0)
        )
      )
    )
  )
instance fnb7 : FnB Try.prog 7 := ⟨Try.call7⟩
theorem e7 : p7 Try.prog = fun K x0 x1 x2 => denF Try.prog Try.f7 [x0, x1, x2] K := by kernel_rfl
theorem c7 {K : Value → World → Prop} {x0 x1 x2 : Value} {w : World} (h : p7 Try.prog K x0 x1 x2 w) : CallsR Try.prog 7 #[x0, x1, x2] K w := by
  rw [e7] at h
  exact denF_sound mixed Try.func7 h

-- gemel/gemellaw09.JournalParts
def p8 (P : Program) (K : Value → World → Prop) (x0 : Value) (x1 : Value) (x2 : Value) : World → Prop :=
  opS P (S.cl 9 []) fun x3 =>
  opS P (S.un .not x3) fun x4 =>
  brn x4 (
    K x3
  ) (
    opS P (S.len x0) fun x5 =>
    opS P (S.binI .gtr x5 (.int .i64 40)) fun x6 =>
    brn x6 (
      K x3
    ) (
      opS P (S.len x1) fun x7 =>
      opS P (S.binI .gtr x7 (.int .i64 40)) fun x8 =>
      brn x8 (
        K x3
      ) (
        opS P (S.len x2) fun x9 =>
        opS P (S.binI .gtr x9 (.int .i64 40)) fun x10 =>
        brn x10 (
          K x3
        ) (
          opS P (S.cl 18 [x1, (.int .i64 0)]) fun x11 =>
          opS P (S.len x1) fun x12 =>
          opS P (S.cl 18 [x2, x12]) fun x13 =>
          opS P (S.buildS 40 0 []) fun x14 =>
          opS P (S.bi .append #[40, 40] 40 [x14, x11]) fun x15 =>
          opS P (S.bi .append #[40, 40] 40 [x15, x13]) fun x16 =>
          opS P (S.cl 20 [x0, x16]) fun x17 =>
          opS P (S.cl 20 [x0, x11]) fun x18 =>
          opS P (S.cl 20 [x18, x13]) fun x19 =>
          opS P (S.cl 19 [x17, x19]) fun x20 =>
          K x20
        )
      )
    )
  )
instance fnb8 : FnB Try.prog 8 := ⟨Try.call8⟩
theorem e8 : p8 Try.prog = fun K x0 x1 x2 => denF Try.prog Try.f8 [x0, x1, x2] K := by kernel_rfl
theorem c8 {K : Value → World → Prop} {x0 x1 x2 : Value} {w : World} (h : p8 Try.prog K x0 x1 x2 w) : CallsR Try.prog 8 #[x0, x1, x2] K w := by
  rw [e8] at h
  exact denF_sound mixed Try.func8 h

end Go.Gx.S
-- 5 7 8 6
