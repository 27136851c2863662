/- What the functions of this program ask. -/
import Derived.Test.YtdnidegmlplocaaTy
set_option linter.unusedVariables false
set_option maxRecDepth 100000
namespace Go.Gx.S
open Go Go.Gx Go.Proofs
-- gemel/gemellaw07.VlanFrames
def p3 (P : Program) (K : Value → World → Prop) (x0 : Value) (x1 : Value) (x2 : Value) : World → Prop :=
  opS P (S.box 27 x1) fun x3 =>
  opS P (S.box 28 x2) fun x4 =>
  opS P (S.cl 10 []) fun x5 =>
  opS P (S.cl 11 [(.int .i64 5), x0]) fun x6 =>
  opS P (S.ext x6 0) fun x7 =>
  opS P (S.ext x6 1) fun x8 =>
  opS P (S.ext x6 2) fun x9 =>
  jnJ 0 (
    jnJ 1 (fun x10 =>
      K x10
    ) fun j0 =>
    brn x5 (
      j0 x9
    ) (
      j0 (.bool false)
    )
  ) fun j0 =>
  opS P (S.un .not x5) fun x10 =>
  brn x10 (
    j0
  ) (
    opS P (S.un .not x9) fun x11 =>
    brn x11 (
      j0
    ) (
      opS P (S.binN .eql (S.isNilP x7)) fun x12 =>
      brn x12 (
        j0
      ) (
        opS P (S.fa 27 x3 6) fun x13 =>
        opS P (S.ld 25 x13) fun x14 =>
        opS P (S.len x14) fun x15 =>
        opS P (S.binI .gtr x15 (.int .i64 3000)) fun x16 =>
        brn x16 (
          j0
        ) (
          opS P (S.ia 28 x4 (.int .i64 1)) fun x17 =>
          opS P (S.ld 3 x17) fun x18 =>
          opS P (S.ld 27 x3) fun x19 =>
          opS P (S.cl 12 [x7, x18, x19]) fun x20 =>
          opS P (S.ext x20 0) fun x21 =>
          opS P (S.ext x20 1) fun x22 =>
          opS P (S.ia 28 x4 (.int .i64 1)) fun x23 =>
          opS P (S.ld 3 x23) fun x24 =>
          opS P (S.ld 27 x3) fun x25 =>
          opS P (S.cl 13 [x8, x24, x25]) fun x26 =>
          opS P (S.ext x26 0) fun x27 =>
          opS P (S.ext x26 1) fun x28 =>
          opS P (S.ia 28 x4 (.int .i64 0)) fun x29 =>
          opS P (S.ld 3 x29) fun x30 =>
          opS P (S.ia 28 x4 (.int .i64 1)) fun x31 =>
          opS P (S.ld 3 x31) fun x32 =>
          opS P (S.ld 27 x3) fun x33 =>
          opS P (S.cl 14 [x7, x30, x32, x33]) fun x34 =>
          opS P (S.ext x34 0) fun x35 =>
          opS P (S.ext x34 1) fun x36 =>
          opS P (S.alloc 27) fun x37 =>
          opS P (S.st 27 x37 x35) fun x38 =>
          opS P (S.ia 28 x4 (.int .i64 0)) fun x39 =>
          opS P (S.ld 3 x39) fun x40 =>
          opS P (S.ia 28 x4 (.int .i64 1)) fun x41 =>
          opS P (S.ld 3 x41) fun x42 =>
          opS P (S.ld 27 x3) fun x43 =>
          opS P (S.cl 15 [x8, x40, x42, x43]) fun x44 =>
          opS P (S.ext x44 0) fun x45 =>
          opS P (S.ext x44 1) fun x46 =>
          opS P (S.alloc 27) fun x47 =>
          opS P (S.st 27 x47 x45) fun x48 =>
          opS P (S.ld 27 x37) fun x49 =>
          opS P (S.ld 27 x47) fun x50 =>
          opS P (S.cl 16 [x49, x50]) fun x51 =>
          opS P (S.binI .eql x21 x27) fun x52 =>
          brn x52 (
            opS P (S.binI .eql x22 x28) fun x53 =>
            brn x53 (
              brn x51 (
                opS P (S.binI .eql x36 x46) fun x54 =>
                K x54
              ) (
                K (.bool false)
              )
            ) (
              K (.bool false)
            )
          ) (
            K (.bool false)
          )
        )
      )
    )
  )
instance fnb3 : FnB Try.prog 3 := ⟨Try.call3⟩
theorem e3 : p3 Try.prog = fun K x0 x1 x2 => denF Try.prog Try.f3 [x0, x1, x2] K := by kernel_rfl
theorem c3 {K : Value → World → Prop} {x0 x1 x2 : Value} {w : World} (h : p3 Try.prog K x0 x1 x2 w) : CallsR Try.prog 3 #[x0, x1, x2] K w := by
  rw [e3] at h
  exact denF_sound mixed Try.func3 h

-- gemel/gemellaw07.VlanNative
def p4 (P : Program) (K : Value → World → Prop) (x0 : Value) (x1 : Value) (x2 : Value) : World → Prop :=
  opS P (S.box 27 x2) fun x3 =>
  opS P (S.cl 10 []) fun x4 =>
  opS P (S.cl 11 [(.int .i64 5), x0]) fun x5 =>
  opS P (S.ext x5 0) fun x6 =>
  opS P (S.ext x5 1) fun x7 =>
  opS P (S.ext x5 2) fun x8 =>
  jnJ 0 (
    jnJ 1 (fun x9 =>
      K x9
    ) fun j0 =>
    brn x4 (
      j0 x8
    ) (
      j0 (.bool false)
    )
  ) fun j0 =>
  opS P (S.un .not x4) fun x9 =>
  brn x9 (
    j0
  ) (
    opS P (S.un .not x8) fun x10 =>
    brn x10 (
      j0
    ) (
      opS P (S.binN .eql (S.isNilP x6)) fun x11 =>
      brn x11 (
        j0
      ) (
        opS P (S.fa 27 x3 6) fun x12 =>
        opS P (S.ld 25 x12) fun x13 =>
        opS P (S.len x13) fun x14 =>
        opS P (S.binI .gtr x14 (.int .i64 3000)) fun x15 =>
        brn x15 (
          j0
        ) (
          opS P (S.ld 27 x3) fun x16 =>
          opS P (S.alloc 27) fun x17 =>
          opS P (S.st 27 x17 x16) fun x18 =>
          opS P (S.fa 27 x17 2) fun x19 =>
          opS P (S.st 4 x19 (.bool false)) fun x20 =>
          opS P (S.fa 27 x17 3) fun x21 =>
          opS P (S.st 3 x21 (.int .i64 0)) fun x22 =>
          opS P (S.fa 27 x17 4) fun x23 =>
          opS P (S.st 3 x23 (.int .i64 0)) fun x24 =>
          opS P (S.ld 27 x17) fun x25 =>
          opS P (S.alloc 27) fun x26 =>
          opS P (S.st 27 x26 x25) fun x27 =>
          opS P (S.fa 27 x26 2) fun x28 =>
          opS P (S.st 4 x28 (.bool true)) fun x29 =>
          opS P (S.ld 27 x17) fun x30 =>
          opS P (S.cl 12 [x6, x1, x30]) fun x31 =>
          opS P (S.ext x31 0) fun x32 =>
          opS P (S.ext x31 1) fun x33 =>
          opS P (S.ld 27 x26) fun x34 =>
          opS P (S.cl 12 [x6, x1, x34]) fun x35 =>
          opS P (S.ext x35 0) fun x36 =>
          opS P (S.ext x35 1) fun x37 =>
          opS P (S.cl 17 [x6, x1, (.int .i64 0)]) fun x38 =>
          opS P (S.ld 27 x17) fun x39 =>
          opS P (S.cl 12 [x6, x1, x39]) fun x40 =>
          opS P (S.ext x40 0) fun x41 =>
          opS P (S.ext x40 1) fun x42 =>
          opS P (S.binI .eql x32 x36) fun x43 =>
          brn x43 (
            opS P (S.binI .eql x33 x37) fun x44 =>
            brn x44 (
              opS P (S.binI .eql x41 (.int .i64 0)) fun x45 =>
              brn x45 (
                opS P (S.binI .neq x42 (.int .i64 0)) fun x46 =>
                brn x46 (
                  opS P (S.binI .eql x33 (.int .i64 1)) fun x47 =>
                  brn x47 (
                    K (.bool true)
                  ) (
                    opS P (S.binI .eql x38 (.int .i64 0)) fun x48 =>
                    K x48
                  )
                ) (
                  K (.bool false)
                )
              ) (
                K (.bool false)
              )
            ) (
              K (.bool false)
            )
          ) (
            K (.bool false)
          )
        )
      )
    )
  )
instance fnb4 : FnB Try.prog 4 := ⟨Try.call4⟩
theorem e4 : p4 Try.prog = fun K x0 x1 x2 => denF Try.prog Try.f4 [x0, x1, x2] K := by kernel_rfl
theorem c4 {K : Value → World → Prop} {x0 x1 x2 : Value} {w : World} (h : p4 Try.prog K x0 x1 x2 w) : CallsR Try.prog 4 #[x0, x1, x2] K w := by
  rw [e4] at h
  exact denF_sound mixed Try.func4 h

-- gemel/gemellaw07.VlanApart
def p6 (P : Program) (K : Value → World → Prop) (x0 : Value) (x1 : Value) (x2 : Value) : World → Prop :=
  opS P (S.box 46 x2) fun x3 =>
  opS P (S.cl 10 []) fun x4 =>
  opS P (S.cl 11 [(.int .i64 5), x0]) fun x5 =>
  opS P (S.ext x5 0) fun x6 =>
  opS P (S.ext x5 1) fun x7 =>
  opS P (S.ext x5 2) fun x8 =>
  jnJ 0 (
    jnJ 1 (fun x9 =>
      K x9
    ) fun j0 =>
    brn x4 (
      j0 x8
    ) (
      j0 (.bool false)
    )
  ) fun j0 =>
  opS P (S.un .not x4) fun x9 =>
  brn x9 (
    j0
  ) (
    opS P (S.un .not x8) fun x10 =>
    brn x10 (
      j0
    ) (
      opS P (S.binN .eql (S.isNilP x6)) fun x11 =>
      brn x11 (
        j0
      ) (
        opS P (S.fa 46 x3 1) fun x12 =>
        opS P (S.ld 3 x12) fun x13 =>
        opS P (S.binI .eql x13 x1) fun x14 =>
        brn x14 (
          j0
        ) (
          opS P (S.cl 18 [x6, x1]) fun x15 =>
          opS P (S.fa 46 x3 0) fun x16 =>
          opS P (S.ld 3 x16) fun x17 =>
          opS P (S.binI .eql x17 (.int .i64 0)) fun x18 =>
          brn x18 (
            opS P (S.fa 46 x3 1) fun x19 =>
            opS P (S.ld 3 x19) fun x20 =>
            opS P (S.fa 46 x3 2) fun x21 =>
            opS P (S.ld 3 x21) fun x22 =>
            opS P (S.fa 46 x3 3) fun x23 =>
            opS P (S.ld 4 x23) fun x24 =>
            opS P (S.cl 19 [x6, x20, x22, x24]) fun x25 =>
            opS P (S.cl 18 [x6, x1]) fun x26 =>
            opS P (S.cl 21 [x26, x15]) fun x27 =>
            K x27
          ) (
            opS P (S.binI .eql x17 (.int .i64 1)) fun x19 =>
            brn x19 (
              opS P (S.fa 46 x3 1) fun x20 =>
              opS P (S.ld 3 x20) fun x21 =>
              opS P (S.fa 46 x3 2) fun x22 =>
              opS P (S.ld 3 x22) fun x23 =>
              opS P (S.cl 20 [x6, x21, x23]) fun x24 =>
              opS P (S.cl 18 [x6, x1]) fun x25 =>
              opS P (S.cl 21 [x25, x15]) fun x26 =>
              K x26
            ) (
              opS P (S.fa 46 x3 2) fun x20 =>
              opS P (S.ld 3 x20) fun x21 =>
              opS P (S.fa 46 x3 1) fun x22 =>
              opS P (S.ld 3 x22) fun x23 =>
              opS P (S.cl 17 [x6, x21, x23]) fun x24 =>
              opS P (S.cl 18 [x6, x1]) fun x25 =>
              opS P (S.cl 21 [x25, x15]) fun x26 =>
              K x26
            )
          )
        )
      )
    )
  )
instance fnb6 : FnB Try.prog 6 := ⟨Try.call6⟩
theorem e6 : p6 Try.prog = fun K x0 x1 x2 => denF Try.prog Try.f6 [x0, x1, x2] K := by kernel_rfl
theorem c6 {K : Value → World → Prop} {x0 x1 x2 : Value} {w : World} (h : p6 Try.prog K x0 x1 x2 w) : CallsR Try.prog 6 #[x0, x1, x2] K w := by
  rw [e6] at h
  exact denF_sound mixed Try.func6 h

end Go.Gx.S
-- 3 4 6
