/- What the functions of this program ask. -/
import Derived.Test.YtdnidegmlplocaaTy
set_option linter.unusedVariables false
set_option maxRecDepth 100000
namespace Go.Gx.S
open Go Go.Gx Go.Proofs
-- gemel/gemellaw07.awake
def p10 (P : Program) (K : Value → World → Prop) : World → Prop :=
  opS P (S.cl 25 [(.int .i64 4)]) fun x0 =>
  opS P (S.ext x0 0) fun x1 =>
  opS P (S.ext x0 1) fun x2 =>
  opS P (S.binI .neq x2 (.int .i64 0)) fun x3 =>
  brn x3 (
    K (.bool false)
  ) (
    opS P (S.binN .eql (S.isNilP x1)) fun x4 =>
    brn x4 (
      K (.bool false)
    ) (
      opS P (S.cl 19 [x1, (.int .i64 10), (.int .i64 1), (.bool true)]) fun x5 =>
      opS P (S.cl 19 [x1, (.int .i64 10), (.int .i64 2), (.bool false)]) fun x6 =>
      opS P (S.cl 17 [x1, (.int .i64 2), (.int .i64 10)]) fun x7 =>
      opS P (S.build 27 [(5, (.int .i64 2048))]) fun x8 =>
      opS P (S.alloc 27) fun x9 =>
      opS P (S.st 27 x9 x8) fun x10 =>
      opS P (S.ld 27 x9) fun x11 =>
      opS P (S.cl 12 [x1, (.int .i64 2), x11]) fun x12 =>
      opS P (S.ext x12 0) fun x13 =>
      opS P (S.ext x12 1) fun x14 =>
      opS P (S.ld 27 x9) fun x15 =>
      opS P (S.cl 14 [x1, (.int .i64 10), (.int .i64 1), x15]) fun x16 =>
      opS P (S.ext x16 0) fun x17 =>
      opS P (S.ext x16 1) fun x18 =>
      opS P (S.alloc 27) fun x19 =>
      opS P (S.st 27 x19 x17) fun x20 =>
      opS P (S.binI .eql x13 (.int .i64 10)) fun x21 =>
      brn x21 (
        opS P (S.binI .eql x14 (.int .i64 0)) fun x22 =>
        brn x22 (
          opS P (S.binI .eql x18 (.int .i64 0)) fun x23 =>
          brn x23 (
            opS P (S.fa 27 x19 2) fun x24 =>
            opS P (S.ld 4 x24) fun x25 =>
            brn x25 (
              opS P (S.fa 27 x19 3) fun x26 =>
              opS P (S.ld 3 x26) fun x27 =>
              opS P (S.binI .eql x27 (.int .i64 10)) fun x28 =>
              K x28
            ) (
              K (.bool false)
            )
          ) (
            K (.bool false)
          )
        ) (
          K (.bool false)
        )
      ) (
        K (.bool false)
      )
    )
  )
instance fnb10 : FnB Try.prog 10 := ⟨Try.call10⟩
theorem e10 : p10 Try.prog = fun K => denF Try.prog Try.f10 [] K := by kernel_rfl
theorem c10 {K : Value → World → Prop} {w : World} (h : p10 Try.prog K w) : CallsR Try.prog 10 #[] K w := by
  rw [e10] at h
  exact denF_sound mixed Try.func10 h

-- gemel/gemellaw07.made
def p11 (P : Program) (K : Value → World → Prop) (x0 : Value) (x1 : Value) : World → Prop :=
  opS P (S.cl 25 [x0]) fun x2 =>
  opS P (S.ext x2 0) fun x3 =>
  opS P (S.ext x2 1) fun x4 =>
  opS P (S.cl 26 [x0]) fun x5 =>
  opS P (S.ext x5 0) fun x6 =>
  opS P (S.ext x5 1) fun x7 =>
  opS P (S.binI .neq x4 x7) fun x8 =>
  brn x8 (
    K (.tuple #[(.pointer none), (.pointer none), (.bool false)])
  ) (
    opS P (S.binN .eql (S.isNilP x3)) fun x9 =>
    opS P (S.binN .eql (S.isNilP x6)) fun x10 =>
    opS P (S.binB .neq x9 x10) fun x11 =>
    brn x11 (
      K (.tuple #[(.pointer none), (.pointer none), (.bool false)])
    ) (
      jnJ 0 (
        K (.tuple #[x3, x6, (.bool true)])
      ) fun j0 =>
      loopJ 1 (fun j1 x12 =>
        opS P (S.len x1) fun x13 =>
        opS P (S.binI .lss x12 x13) fun x14 =>
        brn x14 (
          opS P (S.binI .lss x12 (.int .i64 100)) fun x15 =>
          brn x15 (
            opS P (S.binN .neq (S.isNilP x3)) fun x16 =>
            brn x16 (
              opS P (S.ia 22 x1 x12) fun x17 =>
              opS P (S.ld 46 x17) fun x18 =>
              opS P (S.cl 27 [x3, x6, x18]) fun x19 =>
              opS P (S.un .not x19) fun x20 =>
              brn x20 (
                K (.tuple #[(.pointer none), (.pointer none), (.bool false)])
              ) (
                opS P (S.binI .add x12 (.int .i64 1)) fun x21 =>
                j1 x21
              )
            ) (
              j0
            )
          ) (
            j0
          )
        ) (
          j0
        )
      ) (.int .i64 0)
    )
  )
instance fnb11 : FnB Try.prog 11 := ⟨Try.call11⟩
theorem e11 : p11 Try.prog = fun K x0 x1 => denF Try.prog Try.f11 [x0, x1] K := by kernel_rfl
theorem c11 {K : Value → World → Prop} {x0 x1 : Value} {w : World} (h : p11 Try.prog K x0 x1 w) : CallsR Try.prog 11 #[x0, x1] K w := by
  rw [e11] at h
  exact denF_sound mixed Try.func11 h

-- gemel/gemellaw07.step
def p27 (P : Program) (K : Value → World → Prop) (x0 : Value) (x1 : Value) (x2 : Value) : World → Prop :=
  opS P (S.box 46 x2) fun x3 =>
  opS P (S.fa 46 x3 0) fun x4 =>
  opS P (S.ld 3 x4) fun x5 =>
  opS P (S.binI .eql x5 (.int .i64 0)) fun x6 =>
  brn x6 (
    opS P (S.fa 46 x3 1) fun x7 =>
    opS P (S.ld 3 x7) fun x8 =>
    opS P (S.fa 46 x3 2) fun x9 =>
    opS P (S.ld 3 x9) fun x10 =>
    opS P (S.fa 46 x3 3) fun x11 =>
    opS P (S.ld 4 x11) fun x12 =>
    opS P (S.cl 19 [x0, x8, x10, x12]) fun x13 =>
    opS P (S.fa 46 x3 1) fun x14 =>
    opS P (S.ld 3 x14) fun x15 =>
    opS P (S.fa 46 x3 2) fun x16 =>
    opS P (S.ld 3 x16) fun x17 =>
    opS P (S.fa 46 x3 3) fun x18 =>
    opS P (S.ld 4 x18) fun x19 =>
    opS P (S.cl 41 [x1, x15, x17, x19]) fun x20 =>
    opS P (S.binI .eql x13 x20) fun x21 =>
    K x21
  ) (
    opS P (S.binI .eql x5 (.int .i64 1)) fun x7 =>
    brn x7 (
      opS P (S.fa 46 x3 1) fun x8 =>
      opS P (S.ld 3 x8) fun x9 =>
      opS P (S.fa 46 x3 2) fun x10 =>
      opS P (S.ld 3 x10) fun x11 =>
      opS P (S.cl 20 [x0, x9, x11]) fun x12 =>
      opS P (S.fa 46 x3 1) fun x13 =>
      opS P (S.ld 3 x13) fun x14 =>
      opS P (S.fa 46 x3 2) fun x15 =>
      opS P (S.ld 3 x15) fun x16 =>
      opS P (S.cl 42 [x1, x14, x16]) fun x17 =>
      opS P (S.binI .eql x12 x17) fun x18 =>
      K x18
    ) (
      opS P (S.fa 46 x3 2) fun x8 =>
      opS P (S.ld 3 x8) fun x9 =>
      opS P (S.fa 46 x3 1) fun x10 =>
      opS P (S.ld 3 x10) fun x11 =>
      opS P (S.cl 17 [x0, x9, x11]) fun x12 =>
      opS P (S.fa 46 x3 2) fun x13 =>
      opS P (S.ld 3 x13) fun x14 =>
      opS P (S.fa 46 x3 1) fun x15 =>
      opS P (S.ld 3 x15) fun x16 =>
      opS P (S.cl 43 [x1, x14, x16]) fun x17 =>
      opS P (S.binI .eql x12 x17) fun x18 =>
      K x18
    )
  )
instance fnb27 : FnB Try.prog 27 := ⟨Try.call27⟩
theorem e27 : p27 Try.prog = fun K x0 x1 x2 => denF Try.prog Try.f27 [x0, x1, x2] K := by kernel_rfl
theorem c27 {K : Value → World → Prop} {x0 x1 x2 : Value} {w : World} (h : p27 Try.prog K x0 x1 x2 w) : CallsR Try.prog 27 #[x0, x1, x2] K w := by
  rw [e27] at h
  exact denF_sound mixed Try.func27 h

end Go.Gx.S
-- 10 27 11
