/- What the functions of this program ask. -/
import Derived.Test.YtdnidegmlplocaaTy
set_option linter.unusedVariables false
set_option maxRecDepth 100000
namespace Go.Gx.S
open Go Go.Gx Go.Proofs
-- gemel/gemellaw07.VlanScripts
def p8 (P : Program) (K : Value → World → Prop) (x0 : Value) (x1 : Value) (x2 : Value) : World → Prop :=
  opS P (S.cl 10 []) fun x3 =>
  opS P (S.cl 11 [x0, x1]) fun x4 =>
  opS P (S.ext x4 0) fun x5 =>
  opS P (S.ext x4 1) fun x6 =>
  opS P (S.ext x4 2) fun x7 =>
  jnJ 0 (
    jnJ 1 (fun x8 =>
      K x8
    ) fun j0 =>
    brn x3 (
      j0 x7
    ) (
      j0 (.bool false)
    )
  ) fun j0 =>
  opS P (S.un .not x3) fun x8 =>
  brn x8 (
    j0
  ) (
    opS P (S.un .not x7) fun x9 =>
    brn x9 (
      j0
    ) (
      opS P (S.binN .eql (S.isNilP x5)) fun x10 =>
      brn x10 (
        j0
      ) (
        opS P (S.cl 18 [x5, x2]) fun x11 =>
        opS P (S.cl 22 [x6, x2]) fun x12 =>
        opS P (S.cl 21 [x11, x12]) fun x13 =>
        brn x13 (
          opS P (S.cl 23 [x5]) fun x14 =>
          opS P (S.cl 24 [x6]) fun x15 =>
          opS P (S.cl 21 [x14, x15]) fun x16 =>
          K x16
        ) (
          K (.bool false)
        )
      )
    )
  )
instance fnb8 : FnB Try.prog 8 := ⟨Try.call8⟩
theorem e8 : p8 Try.prog = fun K x0 x1 x2 => denF Try.prog Try.f8 [x0, x1, x2] K := by kernel_rfl
theorem c8 {K : Value → World → Prop} {x0 x1 x2 : Value} {w : World} (h : p8 Try.prog K x0 x1 x2 w) : CallsR Try.prog 8 #[x0, x1, x2] K w := by
  rw [e8] at h
  exact denF_sound mixed Try.func8 h

-- gemel/gemellaw07.VlanVlans
def p9 (P : Program) (K : Value → World → Prop) (x0 : Value) (x1 : Value) : World → Prop :=
  opS P (S.cl 10 []) fun x2 =>
  opS P (S.cl 11 [(.int .i64 5), x0]) fun x3 =>
  opS P (S.ext x3 0) fun x4 =>
  opS P (S.ext x3 1) fun x5 =>
  opS P (S.ext x3 2) fun x6 =>
  jnJ 0 (
    jnJ 1 (fun x7 =>
      K x7
    ) fun j0 =>
    brn x2 (
      j0 x6
    ) (
      j0 (.bool false)
    )
  ) fun j0 =>
  opS P (S.un .not x2) fun x7 =>
  brn x7 (
    j0
  ) (
    opS P (S.un .not x6) fun x8 =>
    brn x8 (
      j0
    ) (
      opS P (S.binN .eql (S.isNilP x4)) fun x9 =>
      brn x9 (
        j0
      ) (
        opS P (S.cl 23 [x4]) fun x10 =>
        jnJ 1 (fun x11 =>
          opS P (S.cl 18 [x4, x1]) fun x12 =>
          opS P (S.len x12) fun x13 =>
          opS P (S.binI .gtr x13 (.int .i64 0)) fun x14 =>
          opS P (S.binB .eql x11 x14) fun x15 =>
          K x15
        ) fun j1 =>
        loopJ 2 (fun j2 x11 x12 =>
          opS P (S.len x10) fun x13 =>
          opS P (S.binI .lss x12 x13) fun x14 =>
          brn x14 (
            jnJ 0 (
              brn x11 (
                opS P (S.binI .add x12 (.int .i64 1)) fun x15 =>
                j2 (.bool true) x15
              ) (
                opS P (S.ia 43 x10 x12) fun x15 =>
                opS P (S.ld 3 x15) fun x16 =>
                opS P (S.binI .eql x16 x1) fun x17 =>
                opS P (S.binI .add x12 (.int .i64 1)) fun x18 =>
                j2 x17 x18
              )
            ) fun j3 =>
            drw <|
            opS P (S.binI .gtr x12 (.int .i64 0)) fun x15 =>
            brn x15 (
              opS P (S.ia 43 x10 x12) fun x16 =>
              opS P (S.ld 3 x16) fun x17 =>
              opS P (S.binI .sub x12 (.int .i64 1)) fun x18 =>
              opS P (S.ia 43 x10 x18) fun x19 =>
              opS P (S.ld 3 x19) fun x20 =>
              opS P (S.binI .leq x17 x20) fun x21 =>
              brn x21 (
                K (.bool false)
              ) (
                opS P (S.ia 43 x10 x12) fun x22 =>
                opS P (S.ld 3 x22) fun x23 =>
                opS P (S.cl 18 [x4, x23]) fun x24 =>
                opS P (S.len x24) fun x25 =>
                opS P (S.binI .eql x25 (.int .i64 0)) fun x26 =>
                brn x26 (
                  K (.bool false)
                ) (
                  j3
                )
              )
            ) (
              opS P (S.ia 43 x10 x12) fun x16 =>
              opS P (S.ld 3 x16) fun x17 =>
              opS P (S.cl 18 [x4, x17]) fun x18 =>
              opS P (S.len x18) fun x19 =>
              opS P (S.binI .eql x19 (.int .i64 0)) fun x20 =>
              brn x20 (
                K (.bool false)
              ) (
                j3
              )
            )
          ) (
            j1 x11
          )
        ) (.bool false) (.int .i64 0)
      )
    )
  )
instance fnb9 : FnB Try.prog 9 := ⟨Try.call9⟩
theorem e9 : p9 Try.prog = fun K x0 x1 => denF Try.prog Try.f9 [x0, x1] K := by kernel_rfl
theorem c9 {K : Value → World → Prop} {x0 x1 : Value} {w : World} (h : p9 Try.prog K x0 x1 w) : CallsR Try.prog 9 #[x0, x1] K w := by
  rw [e9] at h
  exact denF_sound mixed Try.func9 h

end Go.Gx.S
-- 8 9
