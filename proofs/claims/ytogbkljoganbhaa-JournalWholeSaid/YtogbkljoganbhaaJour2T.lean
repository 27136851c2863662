/- What the functions of this program ask. -/
import Derived.Test.YtogbkljoganbhaaTy
set_option linter.unusedVariables false
set_option maxRecDepth 100000
namespace Go.Gx.S
open Go Go.Gx Go.Proofs
-- gemel/gemelref09.New
def p11 (P : Program) (K : Value → World → Prop) (x0 : Value) : World → Prop :=
  opS P (S.binI .lss x0 (.int .i64 1)) fun x1 =>
  brn x1 (
    K (.tuple #[(.pointer none), (.int .i64 1)])
  ) (
    opS P (S.binI .gtr x0 (.int .i64 1000)) fun x2 =>
    brn x2 (
      K (.tuple #[(.pointer none), (.int .i64 1)])
    ) (
      opS P (S.build 42 [(0, x0)]) fun x3 =>
      opS P (S.box 42 x3) fun x4 =>
      K (.tuple #[x4, (.int .i64 0)])
    )
  )
instance fnb11 : FnB Try.prog 11 := ⟨Try.call11⟩
theorem e11 : p11 Try.prog = fun K x0 => denF Try.prog Try.f11 [x0] K := by kernel_rfl
theorem c11 {K : Value → World → Prop} {x0 : Value} {w : World} (h : p11 Try.prog K x0 w) : CallsR Try.prog 11 #[x0] K w := by
  rw [e11] at h
  exact denF_sound mixed Try.func11 h

-- (*gemel/gemelref09.Journal).Put
def p13 (P : Program) (K : Value → World → Prop) (x0 : Value) (x1 : Value) (x2 : Value) : World → Prop :=
  opS P (S.box 36 x1) fun x3 =>
  opS P (S.nc x0) fun x4 =>
  opS P (S.fa 42 x4 1) fun x5 =>
  opS P (S.ld 3 x5) fun x6 =>
  opS P (S.binI .geq x6 (.int .i64 1073741824)) fun x7 =>
  brn x7 (
    K (.tuple #[(.int .i64 0), (.int .i64 3)])
  ) (
    opS P (S.nc x0) fun x8 =>
    opS P (S.fa 42 x8 1) fun x9 =>
    opS P (S.ld 3 x9) fun x10 =>
    opS P (S.binI .add x10 (.int .i64 1)) fun x11 =>
    opS P (S.nc x0) fun x12 =>
    opS P (S.fa 42 x12 1) fun x13 =>
    opS P (S.st 3 x13 x11) fun x14 =>
    jnJ 0 (
      drw <|
      opS P (S.nc x0) fun x15 =>
      opS P (S.fa 42 x15 2) fun x16 =>
      opS P (S.ld 40 x16) fun x17 =>
      opS P (S.len x17) fun x18 =>
      opS P (S.nc x0) fun x19 =>
      opS P (S.fa 42 x19 0) fun x20 =>
      opS P (S.ld 3 x20) fun x21 =>
      opS P (S.binI .gtr x18 x21) fun x22 =>
      brn x22 (
        opS P (S.nc x0) fun x23 =>
        opS P (S.fa 42 x23 2) fun x24 =>
        opS P (S.ld 40 x24) fun x25 =>
        opS P (S.slc 40 x25 (some (.int .i64 1)) none none) fun x26 =>
        opS P (S.nc x0) fun x27 =>
        opS P (S.fa 42 x27 2) fun x28 =>
        opS P (S.st 40 x28 x26) fun x29 =>
        opS P (S.nc x0) fun x30 =>
        opS P (S.fa 42 x30 1) fun x31 =>
        opS P (S.ld 3 x31) fun x32 =>
        K (.tuple #[x32, (.int .i64 0)])
      ) (
        opS P (S.nc x0) fun x23 =>
        opS P (S.fa 42 x23 1) fun x24 =>
        opS P (S.ld 3 x24) fun x25 =>
        K (.tuple #[x25, (.int .i64 0)])
      )
    ) fun j0 =>
    drw <|
    opS P (S.nc x0) fun x15 =>
    opS P (S.fa 42 x15 2) fun x16 =>
    opS P (S.nc x0) fun x17 =>
    opS P (S.fa 42 x17 1) fun x18 =>
    allW (
      opS P (S.buildS 40 0 []) fun x19 =>
      allW (
        opS P (S.ld 40 x16) fun x20 =>
        allW (
          opS P (S.bi .append #[40, 40] 40 [x19, x20]) fun x21 =>
          opS P (S.ld 3 x18) fun x22 =>
          opS P (S.ld 36 x3) fun x23 =>
          opS P (S.build 48 [(0, x22), (1, x23), (2, x2)]) fun x24 =>
          opS P (S.buildS 40 1 [(0, x24)]) fun x25 =>
          opS P (S.bi .append #[40, 40] 40 [x21, x25]) fun x26 =>
          opS P (S.nc x0) fun x27 =>
          opS P (S.fa 42 x27 2) fun x28 =>
          opS P (S.st 40 x28 x26) fun x29 =>
          j0
        ) (
          allW (
            opS P (S.ld 3 x18) fun x21 =>
            allW (
              opS P (S.bi .append #[40, 40] 40 [x19, x20]) fun x22 =>
              opS P (S.ld 36 x3) fun x23 =>
              opS P (S.build 48 [(0, x21), (1, x23), (2, x2)]) fun x24 =>
              opS P (S.buildS 40 1 [(0, x24)]) fun x25 =>
              opS P (S.bi .append #[40, 40] 40 [x22, x25]) fun x26 =>
              opS P (S.nc x0) fun x27 =>
              opS P (S.fa 42 x27 2) fun x28 =>
              opS P (S.st 40 x28 x26) fun x29 =>
              j0
            ) (
              opS P (S.ld 36 x3) fun x22 =>
              opS P (S.build 48 [(0, x21), (1, x22), (2, x2)]) fun x23 =>
              allW (
                opS P (S.bi .append #[40, 40] 40 [x19, x20]) fun x24 =>
                opS P (S.buildS 40 1 [(0, x23)]) fun x25 =>
                opS P (S.bi .append #[40, 40] 40 [x24, x25]) fun x26 =>
                opS P (S.nc x0) fun x27 =>
                opS P (S.fa 42 x27 2) fun x28 =>
                opS P (S.st 40 x28 x26) fun x29 =>
                j0
              ) (
                opS P (S.buildS 40 1 [(0, x23)]) fun x24 =>
                opS P (S.bi .append #[40, 40] 40 [x19, x20]) fun x25 =>
                opS P (S.bi .append #[40, 40] 40 [x25, x24]) fun x26 =>
                opS P (S.nc x0) fun x27 =>
                opS P (S.fa 42 x27 2) fun x28 =>
                opS P (S.st 40 x28 x26) fun x29 =>
                j0
              )
            )
          ) (
            opS P (S.ld 36 x3) fun x21 =>
            allW (
              opS P (S.bi .append #[40, 40] 40 [x19, x20]) fun x22 =>
              opS P (S.ld 3 x18) fun x23 =>
              opS P (S.build 48 [(0, x23), (1, x21), (2, x2)]) fun x24 =>
              opS P (S.buildS 40 1 [(0, x24)]) fun x25 =>
              opS P (S.bi .append #[40, 40] 40 [x22, x25]) fun x26 =>
              opS P (S.nc x0) fun x27 =>
              opS P (S.fa 42 x27 2) fun x28 =>
              opS P (S.st 40 x28 x26) fun x29 =>
              j0
            ) (
              opS P (S.ld 3 x18) fun x22 =>
              opS P (S.build 48 [(0, x22), (1, x21), (2, x2)]) fun x23 =>
              allW (
                opS P (S.bi .append #[40, 40] 40 [x19, x20]) fun x24 =>
                opS P (S.buildS 40 1 [(0, x23)]) fun x25 =>
                opS P (S.bi .append #[40, 40] 40 [x24, x25]) fun x26 =>
                opS P (S.nc x0) fun x27 =>
                opS P (S.fa 42 x27 2) fun x28 =>
                opS P (S.st 40 x28 x26) fun x29 =>
                j0
              ) (
                opS P (S.buildS 40 1 [(0, x23)]) fun x24 =>
                opS P (S.bi .append #[40, 40] 40 [x19, x20]) fun x25 =>
                opS P (S.bi .append #[40, 40] 40 [x25, x24]) fun x26 =>
                opS P (S.nc x0) fun x27 =>
                opS P (S.fa 42 x27 2) fun x28 =>
                opS P (S.st 40 x28 x26) fun x29 =>
                j0
              )
            )
          )
        )
      ) (
        allW (
          opS P (S.ld 3 x18) fun x20 =>
          allW (
            opS P (S.ld 40 x16) fun x21 =>
            allW (
              opS P (S.bi .append #[40, 40] 40 [x19, x21]) fun x22 =>
              opS P (S.ld 36 x3) fun x23 =>
              opS P (S.build 48 [(0, x20), (1, x23), (2, x2)]) fun x24 =>
              opS P (S.buildS 40 1 [(0, x24)]) fun x25 =>
              opS P (S.bi .append #[40, 40] 40 [x22, x25]) fun x26 =>
              opS P (S.nc x0) fun x27 =>
              opS P (S.fa 42 x27 2) fun x28 =>
              opS P (S.st 40 x28 x26) fun x29 =>
              j0
            ) (
              opS P (S.ld 36 x3) fun x22 =>
              opS P (S.build 48 [(0, x20), (1, x22), (2, x2)]) fun x23 =>
              allW (
                opS P (S.bi .append #[40, 40] 40 [x19, x21]) fun x24 =>
                opS P (S.buildS 40 1 [(0, x23)]) fun x25 =>
                opS P (S.bi .append #[40, 40] 40 [x24, x25]) fun x26 =>
                opS P (S.nc x0) fun x27 =>
                opS P (S.fa 42 x27 2) fun x28 =>
                opS P (S.st 40 x28 x26) fun x29 =>
                j0
              ) (
                opS P (S.buildS 40 1 [(0, x23)]) fun x24 =>
                opS P (S.bi .append #[40, 40] 40 [x19, x21]) fun x25 =>
                opS P (S.bi .append #[40, 40] 40 [x25, x24]) fun x26 =>
                opS P (S.nc x0) fun x27 =>
                opS P (S.fa 42 x27 2) fun x28 =>
                opS P (S.st 40 x28 x26) fun x29 =>
                j0
              )
            )
          ) (
            opS P (S.ld 36 x3) fun x21 =>
            opS P (S.build 48 [(0, x20), (1, x21), (2, x2)]) fun x22 =>
            allW (
              opS P (S.ld 40 x16) fun x23 =>
              allW (
                opS P (S.bi .append #[40, 40] 40 [x19, x23]) fun x24 =>
                opS P (S.buildS 40 1 [(0, x22)]) fun x25 =>
                opS P (S.bi .append #[40, 40] 40 [x24, x25]) fun x26 =>
                opS P (S.nc x0) fun x27 =>
                opS P (S.fa 42 x27 2) fun x28 =>
                opS P (S.st 40 x28 x26) fun x29 =>
                j0
              ) (
                opS P (S.buildS 40 1 [(0, x22)]) fun x24 =>
                opS P (S.bi .append #[40, 40] 40 [x19, x23]) fun x25 =>
                opS P (S.bi .append #[40, 40] 40 [x25, x24]) fun x26 =>
                opS P (S.nc x0) fun x27 =>
                opS P (S.fa 42 x27 2) fun x28 =>
                opS P (S.st 40 x28 x26) fun x29 =>
                j0
              )
            ) (
              opS P (S.buildS 40 1 [(0, x22)]) fun x23 =>
              opS P (S.ld 40 x16) fun x24 =>
              opS P (S.bi .append #[40, 40] 40 [x19, x24]) fun x25 =>
              opS P (S.bi .append #[40, 40] 40 [x25, x23]) fun x26 =>
              opS P (S.nc x0) fun x27 =>
              opS P (S.fa 42 x27 2) fun x28 =>
              opS P (S.st 40 x28 x26) fun x29 =>
              j0
            )
          )
        ) (
          opS P (S.ld 36 x3) fun x20 =>
          allW (
            opS P (S.ld 40 x16) fun x21 =>
            allW (
              opS P (S.bi .append #[40, 40] 40 [x19, x21]) fun x22 =>
              opS P (S.ld 3 x18) fun x23 =>
              opS P (S.build 48 [(0, x23), (1, x20), (2, x2)]) fun x24 =>
              opS P (S.buildS 40 1 [(0, x24)]) fun x25 =>
              opS P (S.bi .append #[40, 40] 40 [x22, x25]) fun x26 =>
              opS P (S.nc x0) fun x27 =>
              opS P (S.fa 42 x27 2) fun x28 =>
              opS P (S.st 40 x28 x26) fun x29 =>
              j0
            ) (
              opS P (S.ld 3 x18) fun x22 =>
              opS P (S.build 48 [(0, x22), (1, x20), (2, x2)]) fun x23 =>
              allW (
                opS P (S.bi .append #[40, 40] 40 [x19, x21]) fun x24 =>
                opS P (S.buildS 40 1 [(0, x23)]) fun x25 =>
                opS P (S.bi .append #[40, 40] 40 [x24, x25]) fun x26 =>
                opS P (S.nc x0) fun x27 =>
                opS P (S.fa 42 x27 2) fun x28 =>
                opS P (S.st 40 x28 x26) fun x29 =>
                j0
              ) (
                opS P (S.buildS 40 1 [(0, x23)]) fun x24 =>
                opS P (S.bi .append #[40, 40] 40 [x19, x21]) fun x25 =>
                opS P (S.bi .append #[40, 40] 40 [x25, x24]) fun x26 =>
                opS P (S.nc x0) fun x27 =>
                opS P (S.fa 42 x27 2) fun x28 =>
                opS P (S.st 40 x28 x26) fun x29 =>
                j0
              )
            )
          ) (
            opS P (S.ld 3 x18) fun x21 =>
            opS P (S.build 48 [(0, x21), (1, x20), (2, x2)]) fun x22 =>
            allW (
              opS P (S.ld 40 x16) fun x23 =>
              allW (
                opS P (S.bi .append #[40, 40] 40 [x19, x23]) fun x24 =>
                opS P (S.buildS 40 1 [(0, x22)]) fun x25 =>
                opS P (S.bi .append #[40, 40] 40 [x24, x25]) fun x26 =>
                opS P (S.nc x0) fun x27 =>
                opS P (S.fa 42 x27 2) fun x28 =>
                opS P (S.st 40 x28 x26) fun x29 =>
                j0
              ) (
                opS P (S.buildS 40 1 [(0, x22)]) fun x24 =>
                opS P (S.bi .append #[40, 40] 40 [x19, x23]) fun x25 =>
                opS P (S.bi .append #[40, 40] 40 [x25, x24]) fun x26 =>
                opS P (S.nc x0) fun x27 =>
                opS P (S.fa 42 x27 2) fun x28 =>
                opS P (S.st 40 x28 x26) fun x29 =>
                j0
              )
            ) (
              opS P (S.buildS 40 1 [(0, x22)]) fun x23 =>
              opS P (S.ld 40 x16) fun x24 =>
              opS P (S.bi .append #[40, 40] 40 [x19, x24]) fun x25 =>
              opS P (S.bi .append #[40, 40] 40 [x25, x23]) fun x26 =>
              opS P (S.nc x0) fun x27 =>
              opS P (S.fa 42 x27 2) fun x28 =>
              opS P (S.st 40 x28 x26) fun x29 =>
              j0
            )
          )
        )
      )
    ) (
      allW (
        opS P (S.ld 40 x16) fun x19 =>
        allW (
          opS P (S.buildS 40 0 []) fun x20 =>
          allW (
            opS P (S.bi .append #[40, 40] 40 [x20, x19]) fun x21 =>
            opS P (S.ld 3 x18) fun x22 =>
            opS P (S.ld 36 x3) fun x23 =>
            opS P (S.build 48 [(0, x22), (1, x23), (2, x2)]) fun x24 =>
            opS P (S.buildS 40 1 [(0, x24)]) fun x25 =>
            opS P (S.bi .append #[40, 40] 40 [x21, x25]) fun x26 =>
            opS P (S.nc x0) fun x27 =>
            opS P (S.fa 42 x27 2) fun x28 =>
            opS P (S.st 40 x28 x26) fun x29 =>
            j0
          ) (
            allW (
              opS P (S.ld 3 x18) fun x21 =>
              allW (
                opS P (S.bi .append #[40, 40] 40 [x20, x19]) fun x22 =>
                opS P (S.ld 36 x3) fun x23 =>
                opS P (S.build 48 [(0, x21), (1, x23), (2, x2)]) fun x24 =>
                opS P (S.buildS 40 1 [(0, x24)]) fun x25 =>
                opS P (S.bi .append #[40, 40] 40 [x22, x25]) fun x26 =>
                opS P (S.nc x0) fun x27 =>
                opS P (S.fa 42 x27 2) fun x28 =>
                opS P (S.st 40 x28 x26) fun x29 =>
                j0
              ) (
                opS P (S.ld 36 x3) fun x22 =>
                opS P (S.build 48 [(0, x21), (1, x22), (2, x2)]) fun x23 =>
                allW (
                  opS P (S.bi .append #[40, 40] 40 [x20, x19]) fun x24 =>
                  opS P (S.buildS 40 1 [(0, x23)]) fun x25 =>
                  opS P (S.bi .append #[40, 40] 40 [x24, x25]) fun x26 =>
                  opS P (S.nc x0) fun x27 =>
                  opS P (S.fa 42 x27 2) fun x28 =>
                  opS P (S.st 40 x28 x26) fun x29 =>
                  j0
                ) (
                  opS P (S.buildS 40 1 [(0, x23)]) fun x24 =>
                  opS P (S.bi .append #[40, 40] 40 [x20, x19]) fun x25 =>
                  opS P (S.bi .append #[40, 40] 40 [x25, x24]) fun x26 =>
                  opS P (S.nc x0) fun x27 =>
                  opS P (S.fa 42 x27 2) fun x28 =>
                  opS P (S.st 40 x28 x26) fun x29 =>
                  j0
                )
              )
            ) (
              opS P (S.ld 36 x3) fun x21 =>
              allW (
                opS P (S.bi .append #[40, 40] 40 [x20, x19]) fun x22 =>
                opS P (S.ld 3 x18) fun x23 =>
                opS P (S.build 48 [(0, x23), (1, x21), (2, x2)]) fun x24 =>
                opS P (S.buildS 40 1 [(0, x24)]) fun x25 =>
                opS P (S.bi .append #[40, 40] 40 [x22, x25]) fun x26 =>
                opS P (S.nc x0) fun x27 =>
                opS P (S.fa 42 x27 2) fun x28 =>
                opS P (S.st 40 x28 x26) fun x29 =>
                j0
              ) (
                opS P (S.ld 3 x18) fun x22 =>
                opS P (S.build 48 [(0, x22), (1, x21), (2, x2)]) fun x23 =>
                allW (
                  opS P (S.bi .append #[40, 40] 40 [x20, x19]) fun x24 =>
                  opS P (S.buildS 40 1 [(0, x23)]) fun x25 =>
                  opS P (S.bi .append #[40, 40] 40 [x24, x25]) fun x26 =>
                  opS P (S.nc x0) fun x27 =>
                  opS P (S.fa 42 x27 2) fun x28 =>
                  opS P (S.st 40 x28 x26) fun x29 =>
                  j0
                ) (
                  opS P (S.buildS 40 1 [(0, x23)]) fun x24 =>
                  opS P (S.bi .append #[40, 40] 40 [x20, x19]) fun x25 =>
                  opS P (S.bi .append #[40, 40] 40 [x25, x24]) fun x26 =>
                  opS P (S.nc x0) fun x27 =>
                  opS P (S.fa 42 x27 2) fun x28 =>
                  opS P (S.st 40 x28 x26) fun x29 =>
                  j0
                )
              )
            )
          )
        ) (
          allW (
            opS P (S.ld 3 x18) fun x20 =>
            allW (
              opS P (S.buildS 40 0 []) fun x21 =>
              allW (
                opS P (S.bi .append #[40, 40] 40 [x21, x19]) fun x22 =>
                opS P (S.ld 36 x3) fun x23 =>
                opS P (S.build 48 [(0, x20), (1, x23), (2, x2)]) fun x24 =>
                opS P (S.buildS 40 1 [(0, x24)]) fun x25 =>
                opS P (S.bi .append #[40, 40] 40 [x22, x25]) fun x26 =>
                opS P (S.nc x0) fun x27 =>
                opS P (S.fa 42 x27 2) fun x28 =>
                opS P (S.st 40 x28 x26) fun x29 =>
                j0
              ) (
                opS P (S.ld 36 x3) fun x22 =>
                opS P (S.build 48 [(0, x20), (1, x22), (2, x2)]) fun x23 =>
                allW (
                  opS P (S.bi .append #[40, 40] 40 [x21, x19]) fun x24 =>
                  opS P (S.buildS 40 1 [(0, x23)]) fun x25 =>
                  opS P (S.bi .append #[40, 40] 40 [x24, x25]) fun x26 =>
                  opS P (S.nc x0) fun x27 =>
                  opS P (S.fa 42 x27 2) fun x28 =>
                  opS P (S.st 40 x28 x26) fun x29 =>
                  j0
                ) (
                  opS P (S.buildS 40 1 [(0, x23)]) fun x24 =>
                  opS P (S.bi .append #[40, 40] 40 [x21, x19]) fun x25 =>
                  opS P (S.bi .append #[40, 40] 40 [x25, x24]) fun x26 =>
                  opS P (S.nc x0) fun x27 =>
                  opS P (S.fa 42 x27 2) fun x28 =>
                  opS P (S.st 40 x28 x26) fun x29 =>
                  j0
                )
              )
            ) (
              opS P (S.ld 36 x3) fun x21 =>
              opS P (S.build 48 [(0, x20), (1, x21), (2, x2)]) fun x22 =>
              allW (
                opS P (S.buildS 40 0 []) fun x23 =>
                allW (
                  opS P (S.bi .append #[40, 40] 40 [x23, x19]) fun x24 =>
                  opS P (S.buildS 40 1 [(0, x22)]) fun x25 =>
                  opS P (S.bi .append #[40, 40] 40 [x24, x25]) fun x26 =>
                  opS P (S.nc x0) fun x27 =>
                  opS P (S.fa 42 x27 2) fun x28 =>
                  opS P (S.st 40 x28 x26) fun x29 =>
                  j0
                ) (
                  opS P (S.buildS 40 1 [(0, x22)]) fun x24 =>
                  opS P (S.bi .append #[40, 40] 40 [x23, x19]) fun x25 =>
                  opS P (S.bi .append #[40, 40] 40 [x25, x24]) fun x26 =>
                  opS P (S.nc x0) fun x27 =>
                  opS P (S.fa 42 x27 2) fun x28 =>
                  opS P (S.st 40 x28 x26) fun x29 =>
                  j0
                )
              ) (
                opS P (S.buildS 40 1 [(0, x22)]) fun x23 =>
                opS P (S.buildS 40 0 []) fun x24 =>
                opS P (S.bi .append #[40, 40] 40 [x24, x19]) fun x25 =>
                opS P (S.bi .append #[40, 40] 40 [x25, x23]) fun x26 =>
                opS P (S.nc x0) fun x27 =>
                opS P (S.fa 42 x27 2) fun x28 =>
                opS P (S.st 40 x28 x26) fun x29 =>
                j0
              )
            )
          ) (
            opS P (S.ld 36 x3) fun x20 =>
            allW (
              opS P (S.buildS 40 0 []) fun x21 =>
              allW (
                opS P (S.bi .append #[40, 40] 40 [x21, x19]) fun x22 =>
                opS P (S.ld 3 x18) fun x23 =>
                opS P (S.build 48 [(0, x23), (1, x20), (2, x2)]) fun x24 =>
                opS P (S.buildS 40 1 [(0, x24)]) fun x25 =>
                opS P (S.bi .append #[40, 40] 40 [x22, x25]) fun x26 =>
                opS P (S.nc x0) fun x27 =>
                opS P (S.fa 42 x27 2) fun x28 =>
                opS P (S.st 40 x28 x26) fun x29 =>
                j0
              ) (
                opS P (S.ld 3 x18) fun x22 =>
                opS P (S.build 48 [(0, x22), (1, x20), (2, x2)]) fun x23 =>
                allW (
                  opS P (S.bi .append #[40, 40] 40 [x21, x19]) fun x24 =>
                  opS P (S.buildS 40 1 [(0, x23)]) fun x25 =>
                  opS P (S.bi .append #[40, 40] 40 [x24, x25]) fun x26 =>
                  opS P (S.nc x0) fun x27 =>
                  opS P (S.fa 42 x27 2) fun x28 =>
                  opS P (S.st 40 x28 x26) fun x29 =>
                  j0
                ) (
                  opS P (S.buildS 40 1 [(0, x23)]) fun x24 =>
                  opS P (S.bi .append #[40, 40] 40 [x21, x19]) fun x25 =>
                  opS P (S.bi .append #[40, 40] 40 [x25, x24]) fun x26 =>
                  opS P (S.nc x0) fun x27 =>
                  opS P (S.fa 42 x27 2) fun x28 =>
                  opS P (S.st 40 x28 x26) fun x29 =>
                  j0
                )
              )
            ) (
              opS P (S.ld 3 x18) fun x21 =>
              opS P (S.build 48 [(0, x21), (1, x20), (2, x2)]) fun x22 =>
              allW (
                opS P (S.buildS 40 0 []) fun x23 =>
                allW (
                  opS P (S.bi .append #[40, 40] 40 [x23, x19]) fun x24 =>
                  opS P (S.buildS 40 1 [(0, x22)]) fun x25 =>
                  opS P (S.bi .append #[40, 40] 40 [x24, x25]) fun x26 =>
                  opS P (S.nc x0) fun x27 =>
                  opS P (S.fa 42 x27 2) fun x28 =>
                  opS P (S.st 40 x28 x26) fun x29 =>
                  j0
                ) (
                  opS P (S.buildS 40 1 [(0, x22)]) fun x24 =>
                  opS P (S.bi .append #[40, 40] 40 [x23, x19]) fun x25 =>
                  opS P (S.bi .append #[40, 40] 40 [x25, x24]) fun x26 =>
                  opS P (S.nc x0) fun x27 =>
                  opS P (S.fa 42 x27 2) fun x28 =>
                  opS P (S.st 40 x28 x26) fun x29 =>
                  j0
                )
              ) (
                opS P (S.buildS 40 1 [(0, x22)]) fun x23 =>
                opS P (S.buildS 40 0 []) fun x24 =>
                opS P (S.bi .append #[40, 40] 40 [x24, x19]) fun x25 =>
                opS P (S.bi .append #[40, 40] 40 [x25, x23]) fun x26 =>
                opS P (S.nc x0) fun x27 =>
                opS P (S.fa 42 x27 2) fun x28 =>
                opS P (S.st 40 x28 x26) fun x29 =>
                j0
              )
            )
          )
        )
      ) (
        allW (
          opS P (S.ld 3 x18) fun x19 =>
          allW (
            opS P (S.buildS 40 0 []) fun x20 =>
            allW (
              opS P (S.ld 40 x16) fun x21 =>
              allW (
                opS P (S.bi .append #[40, 40] 40 [x20, x21]) fun x22 =>
                opS P (S.ld 36 x3) fun x23 =>
                opS P (S.build 48 [(0, x19), (1, x23), (2, x2)]) fun x24 =>
                opS P (S.buildS 40 1 [(0, x24)]) fun x25 =>
                opS P (S.bi .append #[40, 40] 40 [x22, x25]) fun x26 =>
                opS P (S.nc x0) fun x27 =>
                opS P (S.fa 42 x27 2) fun x28 =>
                opS P (S.st 40 x28 x26) fun x29 =>
                j0
              ) (
                opS P (S.ld 36 x3) fun x22 =>
                opS P (S.build 48 [(0, x19), (1, x22), (2, x2)]) fun x23 =>
                allW (
                  opS P (S.bi .append #[40, 40] 40 [x20, x21]) fun x24 =>
                  opS P (S.buildS 40 1 [(0, x23)]) fun x25 =>
                  opS P (S.bi .append #[40, 40] 40 [x24, x25]) fun x26 =>
                  opS P (S.nc x0) fun x27 =>
                  opS P (S.fa 42 x27 2) fun x28 =>
                  opS P (S.st 40 x28 x26) fun x29 =>
                  j0
                ) (
                  opS P (S.buildS 40 1 [(0, x23)]) fun x24 =>
                  opS P (S.bi .append #[40, 40] 40 [x20, x21]) fun x25 =>
                  opS P (S.bi .append #[40, 40] 40 [x25, x24]) fun x26 =>
                  opS P (S.nc x0) fun x27 =>
                  opS P (S.fa 42 x27 2) fun x28 =>
                  opS P (S.st 40 x28 x26) fun x29 =>
                  j0
                )
              )
            ) (
              opS P (S.ld 36 x3) fun x21 =>
              opS P (S.build 48 [(0, x19), (1, x21), (2, x2)]) fun x22 =>
              allW (
                opS P (S.ld 40 x16) fun x23 =>
                allW (
                  opS P (S.bi .append #[40, 40] 40 [x20, x23]) fun x24 =>
                  opS P (S.buildS 40 1 [(0, x22)]) fun x25 =>
                  opS P (S.bi .append #[40, 40] 40 [x24, x25]) fun x26 =>
                  opS P (S.nc x0) fun x27 =>
                  opS P (S.fa 42 x27 2) fun x28 =>
                  opS P (S.st 40 x28 x26) fun x29 =>
                  j0
                ) (
                  opS P (S.buildS 40 1 [(0, x22)]) fun x24 =>
                  opS P (S.bi .append #[40, 40] 40 [x20, x23]) fun x25 =>
                  opS P (S.bi .append #[40, 40] 40 [x25, x24]) fun x26 =>
                  opS P (S.nc x0) fun x27 =>
                  opS P (S.fa 42 x27 2) fun x28 =>
                  opS P (S.st 40 x28 x26) fun x29 =>
                  j0
                )
              ) (
                opS P (S.buildS 40 1 [(0, x22)]) fun x23 =>
                opS P (S.ld 40 x16) fun x24 =>
                opS P (S.bi .append #[40, 40] 40 [x20, x24]) fun x25 =>
                opS P (S.bi .append #[40, 40] 40 [x25, x23]) fun x26 =>
                opS P (S.nc x0) fun x27 =>
                opS P (S.fa 42 x27 2) fun x28 =>
                opS P (S.st 40 x28 x26) fun x29 =>
                j0
              )
            )
          ) (
            allW (
              opS P (S.ld 40 x16) fun x20 =>
              allW (
                opS P (S.buildS 40 0 []) fun x21 =>
                allW (
                  opS P (S.bi .append #[40, 40] 40 [x21, x20]) fun x22 =>
                  opS P (S.ld 36 x3) fun x23 =>
                  opS P (S.build 48 [(0, x19), (1, x23), (2, x2)]) fun x24 =>
                  opS P (S.buildS 40 1 [(0, x24)]) fun x25 =>
                  opS P (S.bi .append #[40, 40] 40 [x22, x25]) fun x26 =>
                  opS P (S.nc x0) fun x27 =>
                  opS P (S.fa 42 x27 2) fun x28 =>
                  opS P (S.st 40 x28 x26) fun x29 =>
                  j0
                ) (
                  opS P (S.ld 36 x3) fun x22 =>
                  opS P (S.build 48 [(0, x19), (1, x22), (2, x2)]) fun x23 =>
                  allW (
                    opS P (S.bi .append #[40, 40] 40 [x21, x20]) fun x24 =>
                    opS P (S.buildS 40 1 [(0, x23)]) fun x25 =>
                    opS P (S.bi .append #[40, 40] 40 [x24, x25]) fun x26 =>
                    opS P (S.nc x0) fun x27 =>
                    opS P (S.fa 42 x27 2) fun x28 =>
                    opS P (S.st 40 x28 x26) fun x29 =>
                    j0
                  ) (
                    opS P (S.buildS 40 1 [(0, x23)]) fun x24 =>
                    opS P (S.bi .append #[40, 40] 40 [x21, x20]) fun x25 =>
                    opS P (S.bi .append #[40, 40] 40 [x25, x24]) fun x26 =>
                    opS P (S.nc x0) fun x27 =>
                    opS P (S.fa 42 x27 2) fun x28 =>
                    opS P (S.st 40 x28 x26) fun x29 =>
                    j0
                  )
                )
              ) (
                opS P (S.ld 36 x3) fun x21 =>
                opS P (S.build 48 [(0, x19), (1, x21), (2, x2)]) fun x22 =>
                allW (
                  opS P (S.buildS 40 0 []) fun x23 =>
                  allW (
                    opS P (S.bi .append #[40, 40] 40 [x23, x20]) fun x24 =>
                    opS P (S.buildS 40 1 [(0, x22)]) fun x25 =>
                    opS P (S.bi .append #[40, 40] 40 [x24, x25]) fun x26 =>
                    opS P (S.nc x0) fun x27 =>
                    opS P (S.fa 42 x27 2) fun x28 =>
                    opS P (S.st 40 x28 x26) fun x29 =>
                    j0
                  ) (
                    opS P (S.buildS 40 1 [(0, x22)]) fun x24 =>
                    opS P (S.bi .append #[40, 40] 40 [x23, x20]) fun x25 =>
                    opS P (S.bi .append #[40, 40] 40 [x25, x24]) fun x26 =>
                    opS P (S.nc x0) fun x27 =>
                    opS P (S.fa 42 x27 2) fun x28 =>
                    opS P (S.st 40 x28 x26) fun x29 =>
                    j0
                  )
                ) (
                  opS P (S.buildS 40 1 [(0, x22)]) fun x23 =>
                  opS P (S.buildS 40 0 []) fun x24 =>
                  opS P (S.bi .append #[40, 40] 40 [x24, x20]) fun x25 =>
                  opS P (S.bi .append #[40, 40] 40 [x25, x23]) fun x26 =>
                  opS P (S.nc x0) fun x27 =>
                  opS P (S.fa 42 x27 2) fun x28 =>
                  opS P (S.st 40 x28 x26) fun x29 =>
                  j0
                )
              )
            ) (
              opS P (S.ld 36 x3) fun x20 =>
              opS P (S.build 48 [(0, x19), (1, x20), (2, x2)]) fun x21 =>
              allW (
                opS P (S.buildS 40 0 []) fun x22 =>
                allW (
                  opS P (S.ld 40 x16) fun x23 =>
                  allW (
                    opS P (S.bi .append #[40, 40] 40 [x22, x23]) fun x24 =>
                    opS P (S.buildS 40 1 [(0, x21)]) fun x25 =>
                    opS P (S.bi .append #[40, 40] 40 [x24, x25]) fun x26 =>
                    opS P (S.nc x0) fun x27 =>
                    opS P (S.fa 42 x27 2) fun x28 =>
                    opS P (S.st 40 x28 x26) fun x29 =>
                    j0
                  ) (
                    opS P (S.buildS 40 1 [(0, x21)]) fun x24 =>
                    opS P (S.bi .append #[40, 40] 40 [x22, x23]) fun x25 =>
                    opS P (S.bi .append #[40, 40] 40 [x25, x24]) fun x26 =>
                    opS P (S.nc x0) fun x27 =>
                    opS P (S.fa 42 x27 2) fun x28 =>
                    opS P (S.st 40 x28 x26) fun x29 =>
                    j0
                  )
                ) (
                  opS P (S.buildS 40 1 [(0, x21)]) fun x23 =>
                  opS P (S.ld 40 x16) fun x24 =>
                  opS P (S.bi .append #[40, 40] 40 [x22, x24]) fun x25 =>
                  opS P (S.bi .append #[40, 40] 40 [x25, x23]) fun x26 =>
                  opS P (S.nc x0) fun x27 =>
                  opS P (S.fa 42 x27 2) fun x28 =>
                  opS P (S.st 40 x28 x26) fun x29 =>
                  j0
                )
              ) (
                allW (
                  opS P (S.ld 40 x16) fun x22 =>
                  allW (
                    opS P (S.buildS 40 0 []) fun x23 =>
                    allW (
                      opS P (S.bi .append #[40, 40] 40 [x23, x22]) fun x24 =>
                      opS P (S.buildS 40 1 [(0, x21)]) fun x25 =>
                      opS P (S.bi .append #[40, 40] 40 [x24, x25]) fun x26 =>
                      opS P (S.nc x0) fun x27 =>
                      opS P (S.fa 42 x27 2) fun x28 =>
                      opS P (S.st 40 x28 x26) fun x29 =>
                      j0
                    ) (
                      opS P (S.buildS 40 1 [(0, x21)]) fun x24 =>
                      opS P (S.bi .append #[40, 40] 40 [x23, x22]) fun x25 =>
                      opS P (S.bi .append #[40, 40] 40 [x25, x24]) fun x26 =>
                      opS P (S.nc x0) fun x27 =>
                      opS P (S.fa 42 x27 2) fun x28 =>
                      opS P (S.st 40 x28 x26) fun x29 =>
                      j0
                    )
                  ) (
                    opS P (S.buildS 40 1 [(0, x21)]) fun x23 =>
                    opS P (S.buildS 40 0 []) fun x24 =>
                    opS P (S.bi .append #[40, 40] 40 [x24, x22]) fun x25 =>
                    opS P (S.bi .append #[40, 40] 40 [x25, x23]) fun x26 =>
                    opS P (S.nc x0) fun x27 =>
                    opS P (S.fa 42 x27 2) fun x28 =>
                    opS P (S.st 40 x28 x26) fun x29 =>
                    j0
                  )
                ) (
                  opS P (S.buildS 40 1 [(0, x21)]) fun x22 =>
                  allW (
                    opS P (S.buildS 40 0 []) fun x23 =>
                    opS P (S.ld 40 x16) fun x24 =>
                    opS P (S.bi .append #[40, 40] 40 [x23, x24]) fun x25 =>
                    opS P (S.bi .append #[40, 40] 40 [x25, x22]) fun x26 =>
                    opS P (S.nc x0) fun x27 =>
                    opS P (S.fa 42 x27 2) fun x28 =>
                    opS P (S.st 40 x28 x26) fun x29 =>
                    j0
                  ) (
                    opS P (S.ld 40 x16) fun x23 =>
                    opS P (S.buildS 40 0 []) fun x24 =>
                    opS P (S.bi .append #[40, 40] 40 [x24, x23]) fun x25 =>
                    opS P (S.bi .append #[40, 40] 40 [x25, x22]) fun x26 =>
                    opS P (S.nc x0) fun x27 =>
                    opS P (S.fa 42 x27 2) fun x28 =>
                    opS P (S.st 40 x28 x26) fun x29 =>
                    j0
                  )
                )
              )
            )
          )
        ) (
          opS P (S.ld 36 x3) fun x19 =>
          allW (
            opS P (S.buildS 40 0 []) fun x20 =>
            allW (
              opS P (S.ld 40 x16) fun x21 =>
              allW (
                opS P (S.bi .append #[40, 40] 40 [x20, x21]) fun x22 =>
                opS P (S.ld 3 x18) fun x23 =>
                opS P (S.build 48 [(0, x23), (1, x19), (2, x2)]) fun x24 =>
                opS P (S.buildS 40 1 [(0, x24)]) fun x25 =>
                opS P (S.bi .append #[40, 40] 40 [x22, x25]) fun x26 =>
                opS P (S.nc x0) fun x27 =>
                opS P (S.fa 42 x27 2) fun x28 =>
                opS P (S.st 40 x28 x26) fun x29 =>
                j0
              ) (
                opS P (S.ld 3 x18) fun x22 =>
                opS P (S.build 48 [(0, x22), (1, x19), (2, x2)]) fun x23 =>
                allW (
                  opS P (S.bi .append #[40, 40] 40 [x20, x21]) fun x24 =>
                  opS P (S.buildS 40 1 [(0, x23)]) fun x25 =>
                  opS P (S.bi .append #[40, 40] 40 [x24, x25]) fun x26 =>
                  opS P (S.nc x0) fun x27 =>
                  opS P (S.fa 42 x27 2) fun x28 =>
                  opS P (S.st 40 x28 x26) fun x29 =>
                  j0
                ) (
                  opS P (S.buildS 40 1 [(0, x23)]) fun x24 =>
                  opS P (S.bi .append #[40, 40] 40 [x20, x21]) fun x25 =>
                  opS P (S.bi .append #[40, 40] 40 [x25, x24]) fun x26 =>
                  opS P (S.nc x0) fun x27 =>
                  opS P (S.fa 42 x27 2) fun x28 =>
                  opS P (S.st 40 x28 x26) fun x29 =>
                  j0
                )
              )
            ) (
              opS P (S.ld 3 x18) fun x21 =>
              opS P (S.build 48 [(0, x21), (1, x19), (2, x2)]) fun x22 =>
              allW (
                opS P (S.ld 40 x16) fun x23 =>
                allW (
                  opS P (S.bi .append #[40, 40] 40 [x20, x23]) fun x24 =>
                  opS P (S.buildS 40 1 [(0, x22)]) fun x25 =>
                  opS P (S.bi .append #[40, 40] 40 [x24, x25]) fun x26 =>
                  opS P (S.nc x0) fun x27 =>
                  opS P (S.fa 42 x27 2) fun x28 =>
                  opS P (S.st 40 x28 x26) fun x29 =>
                  j0
                ) (
                  opS P (S.buildS 40 1 [(0, x22)]) fun x24 =>
                  opS P (S.bi .append #[40, 40] 40 [x20, x23]) fun x25 =>
                  opS P (S.bi .append #[40, 40] 40 [x25, x24]) fun x26 =>
                  opS P (S.nc x0) fun x27 =>
                  opS P (S.fa 42 x27 2) fun x28 =>
                  opS P (S.st 40 x28 x26) fun x29 =>
                  j0
                )
              ) (
                opS P (S.buildS 40 1 [(0, x22)]) fun x23 =>
                opS P (S.ld 40 x16) fun x24 =>
                opS P (S.bi .append #[40, 40] 40 [x20, x24]) fun x25 =>
                opS P (S.bi .append #[40, 40] 40 [x25, x23]) fun x26 =>
                opS P (S.nc x0) fun x27 =>
                opS P (S.fa 42 x27 2) fun x28 =>
                opS P (S.st 40 x28 x26) fun x29 =>
                j0
              )
            )
          ) (
            allW (
              opS P (S.ld 40 x16) fun x20 =>
              allW (
                opS P (S.buildS 40 0 []) fun x21 =>
                allW (
                  opS P (S.bi .append #[40, 40] 40 [x21, x20]) fun x22 =>
                  opS P (S.ld 3 x18) fun x23 =>
                  opS P (S.build 48 [(0, x23), (1, x19), (2, x2)]) fun x24 =>
                  opS P (S.buildS 40 1 [(0, x24)]) fun x25 =>
                  opS P (S.bi .append #[40, 40] 40 [x22, x25]) fun x26 =>
                  opS P (S.nc x0) fun x27 =>
                  opS P (S.fa 42 x27 2) fun x28 =>
                  opS P (S.st 40 x28 x26) fun x29 =>
                  j0
                ) (
                  opS P (S.ld 3 x18) fun x22 =>
                  opS P (S.build 48 [(0, x22), (1, x19), (2, x2)]) fun x23 =>
                  allW (
                    opS P (S.bi .append #[40, 40] 40 [x21, x20]) fun x24 =>
                    opS P (S.buildS 40 1 [(0, x23)]) fun x25 =>
                    opS P (S.bi .append #[40, 40] 40 [x24, x25]) fun x26 =>
                    opS P (S.nc x0) fun x27 =>
                    opS P (S.fa 42 x27 2) fun x28 =>
                    opS P (S.st 40 x28 x26) fun x29 =>
                    j0
                  ) (
                    opS P (S.buildS 40 1 [(0, x23)]) fun x24 =>
                    opS P (S.bi .append #[40, 40] 40 [x21, x20]) fun x25 =>
                    opS P (S.bi .append #[40, 40] 40 [x25, x24]) fun x26 =>
                    opS P (S.nc x0) fun x27 =>
                    opS P (S.fa 42 x27 2) fun x28 =>
                    opS P (S.st 40 x28 x26) fun x29 =>
                    j0
                  )
                )
              ) (
                opS P (S.ld 3 x18) fun x21 =>
                opS P (S.build 48 [(0, x21), (1, x19), (2, x2)]) fun x22 =>
                allW (
                  opS P (S.buildS 40 0 []) fun x23 =>
                  allW (
                    opS P (S.bi .append #[40, 40] 40 [x23, x20]) fun x24 =>
                    opS P (S.buildS 40 1 [(0, x22)]) fun x25 =>
                    opS P (S.bi .append #[40, 40] 40 [x24, x25]) fun x26 =>
                    opS P (S.nc x0) fun x27 =>
                    opS P (S.fa 42 x27 2) fun x28 =>
                    opS P (S.st 40 x28 x26) fun x29 =>
                    j0
                  ) (
                    opS P (S.buildS 40 1 [(0, x22)]) fun x24 =>
                    opS P (S.bi .append #[40, 40] 40 [x23, x20]) fun x25 =>
                    opS P (S.bi .append #[40, 40] 40 [x25, x24]) fun x26 =>
                    opS P (S.nc x0) fun x27 =>
                    opS P (S.fa 42 x27 2) fun x28 =>
                    opS P (S.st 40 x28 x26) fun x29 =>
                    j0
                  )
                ) (
                  opS P (S.buildS 40 1 [(0, x22)]) fun x23 =>
                  opS P (S.buildS 40 0 []) fun x24 =>
                  opS P (S.bi .append #[40, 40] 40 [x24, x20]) fun x25 =>
                  opS P (S.bi .append #[40, 40] 40 [x25, x23]) fun x26 =>
                  opS P (S.nc x0) fun x27 =>
                  opS P (S.fa 42 x27 2) fun x28 =>
                  opS P (S.st 40 x28 x26) fun x29 =>
                  j0
                )
              )
            ) (
              opS P (S.ld 3 x18) fun x20 =>
              opS P (S.build 48 [(0, x20), (1, x19), (2, x2)]) fun x21 =>
              allW (
                opS P (S.buildS 40 0 []) fun x22 =>
                allW (
                  opS P (S.ld 40 x16) fun x23 =>
                  allW (
                    opS P (S.bi .append #[40, 40] 40 [x22, x23]) fun x24 =>
                    opS P (S.buildS 40 1 [(0, x21)]) fun x25 =>
                    opS P (S.bi .append #[40, 40] 40 [x24, x25]) fun x26 =>
                    opS P (S.nc x0) fun x27 =>
                    opS P (S.fa 42 x27 2) fun x28 =>
                    opS P (S.st 40 x28 x26) fun x29 =>
                    j0
                  ) (
                    opS P (S.buildS 40 1 [(0, x21)]) fun x24 =>
                    opS P (S.bi .append #[40, 40] 40 [x22, x23]) fun x25 =>
                    opS P (S.bi .append #[40, 40] 40 [x25, x24]) fun x26 =>
                    opS P (S.nc x0) fun x27 =>
                    opS P (S.fa 42 x27 2) fun x28 =>
                    opS P (S.st 40 x28 x26) fun x29 =>
                    j0
                  )
                ) (
                  opS P (S.buildS 40 1 [(0, x21)]) fun x23 =>
                  opS P (S.ld 40 x16) fun x24 =>
                  opS P (S.bi .append #[40, 40] 40 [x22, x24]) fun x25 =>
                  opS P (S.bi .append #[40, 40] 40 [x25, x23]) fun x26 =>
                  opS P (S.nc x0) fun x27 =>
                  opS P (S.fa 42 x27 2) fun x28 =>
                  opS P (S.st 40 x28 x26) fun x29 =>
                  j0
                )
              ) (
                allW (
                  opS P (S.ld 40 x16) fun x22 =>
                  allW (
                    opS P (S.buildS 40 0 []) fun x23 =>
                    allW (
                      opS P (S.bi .append #[40, 40] 40 [x23, x22]) fun x24 =>
                      opS P (S.buildS 40 1 [(0, x21)]) fun x25 =>
                      opS P (S.bi .append #[40, 40] 40 [x24, x25]) fun x26 =>
                      opS P (S.nc x0) fun x27 =>
                      opS P (S.fa 42 x27 2) fun x28 =>
                      opS P (S.st 40 x28 x26) fun x29 =>
                      j0
                    ) (
                      opS P (S.buildS 40 1 [(0, x21)]) fun x24 =>
                      opS P (S.bi .append #[40, 40] 40 [x23, x22]) fun x25 =>
                      opS P (S.bi .append #[40, 40] 40 [x25, x24]) fun x26 =>
                      opS P (S.nc x0) fun x27 =>
                      opS P (S.fa 42 x27 2) fun x28 =>
                      opS P (S.st 40 x28 x26) fun x29 =>
                      j0
                    )
                  ) (
                    opS P (S.buildS 40 1 [(0, x21)]) fun x23 =>
                    opS P (S.buildS 40 0 []) fun x24 =>
                    opS P (S.bi .append #[40, 40] 40 [x24, x22]) fun x25 =>
                    opS P (S.bi .append #[40, 40] 40 [x25, x23]) fun x26 =>
                    opS P (S.nc x0) fun x27 =>
                    opS P (S.fa 42 x27 2) fun x28 =>
                    opS P (S.st 40 x28 x26) fun x29 =>
                    j0
                  )
                ) (
                  opS P (S.buildS 40 1 [(0, x21)]) fun x22 =>
                  allW (
                    opS P (S.buildS 40 0 []) fun x23 =>
                    opS P (S.ld 40 x16) fun x24 =>
                    opS P (S.bi .append #[40, 40] 40 [x23, x24]) fun x25 =>
                    opS P (S.bi .append #[40, 40] 40 [x25, x22]) fun x26 =>
                    opS P (S.nc x0) fun x27 =>
                    opS P (S.fa 42 x27 2) fun x28 =>
                    opS P (S.st 40 x28 x26) fun x29 =>
                    j0
                  ) (
                    opS P (S.ld 40 x16) fun x23 =>
                    opS P (S.buildS 40 0 []) fun x24 =>
                    opS P (S.bi .append #[40, 40] 40 [x24, x23]) fun x25 =>
                    opS P (S.bi .append #[40, 40] 40 [x25, x22]) fun x26 =>
                    opS P (S.nc x0) fun x27 =>
                    opS P (S.fa 42 x27 2) fun x28 =>
                    opS P (S.st 40 x28 x26) fun x29 =>
                    j0
                  )
                )
              )
            )
          )
        )
      )
    )
  )
instance fnb13 : FnB Try.prog 13 := ⟨Try.call13⟩
theorem e13 : p13 Try.prog = fun K x0 x1 x2 => denF Try.prog Try.f13 [x0, x1, x2] K := by kernel_rfl
theorem c13 {K : Value → World → Prop} {x0 x1 x2 : Value} {w : World} (h : p13 Try.prog K x0 x1 x2 w) : CallsR Try.prog 13 #[x0, x1, x2] K w := by
  rw [e13] at h
  exact denF_sound mixed Try.func13 h

end Go.Gx.S
-- 11 13
