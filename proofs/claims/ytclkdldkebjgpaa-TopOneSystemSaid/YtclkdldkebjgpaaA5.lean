/- Own texts, put together. -/
import Derived.Test.YtclkdldkebjgpaaA4
import Derived.Test.YtclkdldkebjgpaaA1
import Derived.Test.YtclkdldkebjgpaaA3
import Derived.Test.YtclkdldkebjgpaaA2
import Derived.Defers
import Derived.DefersIn
import Derived.RecoverIn
import Derived.TacticsInMore
section
/- What the functions of this program ask. -/
set_option linter.unusedVariables false
set_option maxRecDepth 100000
namespace Go.Gx.S
open Go Go.Gx Go.Proofs
-- gemel/lacpdu.Encode
def p61 (P : Program) (K : Value → World → Prop) (x0 : Value) : World → Prop :=
  opS P (S.box 123 x0) fun x1 =>
  opS P (S.ld 123 x1) fun x2 =>
  opS P (S.cl 80 [x2]) fun x3 =>
  opS P (S.un .not x3) fun x4 =>
  brn x4 (
    K (.tuple #[(.slice none 0 0), (.int .i64 1)])
  ) (
    opS P (S.buildS 126 2 [(0, (.int .u8 1)), (1, (.int .u8 1))]) fun x5 =>
    opS P (S.fa 123 x1 0) fun x6 =>
    opS P (S.ld 107 x6) fun x7 =>
    opS P (S.cl 93 [x5, (.int .u8 1), x7]) fun x8 =>
    opS P (S.fa 123 x1 1) fun x9 =>
    opS P (S.ld 107 x9) fun x10 =>
    opS P (S.cl 93 [x8, (.int .u8 2), x10]) fun x11 =>
    drw <|
    opS P (S.fa 123 x1 2) fun x12 =>
    allW (
      opS P (S.buildS 126 2 [(0, (.int .u8 3)), (1, (.int .u8 16))]) fun x13 =>
      allW (
        opS P (S.bi .append #[126, 126] 126 [x11, x13]) fun x14 =>
        opS P (S.ld 3 x12) fun x15 =>
        opS P (S.cl 94 [x14, x15]) fun x16 =>
        opS P (S.bi .append #[126, 3] 126 [x16, (.int .i64 64)]) fun x17 =>
        K (.tuple #[x17, (.int .i64 0)])
      ) (
        opS P (S.ld 3 x12) fun x14 =>
        opS P (S.bi .append #[126, 126] 126 [x11, x13]) fun x15 =>
        opS P (S.cl 94 [x15, x14]) fun x16 =>
        opS P (S.bi .append #[126, 3] 126 [x16, (.int .i64 64)]) fun x17 =>
        K (.tuple #[x17, (.int .i64 0)])
      )
    ) (
      opS P (S.ld 3 x12) fun x13 =>
      opS P (S.buildS 126 2 [(0, (.int .u8 3)), (1, (.int .u8 16))]) fun x14 =>
      opS P (S.bi .append #[126, 126] 126 [x11, x14]) fun x15 =>
      opS P (S.cl 94 [x15, x13]) fun x16 =>
      opS P (S.bi .append #[126, 3] 126 [x16, (.int .i64 64)]) fun x17 =>
      K (.tuple #[x17, (.int .i64 0)])
    )
  )
instance fnb61 : FnB Try.prog 61 := ⟨Try.call61⟩
theorem e61 : p61 Try.prog = fun K x0 => denF Try.prog Try.f61 [x0] K := by kernel_rfl
theorem c61 {K : Value → World → Prop} {x0 : Value} {w : World} (h : p61 Try.prog K x0 w) : CallsR Try.prog 61 #[x0] K w := by
  rw [e61] at h
  exact denF_sound mixed Try.func61 h

-- gemel/lacpdu.putInfo
def p93 (P : Program) (K : Value → World → Prop) (x0 : Value) (x1 : Value) (x2 : Value) : World → Prop :=
  opS P (S.box 107 x2) fun x3 =>
  jnJ 1 (fun x4 =>
    jnJ 1 (fun x5 =>
      drw <|
      opS P (S.fa 107 x3 3) fun x6 =>
      opS P (S.fa 107 x3 4) fun x7 =>
      opS P (S.fa 107 x3 5) fun x8 =>
      allW (
        opS P (S.ld 3 x6) fun x9 =>
        allW (
          opS P (S.cl 94 [x5, x9]) fun x10 =>
          allW (
            opS P (S.ld 3 x7) fun x11 =>
            allW (
              opS P (S.cl 94 [x10, x11]) fun x12 =>
              opS P (S.ld 3 x8) fun x13 =>
              opS P (S.convI .u8 x13) fun x14 =>
              opS P (S.buildS 126 1 [(0, x14)]) fun x15 =>
              opS P (S.bi .append #[126, 126] 126 [x12, x15]) fun x16 =>
              opS P (S.bi .append #[126, 3] 126 [x16, (.int .i64 3)]) fun x17 =>
              K x17
            ) (
              opS P (S.ld 3 x8) fun x12 =>
              opS P (S.convI .u8 x12) fun x13 =>
              allW (
                opS P (S.cl 94 [x10, x11]) fun x14 =>
                opS P (S.buildS 126 1 [(0, x13)]) fun x15 =>
                opS P (S.bi .append #[126, 126] 126 [x14, x15]) fun x16 =>
                opS P (S.bi .append #[126, 3] 126 [x16, (.int .i64 3)]) fun x17 =>
                K x17
              ) (
                opS P (S.buildS 126 1 [(0, x13)]) fun x14 =>
                opS P (S.cl 94 [x10, x11]) fun x15 =>
                opS P (S.bi .append #[126, 126] 126 [x15, x14]) fun x16 =>
                opS P (S.bi .append #[126, 3] 126 [x16, (.int .i64 3)]) fun x17 =>
                K x17
              )
            )
          ) (
            opS P (S.ld 3 x8) fun x11 =>
            opS P (S.convI .u8 x11) fun x12 =>
            allW (
              opS P (S.ld 3 x7) fun x13 =>
              allW (
                opS P (S.cl 94 [x10, x13]) fun x14 =>
                opS P (S.buildS 126 1 [(0, x12)]) fun x15 =>
                opS P (S.bi .append #[126, 126] 126 [x14, x15]) fun x16 =>
                opS P (S.bi .append #[126, 3] 126 [x16, (.int .i64 3)]) fun x17 =>
                K x17
              ) (
                opS P (S.buildS 126 1 [(0, x12)]) fun x14 =>
                opS P (S.cl 94 [x10, x13]) fun x15 =>
                opS P (S.bi .append #[126, 126] 126 [x15, x14]) fun x16 =>
                opS P (S.bi .append #[126, 3] 126 [x16, (.int .i64 3)]) fun x17 =>
                K x17
              )
            ) (
              opS P (S.buildS 126 1 [(0, x12)]) fun x13 =>
              opS P (S.ld 3 x7) fun x14 =>
              opS P (S.cl 94 [x10, x14]) fun x15 =>
              opS P (S.bi .append #[126, 126] 126 [x15, x13]) fun x16 =>
              opS P (S.bi .append #[126, 3] 126 [x16, (.int .i64 3)]) fun x17 =>
              K x17
            )
          )
        ) (
          allW (
            opS P (S.ld 3 x7) fun x10 =>
            allW (
              opS P (S.cl 94 [x5, x9]) fun x11 =>
              allW (
                opS P (S.cl 94 [x11, x10]) fun x12 =>
                opS P (S.ld 3 x8) fun x13 =>
                opS P (S.convI .u8 x13) fun x14 =>
                opS P (S.buildS 126 1 [(0, x14)]) fun x15 =>
                opS P (S.bi .append #[126, 126] 126 [x12, x15]) fun x16 =>
                opS P (S.bi .append #[126, 3] 126 [x16, (.int .i64 3)]) fun x17 =>
                K x17
              ) (
                opS P (S.ld 3 x8) fun x12 =>
                opS P (S.convI .u8 x12) fun x13 =>
                allW (
                  opS P (S.cl 94 [x11, x10]) fun x14 =>
                  opS P (S.buildS 126 1 [(0, x13)]) fun x15 =>
                  opS P (S.bi .append #[126, 126] 126 [x14, x15]) fun x16 =>
                  opS P (S.bi .append #[126, 3] 126 [x16, (.int .i64 3)]) fun x17 =>
                  K x17
                ) (
                  opS P (S.buildS 126 1 [(0, x13)]) fun x14 =>
                  opS P (S.cl 94 [x11, x10]) fun x15 =>
                  opS P (S.bi .append #[126, 126] 126 [x15, x14]) fun x16 =>
                  opS P (S.bi .append #[126, 3] 126 [x16, (.int .i64 3)]) fun x17 =>
                  K x17
                )
              )
            ) (
              opS P (S.ld 3 x8) fun x11 =>
              opS P (S.convI .u8 x11) fun x12 =>
              allW (
                opS P (S.cl 94 [x5, x9]) fun x13 =>
                allW (
                  opS P (S.cl 94 [x13, x10]) fun x14 =>
                  opS P (S.buildS 126 1 [(0, x12)]) fun x15 =>
                  opS P (S.bi .append #[126, 126] 126 [x14, x15]) fun x16 =>
                  opS P (S.bi .append #[126, 3] 126 [x16, (.int .i64 3)]) fun x17 =>
                  K x17
                ) (
                  opS P (S.buildS 126 1 [(0, x12)]) fun x14 =>
                  opS P (S.cl 94 [x13, x10]) fun x15 =>
                  opS P (S.bi .append #[126, 126] 126 [x15, x14]) fun x16 =>
                  opS P (S.bi .append #[126, 3] 126 [x16, (.int .i64 3)]) fun x17 =>
                  K x17
                )
              ) (
                opS P (S.buildS 126 1 [(0, x12)]) fun x13 =>
                opS P (S.cl 94 [x5, x9]) fun x14 =>
                opS P (S.cl 94 [x14, x10]) fun x15 =>
                opS P (S.bi .append #[126, 126] 126 [x15, x13]) fun x16 =>
                opS P (S.bi .append #[126, 3] 126 [x16, (.int .i64 3)]) fun x17 =>
                K x17
              )
            )
          ) (
            opS P (S.ld 3 x8) fun x10 =>
            opS P (S.convI .u8 x10) fun x11 =>
            allW (
              opS P (S.cl 94 [x5, x9]) fun x12 =>
              allW (
                opS P (S.ld 3 x7) fun x13 =>
                allW (
                  opS P (S.cl 94 [x12, x13]) fun x14 =>
                  opS P (S.buildS 126 1 [(0, x11)]) fun x15 =>
                  opS P (S.bi .append #[126, 126] 126 [x14, x15]) fun x16 =>
                  opS P (S.bi .append #[126, 3] 126 [x16, (.int .i64 3)]) fun x17 =>
                  K x17
                ) (
                  opS P (S.buildS 126 1 [(0, x11)]) fun x14 =>
                  opS P (S.cl 94 [x12, x13]) fun x15 =>
                  opS P (S.bi .append #[126, 126] 126 [x15, x14]) fun x16 =>
                  opS P (S.bi .append #[126, 3] 126 [x16, (.int .i64 3)]) fun x17 =>
                  K x17
                )
              ) (
                opS P (S.buildS 126 1 [(0, x11)]) fun x13 =>
                opS P (S.ld 3 x7) fun x14 =>
                opS P (S.cl 94 [x12, x14]) fun x15 =>
                opS P (S.bi .append #[126, 126] 126 [x15, x13]) fun x16 =>
                opS P (S.bi .append #[126, 3] 126 [x16, (.int .i64 3)]) fun x17 =>
                K x17
              )
            ) (
              allW (
                opS P (S.ld 3 x7) fun x12 =>
                allW (
                  opS P (S.cl 94 [x5, x9]) fun x13 =>
                  allW (
                    opS P (S.cl 94 [x13, x12]) fun x14 =>
                    opS P (S.buildS 126 1 [(0, x11)]) fun x15 =>
                    opS P (S.bi .append #[126, 126] 126 [x14, x15]) fun x16 =>
                    opS P (S.bi .append #[126, 3] 126 [x16, (.int .i64 3)]) fun x17 =>
                    K x17
                  ) (
                    opS P (S.buildS 126 1 [(0, x11)]) fun x14 =>
                    opS P (S.cl 94 [x13, x12]) fun x15 =>
                    opS P (S.bi .append #[126, 126] 126 [x15, x14]) fun x16 =>
                    opS P (S.bi .append #[126, 3] 126 [x16, (.int .i64 3)]) fun x17 =>
                    K x17
                  )
                ) (
                  opS P (S.buildS 126 1 [(0, x11)]) fun x13 =>
                  opS P (S.cl 94 [x5, x9]) fun x14 =>
                  opS P (S.cl 94 [x14, x12]) fun x15 =>
                  opS P (S.bi .append #[126, 126] 126 [x15, x13]) fun x16 =>
                  opS P (S.bi .append #[126, 3] 126 [x16, (.int .i64 3)]) fun x17 =>
                  K x17
                )
              ) (
                opS P (S.buildS 126 1 [(0, x11)]) fun x12 =>
                allW (
                  opS P (S.cl 94 [x5, x9]) fun x13 =>
                  opS P (S.ld 3 x7) fun x14 =>
                  opS P (S.cl 94 [x13, x14]) fun x15 =>
                  opS P (S.bi .append #[126, 126] 126 [x15, x12]) fun x16 =>
                  opS P (S.bi .append #[126, 3] 126 [x16, (.int .i64 3)]) fun x17 =>
                  K x17
                ) (
                  opS P (S.ld 3 x7) fun x13 =>
                  opS P (S.cl 94 [x5, x9]) fun x14 =>
                  opS P (S.cl 94 [x14, x13]) fun x15 =>
                  opS P (S.bi .append #[126, 126] 126 [x15, x12]) fun x16 =>
                  opS P (S.bi .append #[126, 3] 126 [x16, (.int .i64 3)]) fun x17 =>
                  K x17
                )
              )
            )
          )
        )
      ) (
        allW (
          opS P (S.ld 3 x7) fun x9 =>
          allW (
            opS P (S.ld 3 x6) fun x10 =>
            allW (
              opS P (S.cl 94 [x5, x10]) fun x11 =>
              allW (
                opS P (S.cl 94 [x11, x9]) fun x12 =>
                opS P (S.ld 3 x8) fun x13 =>
                opS P (S.convI .u8 x13) fun x14 =>
                opS P (S.buildS 126 1 [(0, x14)]) fun x15 =>
                opS P (S.bi .append #[126, 126] 126 [x12, x15]) fun x16 =>
                opS P (S.bi .append #[126, 3] 126 [x16, (.int .i64 3)]) fun x17 =>
                K x17
              ) (
                opS P (S.ld 3 x8) fun x12 =>
                opS P (S.convI .u8 x12) fun x13 =>
                allW (
                  opS P (S.cl 94 [x11, x9]) fun x14 =>
                  opS P (S.buildS 126 1 [(0, x13)]) fun x15 =>
                  opS P (S.bi .append #[126, 126] 126 [x14, x15]) fun x16 =>
                  opS P (S.bi .append #[126, 3] 126 [x16, (.int .i64 3)]) fun x17 =>
                  K x17
                ) (
                  opS P (S.buildS 126 1 [(0, x13)]) fun x14 =>
                  opS P (S.cl 94 [x11, x9]) fun x15 =>
                  opS P (S.bi .append #[126, 126] 126 [x15, x14]) fun x16 =>
                  opS P (S.bi .append #[126, 3] 126 [x16, (.int .i64 3)]) fun x17 =>
                  K x17
                )
              )
            ) (
              opS P (S.ld 3 x8) fun x11 =>
              opS P (S.convI .u8 x11) fun x12 =>
              allW (
                opS P (S.cl 94 [x5, x10]) fun x13 =>
                allW (
                  opS P (S.cl 94 [x13, x9]) fun x14 =>
                  opS P (S.buildS 126 1 [(0, x12)]) fun x15 =>
                  opS P (S.bi .append #[126, 126] 126 [x14, x15]) fun x16 =>
                  opS P (S.bi .append #[126, 3] 126 [x16, (.int .i64 3)]) fun x17 =>
                  K x17
                ) (
                  opS P (S.buildS 126 1 [(0, x12)]) fun x14 =>
                  opS P (S.cl 94 [x13, x9]) fun x15 =>
                  opS P (S.bi .append #[126, 126] 126 [x15, x14]) fun x16 =>
                  opS P (S.bi .append #[126, 3] 126 [x16, (.int .i64 3)]) fun x17 =>
                  K x17
                )
              ) (
                opS P (S.buildS 126 1 [(0, x12)]) fun x13 =>
                opS P (S.cl 94 [x5, x10]) fun x14 =>
                opS P (S.cl 94 [x14, x9]) fun x15 =>
                opS P (S.bi .append #[126, 126] 126 [x15, x13]) fun x16 =>
                opS P (S.bi .append #[126, 3] 126 [x16, (.int .i64 3)]) fun x17 =>
                K x17
              )
            )
          ) (
            opS P (S.ld 3 x8) fun x10 =>
            opS P (S.convI .u8 x10) fun x11 =>
            allW (
              opS P (S.ld 3 x6) fun x12 =>
              allW (
                opS P (S.cl 94 [x5, x12]) fun x13 =>
                allW (
                  opS P (S.cl 94 [x13, x9]) fun x14 =>
                  opS P (S.buildS 126 1 [(0, x11)]) fun x15 =>
                  opS P (S.bi .append #[126, 126] 126 [x14, x15]) fun x16 =>
                  opS P (S.bi .append #[126, 3] 126 [x16, (.int .i64 3)]) fun x17 =>
                  K x17
                ) (
                  opS P (S.buildS 126 1 [(0, x11)]) fun x14 =>
                  opS P (S.cl 94 [x13, x9]) fun x15 =>
                  opS P (S.bi .append #[126, 126] 126 [x15, x14]) fun x16 =>
                  opS P (S.bi .append #[126, 3] 126 [x16, (.int .i64 3)]) fun x17 =>
                  K x17
                )
              ) (
                opS P (S.buildS 126 1 [(0, x11)]) fun x13 =>
                opS P (S.cl 94 [x5, x12]) fun x14 =>
                opS P (S.cl 94 [x14, x9]) fun x15 =>
                opS P (S.bi .append #[126, 126] 126 [x15, x13]) fun x16 =>
                opS P (S.bi .append #[126, 3] 126 [x16, (.int .i64 3)]) fun x17 =>
                K x17
              )
            ) (
              opS P (S.buildS 126 1 [(0, x11)]) fun x12 =>
              opS P (S.ld 3 x6) fun x13 =>
              opS P (S.cl 94 [x5, x13]) fun x14 =>
              opS P (S.cl 94 [x14, x9]) fun x15 =>
              opS P (S.bi .append #[126, 126] 126 [x15, x12]) fun x16 =>
              opS P (S.bi .append #[126, 3] 126 [x16, (.int .i64 3)]) fun x17 =>
              K x17
            )
          )
        ) (
          opS P (S.ld 3 x8) fun x9 =>
          opS P (S.convI .u8 x9) fun x10 =>
          allW (
            opS P (S.ld 3 x6) fun x11 =>
            allW (
              opS P (S.cl 94 [x5, x11]) fun x12 =>
              allW (
                opS P (S.ld 3 x7) fun x13 =>
                allW (
                  opS P (S.cl 94 [x12, x13]) fun x14 =>
                  opS P (S.buildS 126 1 [(0, x10)]) fun x15 =>
                  opS P (S.bi .append #[126, 126] 126 [x14, x15]) fun x16 =>
                  opS P (S.bi .append #[126, 3] 126 [x16, (.int .i64 3)]) fun x17 =>
                  K x17
                ) (
                  opS P (S.buildS 126 1 [(0, x10)]) fun x14 =>
                  opS P (S.cl 94 [x12, x13]) fun x15 =>
                  opS P (S.bi .append #[126, 126] 126 [x15, x14]) fun x16 =>
                  opS P (S.bi .append #[126, 3] 126 [x16, (.int .i64 3)]) fun x17 =>
                  K x17
                )
              ) (
                opS P (S.buildS 126 1 [(0, x10)]) fun x13 =>
                opS P (S.ld 3 x7) fun x14 =>
                opS P (S.cl 94 [x12, x14]) fun x15 =>
                opS P (S.bi .append #[126, 126] 126 [x15, x13]) fun x16 =>
                opS P (S.bi .append #[126, 3] 126 [x16, (.int .i64 3)]) fun x17 =>
                K x17
              )
            ) (
              allW (
                opS P (S.ld 3 x7) fun x12 =>
                allW (
                  opS P (S.cl 94 [x5, x11]) fun x13 =>
                  allW (
                    opS P (S.cl 94 [x13, x12]) fun x14 =>
                    opS P (S.buildS 126 1 [(0, x10)]) fun x15 =>
                    opS P (S.bi .append #[126, 126] 126 [x14, x15]) fun x16 =>
                    opS P (S.bi .append #[126, 3] 126 [x16, (.int .i64 3)]) fun x17 =>
                    K x17
                  ) (
                    opS P (S.buildS 126 1 [(0, x10)]) fun x14 =>
                    opS P (S.cl 94 [x13, x12]) fun x15 =>
                    opS P (S.bi .append #[126, 126] 126 [x15, x14]) fun x16 =>
                    opS P (S.bi .append #[126, 3] 126 [x16, (.int .i64 3)]) fun x17 =>
                    K x17
                  )
                ) (
                  opS P (S.buildS 126 1 [(0, x10)]) fun x13 =>
                  opS P (S.cl 94 [x5, x11]) fun x14 =>
                  opS P (S.cl 94 [x14, x12]) fun x15 =>
                  opS P (S.bi .append #[126, 126] 126 [x15, x13]) fun x16 =>
                  opS P (S.bi .append #[126, 3] 126 [x16, (.int .i64 3)]) fun x17 =>
                  K x17
                )
              ) (
                opS P (S.buildS 126 1 [(0, x10)]) fun x12 =>
                allW (
                  opS P (S.cl 94 [x5, x11]) fun x13 =>
                  opS P (S.ld 3 x7) fun x14 =>
                  opS P (S.cl 94 [x13, x14]) fun x15 =>
                  opS P (S.bi .append #[126, 126] 126 [x15, x12]) fun x16 =>
                  opS P (S.bi .append #[126, 3] 126 [x16, (.int .i64 3)]) fun x17 =>
                  K x17
                ) (
                  opS P (S.ld 3 x7) fun x13 =>
                  opS P (S.cl 94 [x5, x11]) fun x14 =>
                  opS P (S.cl 94 [x14, x13]) fun x15 =>
                  opS P (S.bi .append #[126, 126] 126 [x15, x12]) fun x16 =>
                  opS P (S.bi .append #[126, 3] 126 [x16, (.int .i64 3)]) fun x17 =>
                  K x17
                )
              )
            )
          ) (
            allW (
              opS P (S.ld 3 x7) fun x11 =>
              allW (
                opS P (S.ld 3 x6) fun x12 =>
                allW (
                  opS P (S.cl 94 [x5, x12]) fun x13 =>
                  allW (
                    opS P (S.cl 94 [x13, x11]) fun x14 =>
                    opS P (S.buildS 126 1 [(0, x10)]) fun x15 =>
                    opS P (S.bi .append #[126, 126] 126 [x14, x15]) fun x16 =>
                    opS P (S.bi .append #[126, 3] 126 [x16, (.int .i64 3)]) fun x17 =>
                    K x17
                  ) (
                    opS P (S.buildS 126 1 [(0, x10)]) fun x14 =>
                    opS P (S.cl 94 [x13, x11]) fun x15 =>
                    opS P (S.bi .append #[126, 126] 126 [x15, x14]) fun x16 =>
                    opS P (S.bi .append #[126, 3] 126 [x16, (.int .i64 3)]) fun x17 =>
                    K x17
                  )
                ) (
                  opS P (S.buildS 126 1 [(0, x10)]) fun x13 =>
                  opS P (S.cl 94 [x5, x12]) fun x14 =>
                  opS P (S.cl 94 [x14, x11]) fun x15 =>
                  opS P (S.bi .append #[126, 126] 126 [x15, x13]) fun x16 =>
                  opS P (S.bi .append #[126, 3] 126 [x16, (.int .i64 3)]) fun x17 =>
                  K x17
                )
              ) (
                opS P (S.buildS 126 1 [(0, x10)]) fun x12 =>
                opS P (S.ld 3 x6) fun x13 =>
                opS P (S.cl 94 [x5, x13]) fun x14 =>
                opS P (S.cl 94 [x14, x11]) fun x15 =>
                opS P (S.bi .append #[126, 126] 126 [x15, x12]) fun x16 =>
                opS P (S.bi .append #[126, 3] 126 [x16, (.int .i64 3)]) fun x17 =>
                K x17
              )
            ) (
              opS P (S.buildS 126 1 [(0, x10)]) fun x11 =>
              opS P (S.ld 3 x6) fun x12 =>
              allW (
                opS P (S.cl 94 [x5, x12]) fun x13 =>
                opS P (S.ld 3 x7) fun x14 =>
                opS P (S.cl 94 [x13, x14]) fun x15 =>
                opS P (S.bi .append #[126, 126] 126 [x15, x11]) fun x16 =>
                opS P (S.bi .append #[126, 3] 126 [x16, (.int .i64 3)]) fun x17 =>
                K x17
              ) (
                opS P (S.ld 3 x7) fun x13 =>
                opS P (S.cl 94 [x5, x12]) fun x14 =>
                opS P (S.cl 94 [x14, x13]) fun x15 =>
                opS P (S.bi .append #[126, 126] 126 [x15, x11]) fun x16 =>
                opS P (S.bi .append #[126, 3] 126 [x16, (.int .i64 3)]) fun x17 =>
                K x17
              )
            )
          )
        )
      )
    ) fun j0 =>
    drw <|
    opS P (S.fa 107 x3 1) fun x5 =>
    opS P (S.slc 34 x5 none none none) fun x6 =>
    opS P (S.fa 107 x3 2) fun x7 =>
    allW (
      opS P (S.bi .append #[126, 126] 126 [x4, x6]) fun x8 =>
      opS P (S.ld 3 x7) fun x9 =>
      opS P (S.cl 94 [x8, x9]) fun x10 =>
      j0 x10
    ) (
      opS P (S.ld 3 x7) fun x8 =>
      opS P (S.bi .append #[126, 126] 126 [x4, x6]) fun x9 =>
      opS P (S.cl 94 [x9, x8]) fun x10 =>
      j0 x10
    )
  ) fun j0 =>
  drw <|
  opS P (S.fa 107 x3 0) fun x4 =>
  allW (
    opS P (S.buildS 126 2 [(0, x1), (1, (.int .u8 20))]) fun x5 =>
    allW (
      opS P (S.bi .append #[126, 126] 126 [x0, x5]) fun x6 =>
      opS P (S.ld 3 x4) fun x7 =>
      opS P (S.cl 94 [x6, x7]) fun x8 =>
      j0 x8
    ) (
      opS P (S.ld 3 x4) fun x6 =>
      opS P (S.bi .append #[126, 126] 126 [x0, x5]) fun x7 =>
      opS P (S.cl 94 [x7, x6]) fun x8 =>
      j0 x8
    )
  ) (
    opS P (S.ld 3 x4) fun x5 =>
    opS P (S.buildS 126 2 [(0, x1), (1, (.int .u8 20))]) fun x6 =>
    opS P (S.bi .append #[126, 126] 126 [x0, x6]) fun x7 =>
    opS P (S.cl 94 [x7, x5]) fun x8 =>
    j0 x8
  )
instance fnb93 : FnB Try.prog 93 := ⟨Try.call93⟩
theorem e93 : p93 Try.prog = fun K x0 x1 x2 => denF Try.prog Try.f93 [x0, x1, x2] K := by kernel_rfl
theorem c93 {K : Value → World → Prop} {x0 x1 x2 : Value} {w : World} (h : p93 Try.prog K x0 x1 x2 w) : CallsR Try.prog 93 #[x0, x1, x2] K w := by
  rw [e93] at h
  exact denF_sound mixed Try.func93 h

-- gemel/lacpdu.put
def p94 (P : Program) (K : Value → World → Prop) (x0 : Value) (x1 : Value) : World → Prop :=
  opS P (S.binI .shr x1 (.int .u64 8)) fun x2 =>
  opS P (S.convI .u8 x2) fun x3 =>
  opS P (S.convI .u8 x1) fun x4 =>
  opS P (S.buildS 126 2 [(0, x3), (1, x4)]) fun x5 =>
  opS P (S.bi .append #[126, 126] 126 [x0, x5]) fun x6 =>
  K x6
instance fnb94 : FnB Try.prog 94 := ⟨Try.call94⟩
theorem e94 : p94 Try.prog = fun K x0 x1 => denF Try.prog Try.f94 [x0, x1] K := by kernel_rfl
theorem c94 {K : Value → World → Prop} {x0 x1 : Value} {w : World} (h : p94 Try.prog K x0 x1 w) : CallsR Try.prog 94 #[x0, x1] K w := by
  rw [e94] at h
  exact denF_sound mixed Try.func94 h

end Go.Gx.S
-- 94 93 61
end

section
/- Links that are one: keys count by equality alone. -/
set_option maxRecDepth 100000
set_option linter.unusedVariables false
set_option linter.unusedSectionVars false
namespace Go.Gx
open Go

structure KeyF (F : Int → Int) : Prop where
  inj : ∀ {a b}, F a = F b → a = b
  zero : F 0 = 0
  rng : ∀ a, wth 65535 (F a) ↔ wth 65535 a

def Inf.rk (F : Int → Int) (x : Inf) : Inf := { x with key := F x.key }
def Lcp.rk (F : Int → Int) (l : Lcp) : Lcp := ⟨l.actor.rk F, l.partner.rk F, l.delay⟩
def Edp.rk (F : Int → Int) (x : Edp) : Edp := { x with own := x.own.rk F, partner := x.partner.rk F }
def Lk.rk (F : Int → Int) (x : Lk) : Lk := { x with e := x.e.rk F }
def Tld.rk (F : Int → Int) (t : Tld) : Tld := ⟨t.port, t.l.rk F⟩
def Grp.rk (F : Int → Int) (g : Grp) : Grp := { g with l := g.l.map (Lk.rk F) }

section
variable {F : Int → Int} (hF : KeyF F)
include hF
theorem Inf.rk_eq {x y : Inf} : x.rk F = y.rk F ↔ x = y := by
  constructor
  · intro h
    unfold Inf.rk at h
    simp only [Inf.mk.injEq] at h
    obtain ⟨h1, h2, h3, h4, h5, h6⟩ := h
    exact Inf.ext h1 h2 (hF.inj h3) h4 h5 h6
  · rintro rfl; rfl
theorem Inf.rk_zero : Inf.zero.rk F = Inf.zero := by unfold Inf.rk Inf.zero; simp [hF.zero]
theorem Inf.rk_right (x : Inf) : (x.rk F).right ↔ x.right := by unfold Inf.right Inf.rk; simp only [hF.rng]
theorem Lcp.rk_right (l : Lcp) : (l.rk F).right ↔ l.right := by unfold Lcp.right Lcp.rk; simp only [Inf.rk_right hF]
theorem knowsP_rk (p a : Inf) : knowsP (p.rk F) (a.rk F) = knowsP p a := by
  unfold knowsP
  have : (({ p.rk F with state := 0 } : Inf) = { a.rk F with state := 0 }) ↔ (({ p with state := 0 } : Inf) = { a with state := 0 }) := Inf.rk_eq hF (x := { p with state := 0 }) (y := { a with state := 0 })
  simp only [this]
  rfl
omit hF in
theorem Edp.rk_actor (x : Edp) : (x.rk F).actor = x.actor.rk F := rfl
theorem Edp.rk_enable (x : Edp) (is : Bool) (now : Int) : (x.rk F).enableP is now = (x.enableP is now).rk F := by
  unfold Edp.enableP
  repeat' split
  all_goals first | rfl | contradiction
theorem Edp.rk_tick (x : Edp) (now : Int) : (x.rk F).tickP now = (x.tickP now).rk F := by
  unfold Edp.tickP
  have h1 : (x.rk F).wait = x.wait := rfl
  have h2 : (x.rk F).from_ = x.from_ := rfl
  have h3 : (x.rk F).state = x.state := rfl
  rw [h1, h2, h3]
  repeat' split
  all_goals first | rfl | skip
  show ({ x.rk F with state := 2, partner := Inf.zero } : Edp) = Edp.rk F { x with state := 2, partner := Inf.zero }
  have := Inf.rk_zero hF
  unfold Edp.rk
  simp only [this]
theorem Edp.rk_takeE (x : Edp) (l : Lcp) (now : Int) : (x.rk F).takeE (l.rk F) now = x.takeE l now := by
  unfold Edp.takeE
  simp only [Lcp.rk_right hF]
  rfl
theorem Edp.rk_takeT (x : Edp) (l : Lcp) (now : Int) : (x.rk F).takeT (l.rk F) now = x.takeT l now := by
  unfold Edp.takeT
  rw [Edp.rk_takeE hF]
  have : bareP (l.rk F).partner = bareP (x.rk F).actor ↔ bareP l.partner = bareP x.actor := Inf.rk_eq hF (x := bareP l.partner) (y := bareP x.actor)
  simp only [this]
theorem Edp.rk_take (x : Edp) (l : Lcp) (now : Int) : (x.rk F).takeP (l.rk F) now = (x.takeP l now).rk F := by
  unfold Edp.takeP
  rw [Edp.rk_takeE hF]
  have : knowsP (l.rk F).partner (x.rk F).actor = knowsP l.partner x.actor := knowsP_rk hF l.partner x.actor
  rw [this]
  have h2 : (l.rk F).actor.state = l.actor.state := rfl
  rw [h2]
  repeat' split
  all_goals rfl
theorem Lk.rk_enable (x : Lk) (is : Bool) (now : Int) : (x.rk F).enableP is now = (x.enableP is now).rk F := by
  unfold Lk.enableP
  have : (x.rk F).e = x.e.rk F := rfl
  rw [this, Edp.rk_enable hF]
  rfl
theorem Lk.rk_take (x : Lk) (l : Lcp) (now : Int) : (x.rk F).takeP (l.rk F) now = (x.takeP l now).rk F := by
  unfold Lk.takeP
  have : (x.rk F).e = x.e.rk F := rfl
  rw [this, Edp.rk_take hF, Edp.rk_takeT hF]
  rfl
theorem Lk.rk_tick (x : Lk) (now : Int) : (x.rk F).tickP now = (x.tickP now).rk F := by
  unfold Lk.tickP
  have : (x.rk F).e = x.e.rk F := rfl
  rw [this, Edp.rk_tick hF]
  rfl
omit hF in
theorem Lk.rk_keep (x : Lk) : (x.rk F).keep = x.keep.rk F := rfl
omit hF in
theorem Lk.rk_settle (x : Lk) (now : Int) : (x.rk F).settleP now = (x.settleP now).rk F := rfl
omit hF in
theorem Lk.rk_tells (x : Lk) (now : Int) : (x.rk F).tells now = x.tells now := rfl
omit hF in
theorem Lk.rk_told (x : Lk) : (x.rk F).told = x.told.rk F := rfl
omit hF in
theorem Lk.rk_says (x : Lk) (now : Int) : (x.rk F).says now = (x.says now).rk F := by
  unfold Lk.says
  rw [Lk.rk_tells]
  split <;> rfl
omit hF in
theorem saysL_rk (l : List Lk) (now : Int) : saysL (l.map (Lk.rk F)) now = (saysL l now).map (Tld.rk F) := by
  unfold saysL
  rw [List.filter_map, List.map_map, List.map_map]
  rfl
omit hF in
theorem findIdx_map {α β : Type} (f : α → β) (p : β → Bool) (q : α → Bool) (h : ∀ x, p (f x) = q x) (l : List α) : (l.map f).findIdx? p = l.findIdx? q := by
  induction l with
  | nil => rfl
  | cons a l ih =>
    rw [List.map_cons, List.findIdx?_cons, List.findIdx?_cons, h, ih]
omit hF in
theorem lead_rk (l : List Lk) : lead (l.map (Lk.rk F)) = lead l := by
  unfold lead
  rw [findIdx_map (Lk.rk F) (·.picked) (·.picked) (fun _ => rfl), findIdx_map (Lk.rk F) (·.sound) (·.sound) (fun _ => rfl)]
theorem pickL_rk (k : Nat) (s : Inf) : ∀ (l : List Lk) (i : Nat) (left : Int), pickL k (s.rk F) i left (l.map (Lk.rk F)) = (pickL k s i left l).map (Lk.rk F)
  | [], _, _ => rfl
  | x :: l, i, left => by
    rw [List.map_cons, pickL, pickL]
    have h1 : (x.rk F).sound = x.sound := rfl
    have h2 : sysI (x.rk F).e.partner = s.rk F ↔ sysI x.e.partner = s := Inf.rk_eq hF (x := sysI x.e.partner) (y := s)
    rw [h1]
    by_cases e : i = k
    · rw [if_pos e, if_pos e, List.map_cons, pickL_rk k s l]; rfl
    · rw [if_neg e, if_neg e]
      by_cases c : x.sound = true ∧ 0 < left ∧ sysI x.e.partner = s
      · rw [if_pos c, if_pos ⟨c.1, c.2.1, h2.2 c.2.2⟩, List.map_cons, pickL_rk k s l]; rfl
      · rw [if_neg c, if_neg fun c' => c ⟨c'.1, c'.2.1, h2.1 c'.2.2⟩, List.map_cons, pickL_rk k s l]; rfl
theorem default_rk : (default : Lk).rk F = default := by
  unfold Lk.rk Edp.rk Inf.rk
  have h : (default : Lk).e.own.key = 0 := rfl
  have h' : (default : Lk).e.partner.key = 0 := rfl
  rw [h, h', hF.zero]
  rfl
theorem pickP_rk (g : Grp) : pickP (g.rk F) = (pickP g).rk F := by
  unfold pickP
  have h1 : (g.rk F).l.map Lk.keep = (g.l.map Lk.keep).map (Lk.rk F) := by
    show (g.l.map (Lk.rk F)).map Lk.keep = _
    rw [List.map_map, List.map_map]; rfl
  simp only []
  rw [h1, lead_rk]
  cases lead (g.l.map Lk.keep) with
  | none => rfl
  | some k =>
    simp only []
    have h2 : ((g.l.map Lk.keep).map (Lk.rk F)).getD k default = ((g.l.map Lk.keep).getD k default).rk F := by
      rw [List.getD_eq_getElem?_getD, List.getD_eq_getElem?_getD, List.getElem?_map]
      cases (g.l.map Lk.keep)[k]? with
      | none => exact (default_rk hF).symm
      | some x => rfl
    rw [h2]
    have h3 : sysI (((g.l.map Lk.keep).getD k default).rk F).e.partner = (sysI ((g.l.map Lk.keep).getD k default).e.partner).rk F := rfl
    rw [h3, pickL_rk hF]
    rfl
theorem Grp.rk_ticked (g : Grp) (now : Int) : (g.rk F).ticked now = (g.ticked now).rk F := by
  unfold Grp.ticked
  have h1 : ({ g.rk F with l := (g.rk F).l.map (·.tickP now) } : Grp) = ({ g with l := g.l.map (·.tickP now) } : Grp).rk F := by
    show (⟨(g.l.map (Lk.rk F)).map (·.tickP now), g.most⟩ : Grp) = ⟨(g.l.map (·.tickP now)).map (Lk.rk F), g.most⟩
    rw [List.map_map, List.map_map]
    congr 1
    exact List.map_congr_left fun x _ => Lk.rk_tick hF x now
  rw [h1, pickP_rk hF]
  show (⟨((pickP _).l.map (Lk.rk F)).map (·.settleP now), _⟩ : Grp) = ⟨((pickP _).l.map (·.settleP now)).map (Lk.rk F), _⟩
  rw [List.map_map, List.map_map]
  rfl
theorem Grp.rk_tick (g : Grp) (now : Int) : (g.rk F).tickP now = (g.tickP now).rk F := by
  unfold Grp.tickP
  rw [Grp.rk_ticked hF]
  split
  · show (⟨((g.ticked now).l.map (Lk.rk F)).map (·.says now), g.most⟩ : Grp) = ⟨((g.ticked now).l.map (·.says now)).map (Lk.rk F), g.most⟩
    rw [List.map_map, List.map_map]
    congr 1
    exact List.map_congr_left fun x _ => Lk.rk_says x now
  · rfl
theorem Grp.rk_tickO (g : Grp) (now : Int) : (g.rk F).tickO now = (g.tickO now).map (Tld.rk F) := by
  unfold Grp.tickO
  rw [Grp.rk_ticked hF]
  split
  · exact saysL_rk _ now
  · rfl
omit hF in
theorem Grp.rk_at (g : Grp) (port : Int) : (g.rk F).at_ port = g.at_ port := findIdx_map (Lk.rk F) _ _ (fun _ => rfl) g.l
omit hF in
theorem modify_map' {α : Type} (f g h : α → α) (hc : ∀ x, g (f x) = f (h x)) (l : List α) (i : Nat) : (l.map f).modify i g = (l.modify i h).map f := by
  apply List.ext_getElem?
  intro k
  rw [List.getElem?_modify, List.getElem?_map, List.getElem?_map, List.getElem?_modify]
  cases l[k]? with
  | none => rfl
  | some x =>
    show some _ = some _
    congr 1
    split
    · exact hc x
    · rfl
omit hF in
theorem Grp.rk_on (g : Grp) (port : Int) {f h : Lk → Lk} (hc : ∀ x : Lk, f (x.rk F) = (h x).rk F) : (g.rk F).on port f = (g.on port h).rk F := by
  unfold Grp.on
  rw [Grp.rk_at]
  cases g.at_ port with
  | none => rfl
  | some i =>
    show (⟨(g.l.map (Lk.rk F)).modify i f, g.most⟩ : Grp) = ⟨(g.l.modify i h).map (Lk.rk F), g.most⟩
    rw [modify_map' (Lk.rk F) f h hc]
theorem Grp.rk_enable (g : Grp) (port : Int) (is : Bool) (now : Int) : (g.rk F).enableP port is now = (g.enableP port is now).rk F := Grp.rk_on g port fun x => Lk.rk_enable hF x is now
theorem Grp.rk_take (g : Grp) (port : Int) (l : Lcp) (now : Int) : (g.rk F).takeP port (l.rk F) now = (g.takeP port l now).rk F := Grp.rk_on g port fun x => Lk.rk_take hF x l now
omit hF in
theorem Grp.rk_up (g : Grp) : (g.rk F).up = g.up := by
  unfold Grp.up
  show ((g.l.map (Lk.rk F)).filter _).map _ = _
  rw [List.filter_map, List.map_map]
  rfl
end

/-! ### Such functions -/

def swp (a b x : Int) : Int := if x = a then b else if x = b then a else x
theorem swp_key {a b : Int} (ha : wth 65535 a) (hb : wth 65535 b) (h0 : a ≠ 0) (h1 : b ≠ 0) : KeyF (swp a b) where
  inj := fun {x y} h => by unfold swp at h; repeat' split at h; all_goals omega
  zero := by unfold swp; rw [if_neg (Ne.symm h0), if_neg (Ne.symm h1)]
  rng := fun x => by
    unfold swp
    split
    · rename_i e; subst e; exact ⟨fun _ => ha, fun _ => hb⟩
    · split
      · rename_i e; subst e; exact ⟨fun _ => hb, fun _ => ha⟩
      · exact Iff.rfl
theorem KeyF.comp {F G : Int → Int} (hF : KeyF F) (hG : KeyF G) : KeyF fun x => G (F x) where
  inj := fun h => hF.inj (hG.inj h)
  zero := by rw [hF.zero, hG.zero]
  rng := fun x => by rw [hG.rng, hF.rng]
/-- any two keys are as two of five pairs -/
theorem keys_five {a b : Int} (ha : wth 65535 a) (hb : wth 65535 b) : ∃ F, KeyF F ∧ ∃ x y, F x = a ∧ F y = b ∧ ((x = 0 ∧ y = 0) ∨ (x = 0 ∧ y = 1) ∨ (x = 1 ∧ y = 0) ∨ (x = 1 ∧ y = 1) ∨ (x = 1 ∧ y = 2)) := by
  have hid : KeyF fun x => x := ⟨fun h => h, rfl, fun _ => Iff.rfl⟩
  have w1 : wth 65535 1 := by decide
  have w2 : wth 65535 2 := by decide
  by_cases a0 : a = 0
  · by_cases b0 : b = 0
    · exact ⟨_, hid, 0, 0, a0.symm, b0.symm, .inl ⟨rfl, rfl⟩⟩
    · exact ⟨_, swp_key w1 hb (by decide) b0, 0, 1, by rw [a0]; exact (swp_key w1 hb (by decide) b0).zero, if_pos rfl, .inr (.inl ⟨rfl, rfl⟩)⟩
  · have hA := swp_key w1 ha (by decide) a0
    by_cases b0 : b = 0
    · exact ⟨_, hA, 1, 0, if_pos rfl, by rw [b0]; exact hA.zero, .inr (.inr (.inl ⟨rfl, rfl⟩))⟩
    · by_cases e : a = b
      · exact ⟨_, hA, 1, 1, if_pos rfl, by rw [← e]; exact if_pos rfl, .inr (.inr (.inr (.inl ⟨rfl, rfl⟩)))⟩
      · -- first 2 to what will be b, then 1 to a
        have hc : swp 1 a 2 ≠ 0 := fun h => by have := hA.inj (h.trans hA.zero.symm); omega
        have hcr : wth 65535 (swp 1 a 2) := (hA.rng 2).2 w2
        have hB := swp_key hcr hb hc b0
        refine ⟨_, hA.comp hB, 1, 2, ?_, if_pos rfl, .inr (.inr (.inr (.inr ⟨rfl, rfl⟩)))⟩
        have h1 : swp 1 a 1 = a := if_pos rfl
        show swp (swp 1 a 2) b (swp 1 a 1) = a
        rw [h1]
        have hne : a ≠ swp 1 a 2 := fun h => by have := hA.inj (h1.trans h); omega
        unfold swp at hne ⊢
        rw [if_neg hne, if_neg e]
end Go.Gx
end

section
/- A system, and two chassis that tell one system: plainly. -/
set_option linter.unusedVariables false
set_option linter.unusedSectionVars false
set_option maxRecDepth 100000
namespace Go.Gx.S
open Go Go.Gx Go.Proofs Go.Sort
variable {F : Int → Int}

/-- the ports of the second one -/
def twoL (n m : Nat) : List Int := (upTo (n + m)).drop n
def grpL (id : Idn) (k : Int) (l : List Int) : Grp := ⟨l.map (newLk id k), 8⟩
abbrev Trio := Grp × Grp × Grp
def top0 (n m : Nat) (k0 k1 : Int) : Trio := (enK (grpL idB k0 (upTo (n + m))) (n + m), enK (grpL idA k1 (upTo n)) (n + m), enK (grpL idA k1 (twoL n m)) (n + m))
def topR (t : Trio) (now : Int) : Trio :=
  (takeAll (takeAll (t.1.tickP now) now (t.2.1.tickO now)) now (t.2.2.tickO now), takeAll (t.2.1.tickP now) now (t.1.tickO now), takeAll (t.2.2.tickP now) now (t.1.tickO now))
def topK (t : Trio) : Nat → Trio
  | 0 => t
  | k + 1 => topR (topK t k) k
def topOk (n m : Nat) (k0 k1 : Int) : Bool :=
  let t := topK (top0 n m k0 k1) 8
  decide (t.1.up = upTo (n + m)) && decide (t.2.1.up = upTo n) && decide (t.2.2.up = twoL n m)

/-! ### Keys count by equality alone -/

section
variable (hF : KeyF F)
include hF
theorem newLk_rk (id : Idn) (k p : Int) : newLk id (F k) p = (newLk id k p).rk F := by
  unfold newLk newEnd Lk.rk Edp.rk
  simp only [Inf.rk_zero hF]
  rfl
theorem grpL_rk (id : Idn) (k : Int) (l : List Int) : grpL id (F k) l = (grpL id k l).rk F := by
  unfold grpL Grp.rk
  simp only [List.map_map]
  congr 1
  exact List.map_congr_left fun p _ => newLk_rk hF id k p
theorem enK_rk (s : Grp) : ∀ k, enK (s.rk F) k = (enK s k).rk F
  | 0 => rfl
  | k + 1 => by rw [enK, enK_rk s k, enK, Grp.rk_enable hF]
theorem takeAll_rk (now : Int) : ∀ (l : List Tld) (s : Grp), takeAll (s.rk F) now (l.map (Tld.rk F)) = (takeAll s now l).rk F
  | [], s => rfl
  | x :: l, s => by
    show takeAll ((s.rk F).takeP x.port (x.l.rk F) now) now (l.map (Tld.rk F)) = _
    rw [Grp.rk_take hF, takeAll_rk now l]
    rfl
omit hF in
def rk3 (F : Int → Int) (t : Trio) : Trio := (t.1.rk F, t.2.1.rk F, t.2.2.rk F)
theorem top0_rk (n m : Nat) (k0 k1 : Int) : top0 n m (F k0) (F k1) = rk3 F (top0 n m k0 k1) := by
  unfold top0 rk3
  rw [grpL_rk hF, grpL_rk hF, grpL_rk hF, enK_rk hF, enK_rk hF, enK_rk hF]
theorem topR_rk (t : Trio) (now : Int) : topR (rk3 F t) now = rk3 F (topR t now) := by
  unfold topR rk3
  simp only []
  rw [Grp.rk_tick hF, Grp.rk_tick hF, Grp.rk_tick hF, Grp.rk_tickO hF, Grp.rk_tickO hF, Grp.rk_tickO hF, takeAll_rk hF, takeAll_rk hF, takeAll_rk hF, takeAll_rk hF]
theorem topK_rk (t : Trio) : ∀ k, topK (rk3 F t) k = rk3 F (topK t k)
  | 0 => rfl
  | k + 1 => by rw [topK, topK_rk t k, topK, topR_rk hF]
theorem topOk_rk (n m : Nat) (k0 k1 : Int) : topOk n m (F k0) (F k1) = topOk n m k0 k1 := by
  unfold topOk
  simp only []
  rw [top0_rk hF, topK_rk hF]
  unfold rk3
  simp only [Grp.rk_up]
end

def topAll : Bool := (List.range 4).all fun n => (List.range 4).all fun m => topOk (n + 1) (m + 1) 0 0 && topOk (n + 1) (m + 1) 0 1 && topOk (n + 1) (m + 1) 1 0 && topOk (n + 1) (m + 1) 1 1 && topOk (n + 1) (m + 1) 1 2
theorem topAll_true : topAll = true := by decide +kernel

theorem top_at {n m : Nat} {k0 k1 : Int} (hn : 1 ≤ n ∧ n ≤ 4) (hm : 1 ≤ m ∧ m ≤ 4) (h0 : wth 65535 k0) (h1 : wth 65535 k1) : topOk n m k0 k1 = true := by
  obtain ⟨F, hF, x, y, rfl, rfl, hc⟩ := keys_five h0 h1
  rw [topOk_rk hF]
  have := List.all_eq_true.1 (List.all_eq_true.1 topAll_true (n - 1) (List.mem_range.2 (by omega))) (m - 1) (List.mem_range.2 (by omega))
  rw [show n - 1 + 1 = n by omega, show m - 1 + 1 = m by omega] at this
  simp only [Bool.and_eq_true] at this
  obtain ⟨⟨⟨⟨c1, c2⟩, c3⟩, c4⟩, c5⟩ := this
  rcases hc with ⟨rfl, rfl⟩ | ⟨rfl, rfl⟩ | ⟨rfl, rfl⟩ | ⟨rfl, rfl⟩ | ⟨rfl, rfl⟩
  · exact c1
  · exact c2
  · exact c3
  · exact c4
  · exact c5

end Go.Gx.S
end

section
/- Zero values appended: 'append(v, make([]T, n)...)', v one's own. -/
set_option maxRecDepth 100000
namespace Go.Gx
open Go
variable {P : Program} {K : Value → World → Prop} {w : World}

theorem opS_appz {T T2 E sz by_ : Nat} {ag : Bool} {z : Value} {ty : TypeId} [hT : SlT P T E] (hT2 : P.underlying T2 = some (.int .i64)) [hs : Sz P E sz ag] [hb : By P E by_] [hz : ZV P E z] {v : Value} {n m : Nat} {l : List Value} (hm : 0 < m) (hzn : z.cells.size = sz) (hz1 : z.cells.toList.all S.oneCell = true) (hsz : 0 < sz) (hby : 0 < by_)
    (hv : Own E sz w v n l) (hroom : (2 * (n + m) + 192) * by_ ≤ 2 ^ 48)
    (h : ∀ v' w', Own E sz w' v' (n + m) (l ++ zeros m z.cells.toList) → (blkS v' = blkS v ∨ ∃ b, blkS v' = some b ∧ w.heap.size ≤ b) → Fr (fun b => blkS v = some b) w w' → K v' w') :
    opS P (S.bi .append #[T, T2] ty [v, .int .i64 m]) K w := by
  obtain ⟨inf, hi, hib⟩ := hb.bytes
  show opS P (do pure (Next.value (← Builtin.append_ #[T, T2] ty #[v, .int .i64 m]))) K w
  rw [opS_bind]
  obtain ⟨a, c, rfl⟩ := hv.rd.form
  have hll := hv.rd.len
  have hkl : (zeros m z.cells.toList).length = m * sz := by rw [zeros_length]; simp [hzn]
  have hk : (zeros m z.cells.toList).all S.oneCell = true := by
    unfold zeros
    rw [List.all_eq_true]
    intro x hx
    obtain ⟨y, hy, hx⟩ := List.mem_flatten.1 hx
    rw [List.eq_of_mem_replicate hy] at hx
    exact List.all_eq_true.1 hz1 x hx
  generalize hkz : zeros m z.cells.toList = k at *
  unfold Builtin.append_
  simp only [List.getElem?_toArray, List.getElem?_cons_zero, List.getElem?_cons_succ]
  rw [Sem.run_bind, run_underlying_of hT.und, Result.andThen_ok]
  simp only []
  rw [Sem.run_bind, hs.size w, Result.andThen_ok, Sem.run_bind, run_underlying_of hT2, Result.andThen_ok]
  have hnm : (2 * (n + m) + 192) ≤ 2 ^ 48 := Nat.le_trans (Nat.le_mul_of_pos_right _ hby) hroom
  have hw : IntKind.i64.wrap (m : Int) = m := wrap_i64 (by omega)
  simp only [pure_bind, Bool.not_true, Bool.false_eq_true, if_false, if_true, asInt, asIntOf, hw]
  rw [if_neg (by omega)]
  have hnb : m * by_ ≤ 2 ^ 48 := Nat.le_trans (Nat.mul_le_mul_right by_ (by omega)) hroom
  rw [Sem.run_bind, hi w, Result.andThen_ok, if_neg (by rw [hib]; omega)]
  simp only [Int.toNat_natCast]
  have hms : ¬ m * sz = 0 := by have := Nat.mul_pos hm hsz; omega
  have happ : ∀ w', (do pure (Builtin.zeroCells (← zeroValue E).cells m) : Sem (Array Value)).run P w' = .ok k.toArray w' := fun w' => by
    rw [Sem.run_bind, hz.zero, Result.andThen_ok, run_zeroCells_ok, hkz]; rfl
  by_cases hfit : n + m ≤ c
  · -- there is room
    rw [if_pos hfit, if_neg hms, Sem.run_bind, happ, Result.andThen_ok]
    rcases hv with ⟨hv, rfl, rfl⟩ | ⟨b, o, c', cs, hv, hbb, hc, ho, rfl⟩
    · simp only [Value.slice.injEq] at hv
      obtain ⟨rfl, _, rfl⟩ := hv
      omega
    · simp only [Value.slice.injEq] at hv
      obtain ⟨rfl, _, rfl⟩ := hv
      have hmul : (n + m) * sz ≤ c * sz := Nat.mul_le_mul_right sz hfit
      rw [Nat.add_mul] at hmul
      have hst := run_storeCells (P := P) k w cs 0 (o + n * sz) hbb hk (by omega) (fun j hj => by simp)
      simp only [add_none]
      rw [Sem.run_bind, hst, Result.andThen_ok]
      simp only [Sem.run_pure, Nat.add_zero]
      have hsame : (upd w b (.cells (splice cs.toList (o + n * sz) k).toArray E (0, 0))).heap[b]? = some (.cells (splice cs.toList (o + n * sz) k).toArray E (0, 0)) := heap_upd_same (by rw [hbb]; rfl)
      refine h _ _ (.inr ⟨b, o, c, _, rfl, hsame, hfit, ?_, ?_⟩) (.inl rfl) (Fr.upd hbb _ _ rfl)
      · have hsl : (splice cs.toList (o + n * sz) k).length = cs.toList.length := splice_length (by rw [hkl, Array.length_toList]; omega)
        rw [List.size_toArray, hsl]
        simpa using ho
      · show _ = List.take _ (List.drop o (splice cs.toList (o + n * sz) k))
        rw [Nat.add_mul, ← hkl, splice_window (by rw [Array.length_toList]; omega)]
  · -- a new block
    rw [if_neg hfit]
    have hcap := nextcap_le (n := n + m) (c := c) (by omega)
    have hg : ¬ (((n + m : Nat) : Int) > IntKind.i64.max) := by
      have e2 : IntKind.i64.max = 9223372036854775807 := rfl
      rw [e2]; omega
    have hg2 : ¬ (Builtin.nextslicecap (n + m) c * inf.bytes > 2 ^ 48) := by
      rw [hib]
      have := Nat.mul_le_mul_right by_ hcap
      omega
    have har : ∀ x w', (askRoom x).run P w' = .ok () w' := by
      intro x w'; unfold askRoom; split <;> rfl
    rw [Sem.run_bind, hi w, Result.andThen_ok, if_neg (by simp; omega), Sem.run_bind, hi w, Result.andThen_ok, if_neg hg2]
    rw [Sem.run_bind, run_choose rfl, Result.andThen_ok, Sem.run_bind, hi _, Result.andThen_ok, Sem.run_bind, har, Result.andThen_ok]
    have hvd := hv.rd.frame (w' := w.drew) (fun _ _ => rfl)
    rw [Sem.run_bind, run_firstCells hvd, Result.andThen_ok, if_neg hms, Sem.run_bind, happ, Result.andThen_ok, Sem.run_bind, hz.zero, Result.andThen_ok, run_zeroCells_ok]
    have hq : ∀ q : Nat, (Question.appendCap (n + m) c E).cut q = n + m + q % (2 ^ 63 - (n + m)) := fun _ => rfl
    rw [hq]
    generalize w.tape w.drawn (Question.appendCap (n + m) c E) % (2 ^ 63 - (n + m)) = x
    have hx : n + m + x - (n + m) = x := by omega
    rw [hx]
    have hnew : ∀ (cs : Array Value) (w' : World), (newRow E cs).run P w' = .ok ⟨w'.heap.size, 0, none⟩ (w'.alloc (.cells cs E)) := fun _ _ => rfl
    rw [Sem.run_bind, hnew, Result.andThen_ok]
    simp only [Sem.run_pure]
    have hcs : (l.toArray ++ k.toArray ++ (zeros x z.cells.toList).toArray).toList = l ++ k ++ zeros x z.cells.toList := by simp
    have hzl : (zeros x z.cells.toList).length = x * sz := by rw [zeros_length]; simp [hzn]
    refine h _ _ (.inr ⟨w.heap.size, 0, n + m + x, _, rfl, heap_alloc_new w.drew _, by omega, ?_, ?_⟩) (.inr ⟨_, rfl, Nat.le_refl _⟩) ((Fr.drew w).trans (Fr.alloc _ _ rfl))
    · rw [← Array.length_toList, hcs, List.length_append, List.length_append, hll, hkl, hzl, Nat.add_mul, Nat.add_mul]; omega
    · rw [hcs, List.drop_zero, List.take_append_of_le_length (by rw [List.length_append, hll, hkl, Nat.add_mul]; exact Nat.le_refl _), List.take_of_length_le (by rw [List.length_append, hll, hkl, Nat.add_mul]; exact Nat.le_refl _)]

theorem s_appz {T T2 E sz by_ : Nat} {ag : Bool} {z : Value} {ty : TypeId} [hT : SlT P T E] (hT2 : P.underlying T2 = some (.int .i64)) [hs : Sz P E sz ag] [hb : By P E by_] [hz : ZV P E z] {v : Value} {m : Nat} {es : List (List Value)} (hm : 0 < m) (hzn : z.cells.size = sz) (hz1 : z.cells.toList.all S.oneCell = true) (hsz : 0 < sz) (hby : 0 < by_)
    (hv : OwnE E sz w v es) (hroom : (2 * (es.length + m) + 192) * by_ ≤ 2 ^ 48)
    (h : ∀ v' w', OwnE E sz w' v' (es ++ List.replicate m z.cells.toList) → (blkS v' = blkS v ∨ New w v') → Fr (fun b => blkS v = some b) w w' → K v' w') :
    opS P (S.bi .append #[T, T2] ty [v, .int .i64 m]) K w := by
  refine opS_appz hT2 hm hzn hz1 hsz hby hv.1 hroom fun v' w' h1 h2 h3 => h v' w' ⟨?_, ?_⟩ ?_ h3
  · rw [List.length_append, List.flatten_append, List.length_replicate]; exact h1
  · intro e he
    rcases List.mem_append.1 he with he | he
    · exact hv.2 e he
    · rw [List.eq_of_mem_replicate he]; simp [hzn]
  · rcases h2 with h2 | ⟨b, hb, hle⟩
    · exact .inl h2
    · exact .inr fun b' hb' => by rw [hb] at hb'; cases hb'; exact hle
end Go.Gx
end

section
/- What ends of links tell one another, as bytes. -/
set_option linter.unusedVariables false
set_option linter.unusedSimpArgs false
set_option maxRecDepth 100000
namespace Go.Gx.S
open Go Go.Gx Go.Proofs Go.Sort
variable {K : Value → World → Prop} {w : World}

/-! ### Plain -/

def twoB (n : Int) : List Int := [n / 256, n % 256]
def macBs (m : Mac) : List Int := [m.b0, m.b1, m.b2, m.b3, m.b4, m.b5]
def infB (kind : Int) (x : Inf) : List Int := [kind, 20] ++ twoB x.prio ++ macBs x.sys ++ twoB x.key ++ twoB x.pprio ++ twoB x.port ++ [x.state] ++ [0, 0, 0]
def lcpB (l : Lcp) : List Int := [1, 1] ++ infB 1 l.actor ++ infB 2 l.partner ++ [3, 16] ++ twoB l.delay ++ List.replicate 64 0

theorem twoB_ok {n : Int} (h : wth 65535 n) : ∀ x ∈ twoB n, isB x := by
  intro x hx
  simp only [twoB, List.mem_cons, List.not_mem_nil, or_false] at hx
  unfold isB
  unfold wth at h
  rcases hx with rfl | rfl <;> omega
theorem macBs_ok {m : Mac} (h : m.ok) : ∀ x ∈ macBs m, isB x := by
  obtain ⟨h0, h1, h2, h3, h4, h5⟩ := h
  intro x hx
  simp only [macBs, List.mem_cons, List.not_mem_nil, or_false] at hx
  rcases hx with rfl | rfl | rfl | rfl | rfl | rfl <;> assumption
theorem infB_ok {k : Int} {x : Inf} (hk : isB k) (h : x.right) (hs : x.sys.ok) : ∀ b ∈ infB k x, isB b := by
  obtain ⟨h1, h2, h3, h4, h5⟩ := h
  intro b hb
  unfold infB at hb
  simp only [List.mem_append] at hb
  rcases hb with ((((((hb | hb) | hb) | hb) | hb) | hb) | hb) | hb
  · simp only [List.mem_cons, List.not_mem_nil, or_false] at hb
    rcases hb with rfl | rfl
    · exact hk
    · unfold isB; omega
  · exact twoB_ok h1 b hb
  · exact macBs_ok hs b hb
  · exact twoB_ok h2 b hb
  · exact twoB_ok h3 b hb
  · exact twoB_ok h4 b hb
  · rw [List.mem_singleton.1 hb]; unfold isB; unfold wth at h5; omega
  · simp only [List.mem_cons, List.not_mem_nil, or_false] at hb
    unfold isB
    omega

/-! ### Memory -/

theorem lput_spec {v : Value} {bs : List Int} {n : Int} (hv : OwnE 5 1 w v (bs.map cell1)) (hn : wth 65535 n) (hl : bs.length ≤ 1000)
    (hk : ∀ v' w', OwnE 5 1 w' v' ((bs ++ twoB n).map cell1) → (blkS v' = blkS v ∨ New w v') → Fr (fun b => blkS v = some b) w w' → K v' w') : CallsR Try.prog 94 #[v, i64 n] K w := by
  apply c94
  unfold p94
  unfold wth at hn
  have e : ∀ x, opS Try.prog (S.binI .shr (i64 n) (.int .u64 8)) x w = x (i64 (n / 256)) w := fun x => opS_shr .i64 .u64 n 8 (by decide)
  rw [e]
  simp only [push_cast, Nat.reduceAdd, Nat.reduceLeDiff, Nat.reduceLT, Int.reduceToNat, Nat.left_eq_add, Nat.add_eq_left, Nat.add_left_cancel_iff, Nat.reduceEqDiff, Nat.add_assoc, Nat.succ_ne_zero]
  rw [wrap_u8, wrap_u8]
  refine s_bs2c (z := .int .u8 0) rfl rfl rfl fun u w1 hu hF hN => ?_
  have hv1 := hv.fr hF fun _ _ h => h
  refine s_app (z := .int .u8 0) (sz := 1) (by_ := 1) rfl (by decide) hv1 hu.rd rfl (by simp; omega) fun v' w2 hv' hb hF2 => ?_
  have e1 : n / 256 % 256 = n / 256 := Int.emod_eq_of_lt (by omega) (by omega)
  refine hk v' w2 ?_ ?_ ((hF.mono fun _ _ h => h.elim).trans hF2)
  · rw [List.map_append]
    rw [e1] at hv'
    exact hv'
  · rcases hb with e | e
    · exact .inl e
    · exact .inr fun b hb => by have := e b hb; have := hF.size; omega

/-- bytes that are one's own, what lies at xb, and literals -/
structure PI (w : World) (v0 : Value) (xb : Nat) (o : Obj) (us : List (Value × List Int)) (W : World) (v : Value) (bs : List Int) : Prop where
  x : W.heap[xb]? = some o
  own : OwnE 5 1 W v (bs.map cell1)
  bk : blkS v = blkS v0 ∨ New w v
  nx : blkS v ≠ some xb
  fr : Fr (fun b => blkS v0 = some b) w W
  lit : ∀ p ∈ us, OwnE 5 1 W p.1 (p.2.map cell1) ∧ ∀ b, blkS p.1 = some b → blkS v ≠ some b
section
variable {v0 v : Value} {xb : Nat} {o : Obj} {us : List (Value × List Int)} {W : World} {bs cs : List Int}
theorem PI.drew (h : PI w v0 xb o us W v bs) : PI w v0 xb o us W.drew v bs := ⟨h.x, h.own, h.bk, h.nx, h.fr.step_drew, h.lit⟩
/-- something new beside it -/
theorem PI.keep {W' : World} (h : PI w v0 xb o us W v bs) (hF : Fr none_ W W') : PI w v0 xb o us W' v bs :=
  ⟨hF.heap h.x fun h => h, h.own.fr hF fun _ _ h => h, h.bk, h.nx, h.fr.trans (hF.mono fun _ _ h => h.elim), fun p hp => ⟨(h.lit p hp).1.fr hF fun _ _ h => h, (h.lit p hp).2⟩⟩
theorem PI.next {W' : World} {v' : Value} (h : PI w v0 xb o us W v bs) (hv : OwnE 5 1 W' v' (cs.map cell1)) (hb : blkS v' = blkS v ∨ New W v') (hF : Fr (fun b => blkS v = some b) W W') : PI w v0 xb o us W' v' cs := by
  have hs := h.fr.size
  refine ⟨hF.heap h.x fun e => h.nx e, hv, ?_, ?_, ?_, fun p hp => ?_⟩
  · rcases hb with e | e
    · rw [e]; exact h.bk.imp id fun hn b hb => hn b (e ▸ hb)
    · exact .inr fun b hb => by have := e b hb; omega
  · rcases hb with e | e
    · rw [e]; exact h.nx
    · intro e2; have := e xb e2; have := lt_of_heap h.x; omega
  · refine h.fr.trans_new hF fun b hb e => ?_
    rcases h.bk with e2 | e2
    · rw [← e2]; exact e
    · have := e2 b e; omega
  · obtain ⟨h1, h2⟩ := h.lit p hp
    refine ⟨h1.fr hF fun b hb e => h2 b hb e, fun b hpb e => ?_⟩
    rcases hb with e2 | e2
    · exact h2 b hpb (e2 ▸ e)
    · have := e2 b e; have := h1.lt hpb; omega
theorem q_put {n : Int} (h : PI w v0 xb o us W v bs) (hn : wth 65535 n) (hl : bs.length ≤ 1000) (hk : ∀ v' W', PI w v0 xb o us W' v' (bs ++ twoB n) → K v' W') : opS Try.prog (S.cl 94 [v, i64 n]) K W := by
  rw [opS_cl]
  exact lput_spec h.own hn hl fun v' W' h1 h2 h3 => hk v' W' (h.next h1 h2 h3)
theorem q_bs1 {k : Int} (h : PI w v0 xb o us W v bs) (hk : ∀ u W', PI w v0 xb o ((u, [k]) :: us) W' v bs → K u W') : opS Try.prog (S.buildS 126 1 [(0, u8 k)]) K W := by
  refine s_bs1c (z := .int .u8 0) rfl rfl fun u W' hu hF hN => hk u W' ?_
  have h' := h.keep hF
  refine ⟨h'.x, h'.own, h'.bk, h'.nx, h'.fr, fun p hp => ?_⟩
  rcases List.mem_cons.1 hp with rfl | hp
  · exact ⟨hu, fun b hb e => by have := hN b hb; have := h.own.lt e; omega⟩
  · exact h'.lit p hp
theorem q_bs2 {k l : Int} (h : PI w v0 xb o us W v bs) (hk : ∀ u W', PI w v0 xb o ((u, [k, l]) :: us) W' v bs → K u W') : opS Try.prog (S.buildS 126 2 [(0, u8 k), (1, u8 l)]) K W := by
  refine s_bs2c (z := .int .u8 0) rfl rfl rfl fun u W' hu hF hN => hk u W' ?_
  have h' := h.keep hF
  refine ⟨h'.x, h'.own, h'.bk, h'.nx, h'.fr, fun p hp => ?_⟩
  rcases List.mem_cons.1 hp with rfl | hp
  · exact ⟨hu, fun b hb e => by have := hN b hb; have := h.own.lt e; omega⟩
  · exact h'.lit p hp
theorem q_app {u : Value} (h : PI w v0 xb o ((u, cs) :: us) W v bs) (hl : bs.length ≤ 1000) (hl2 : cs.length ≤ 1000) (hk : ∀ v' W', PI w v0 xb o ((u, cs) :: us) W' v' (bs ++ cs) → K v' W') {ty : TypeId} : opS Try.prog (S.bi .append #[126, 126] ty [v, u]) K W := by
  have hu := (h.lit _ (List.mem_cons_self ..)).1
  refine s_app (z := .int .u8 0) (sz := 1) (by_ := 1) rfl (by decide) h.own hu.rd (flat_cell1_one cs) (by simp; omega) fun v' W' h1 h2 h3 => hk v' W' (h.next ?_ h2 h3)
  rw [List.map_append]; exact h1
theorem q_appz {m : Nat} (h : PI w v0 xb o us W v bs) (hm : 0 < m) (hm2 : m ≤ 1000) (hl : bs.length ≤ 1000) (hk : ∀ v' W', PI w v0 xb o us W' v' (bs ++ List.replicate m 0) → K v' W') {ty : TypeId} : opS Try.prog (S.bi .append #[126, 3] ty [v, .int .i64 m]) K W := by
  refine s_appz (z := .int .u8 0) (sz := 1) (by_ := 1) uInt hm rfl rfl (by decide) (by decide) h.own (by simp; omega) fun v' W' h1 h2 h3 => hk v' W' (h.next ?_ h2 h3)
  rw [List.map_append, List.map_replicate]; exact h1
section
variable {x : Inf} {T : TypeId}
theorem q_ld0 (h : PI w v0 xb (cellsO x.cells T) us W v bs) (hk : K (i64 x.prio) W) : opS Try.prog (S.ld 3 (pt xb 0)) K W := by rw [s_ld1, h.x, cellAt_cells, Inf.g_prio, onS_some]; exact hk
theorem q_ld7 (h : PI w v0 xb (cellsO x.cells T) us W v bs) (hk : K (i64 x.key) W) : opS Try.prog (S.ld 3 (pt xb 7)) K W := by rw [s_ld1, h.x, cellAt_cells, Inf.g_key, onS_some]; exact hk
theorem q_ld8 (h : PI w v0 xb (cellsO x.cells T) us W v bs) (hk : K (i64 x.pprio) W) : opS Try.prog (S.ld 3 (pt xb 8)) K W := by rw [s_ld1, h.x, cellAt_cells, Inf.g_pprio, onS_some]; exact hk
theorem q_ld9 (h : PI w v0 xb (cellsO x.cells T) us W v bs) (hk : K (i64 x.port) W) : opS Try.prog (S.ld 3 (pt xb 9)) K W := by rw [s_ld1, h.x, cellAt_cells, Inf.g_port, onS_some]; exact hk
theorem q_ld10 (h : PI w v0 xb (cellsO x.cells T) us W v bs) (hk : K (i64 x.state) W) : opS Try.prog (S.ld 3 (pt xb 10)) K W := by rw [s_ld1, h.x, cellAt_cells, Inf.g_state, onS_some]; exact hk
theorem q_u8 {n : Int} (hn : isSt n) (hk : K (u8 n) W) : opS Try.prog (S.convI .u8 (i64 n)) K W := by
  unfold isSt at hn
  rw [opS_convI, wrap_u8, Int.emod_eq_of_lt (by omega) (by omega)]; exact hk
theorem q_mac (h : PI w v0 xb (cellsO x.cells T) us W v bs) (hs : x.sys.ok) (hl : bs.length ≤ 1000) (hk : ∀ v' W', PI w v0 xb (cellsO x.cells T) us W' v' (bs ++ macBs x.sys) → K v' W') {ty : TypeId} : opS Try.prog (S.bi .append #[126, 126] ty [v, .slice (some ⟨xb, 1, none⟩) 6 6]) K W := by
  have hu : RdE 1 W (.slice (some ⟨xb, 1, none⟩) 6 6) ((macBs x.sys).map cell1) := ⟨.inr ⟨xb, 1, 6, _, T, (0, 0), rfl, h.x, Nat.le_refl _, by show 1 + 6 * 1 ≤ 11; decide, rfl⟩, by simp [macBs, cell1]⟩
  refine s_app (z := .int .u8 0) (sz := 1) (by_ := 1) rfl (by decide) h.own hu (flat_cell1_one _) (by simp [macBs]; omega) fun v' W' h1 h2 h3 => hk v' W' (h.next ?_ h2 h3)
  rw [List.map_append]; exact h1
end
end

set_option maxHeartbeats 600000 in
theorem putinfo_spec {v : Value} {bs : List Int} {k : Int} {x : Inf} (hv : OwnE 5 1 w v (bs.map cell1)) (hx : x.right) (hs : x.sys.ok) (hl : bs.length ≤ 500)
    (hk : ∀ v' w', OwnE 5 1 w' v' ((bs ++ infB k x).map cell1) → (blkS v' = blkS v ∨ New w v') → Fr (fun b => blkS v = some b) w w' → K v' w') : CallsR Try.prog 93 #[v, u8 k, .agg x.cells.toArray] K w := by
  apply c93
  unfold p93
  have hF0 : Fr none_ w (w.alloc (cellsO x.cells 107)) := (by repeat' first | with_reducible exact Fr.refl _ _ | with_reducible refine Fr.step_alloc ?_ ?_ | with_reducible refine Fr.step_drew ?_ | with_reducible refine Fr.step_wr ?_ ?_ _ _ | exact rfl | exact Or.inr (by omega) | exact Or.inl rfl | exact Or.inl (Or.inl rfl) | exact Or.inl (Or.inr rfl))
  have q0 : (w.alloc (cellsO x.cells 107)).heap[w.heap.size]? = some (cellsO x.cells 107) := by simp only [push_cast, Nat.reduceAdd, Nat.reduceLeDiff, Nat.reduceLT, Int.reduceToNat, Nat.left_eq_add, Nat.add_eq_left, Nat.add_left_cancel_iff, Nat.reduceEqDiff, Nat.add_assoc, Nat.succ_ne_zero]
  simp only [opS_box, cells_agg, alloc_cellsO]
  have h0 : PI w v w.heap.size (cellsO x.cells 107) [] (w.alloc (cellsO x.cells 107)) v bs :=
    ⟨q0, hv.fr hF0 fun _ _ h => h, .inl rfl, fun e => absurd (hv.lt e) (by omega), hF0.mono fun _ _ h => h.elim, by simp⟩
  generalize w.alloc (cellsO x.cells 107) = W0 at *
  generalize hxb : w.heap.size = xb at *
  obtain ⟨r1, r2, r3, r4, r5⟩ := hx
  have r5 : isSt x.state := r5
  refine jn1 (fun v' W => ∃ us, PI w v xb (cellsO x.cells 107) us W v' (bs ++ [k, 20] ++ twoB x.prio)) ?_ fun j hj => ?_
  case refine_2 =>
    replace hj : ∀ us v' W, PI w v xb (cellsO x.cells 107) us W v' (bs ++ [k, 20] ++ twoB x.prio) → j v' W := fun us v' W h => hj v' W ⟨us, h⟩
    have h0 := h0.drew
    have hfin : ∀ us v' W, PI w v xb (cellsO x.cells 107) us W v' (bs ++ [k, 20]) → opS Try.prog (S.cl 94 [v', i64 x.prio]) j W := fun us v' W h => q_put h r1 (by simp; omega) fun v' W' h' => hj _ _ _ h'
    simp only [drw_eq, fa107_0]
    repeat' first
      | with_reducible refine allW_intro ?_ ?_
      | with_reducible refine q_ld0 (by assumption) ?_
      | with_reducible refine q_bs2 (by assumption) fun u W' _ => ?_
      | with_reducible refine q_app (by assumption) (by omega) (by simp) fun v' W' _ => ?_
      | with_reducible exact hfin _ _ _ (by assumption)
  rintro v1 W1 ⟨us1, h1⟩
  have l1 : (bs ++ [k, 20] ++ twoB x.prio).length ≤ 510 := by simp [twoB]; omega
  refine jn1 (fun v' W => ∃ us, PI w v xb (cellsO x.cells 107) us W v' (bs ++ [k, 20] ++ twoB x.prio ++ macBs x.sys ++ twoB x.key)) ?_ fun j hj => ?_
  case refine_2 =>
    replace hj : ∀ us v' W, PI w v xb (cellsO x.cells 107) us W v' (bs ++ [k, 20] ++ twoB x.prio ++ macBs x.sys ++ twoB x.key) → j v' W := fun us v' W h => hj v' W ⟨us, h⟩
    have h1 := h1.drew
    have hfin : ∀ us v' W, PI w v xb (cellsO x.cells 107) us W v' (bs ++ [k, 20] ++ twoB x.prio ++ macBs x.sys) → opS Try.prog (S.cl 94 [v', i64 x.key]) j W := fun us v' W h => q_put h r2 (by rw [List.length_append, show (macBs x.sys).length = 6 from rfl]; omega) fun v' W' h' => hj _ _ _ h'
    simp only [drw_eq, fa107_1, fa107_2, opS_slcA, Nat.zero_add]
    repeat' first
      | with_reducible refine allW_intro ?_ ?_
      | with_reducible refine q_ld7 (by assumption) ?_
      | with_reducible refine q_mac (by assumption) hs (by omega) fun v' W' _ => ?_
      | with_reducible exact hfin _ _ _ (by assumption)
  rintro v2 W2 ⟨us2, h2⟩
  have h2 := h2.drew
  have l2 : (bs ++ [k, 20] ++ twoB x.prio ++ macBs x.sys ++ twoB x.key).length ≤ 520 := by simp [twoB, macBs]; omega
  generalize hB : bs ++ [k, 20] ++ twoB x.prio ++ macBs x.sys ++ twoB x.key = B at *
  have hfin : ∀ us v' W, PI w v xb (cellsO x.cells 107) us W v' (B ++ twoB x.pprio ++ twoB x.port ++ [x.state]) → ∀ {ty : TypeId}, opS Try.prog (S.bi .append #[126, 3] ty [v', .int .i64 3]) K W := fun us v' W h ty => by
    refine q_appz (m := 3) h (by decide) (by decide) (by simp [twoB]; omega) fun v3 W3 h3 => hk v3 W3 ?_ h3.bk h3.fr
    have := h3.own
    rw [← hB] at this
    unfold infB
    simp only [List.append_assoc] at this ⊢
    exact this
  have l3 : (B ++ twoB x.pprio).length ≤ 530 := by simp [twoB]; omega
  have l4 : (B ++ twoB x.pprio ++ twoB x.port).length ≤ 540 := by simp [twoB]; omega
  simp only [drw_eq, fa107_3, fa107_4, fa107_5, Nat.zero_add]
  clear hk h1 h0 hv q0
  repeat' first
    | with_reducible refine allW_intro ?_ ?_
    | with_reducible refine q_ld8 (by assumption) ?_
    | with_reducible refine q_ld9 (by assumption) ?_
    | with_reducible refine q_ld10 (by assumption) ?_
    | with_reducible refine q_u8 r5 ?_
    | with_reducible refine q_bs1 (by assumption) fun u W' _ => ?_
    | with_reducible refine q_put (by assumption) r3 (by omega) fun v' W' _ => ?_
    | with_reducible refine q_put (by assumption) r4 (by omega) fun v' W' _ => ?_
    | with_reducible refine q_app (by assumption) (by omega) (by simp) fun v' W' _ => ?_
    | with_reducible exact hfin _ _ _ (by assumption)

section
variable {v0 v : Value} {xb : Nat} {o : Obj} {us : List (Value × List Int)} {W : World} {bs cs : List Int}
theorem q_info {k : Int} {x : Inf} (h : PI w v0 xb o us W v bs) (hx : x.right) (hs : x.sys.ok) (hl : bs.length ≤ 500) (hk : ∀ v' W', PI w v0 xb o us W' v' (bs ++ infB k x) → K v' W') : opS Try.prog (S.cl 93 [v, u8 k, .agg x.cells.toArray]) K W := by
  rw [opS_cl]
  exact putinfo_spec h.own hx hs hl fun v' W' h1 h2 h3 => hk v' W' (h.next h1 h2 h3)
theorem q_ldo {off : Nat} {u : Value} (h : PI w v0 xb o us W v bs) (hv : cellAt (some o) off = some u) (hk : K u W) : opS Try.prog (S.ld 3 (pt xb off)) K W := by rw [s_ld1, h.x, hv, onS_some]; exact hk
end
theorem infB_len (k : Int) (x : Inf) : (infB k x).length = 20 := rfl
theorem lencode_spec {l : Lcp} (hr : l.right) (ha : l.actor.sys.ok) (hp : l.partner.sys.ok)
    (hk : ∀ v w', OwnE 5 1 w' v ((lcpB l).map cell1) → New w v → Fr none_ w w' → K (.tuple #[v, i64 0]) w') : CallsR Try.prog 61 #[.agg l.cells.toArray] K w := by
  apply c61
  unfold p61
  have hF0 : Fr none_ w (w.alloc (cellsO l.cells 123)) := (by repeat' first | with_reducible exact Fr.refl _ _ | with_reducible refine Fr.step_alloc ?_ ?_ | with_reducible refine Fr.step_drew ?_ | with_reducible refine Fr.step_wr ?_ ?_ _ _ | exact rfl | exact Or.inr (by omega) | exact Or.inl rfl | exact Or.inl (Or.inl rfl) | exact Or.inl (Or.inr rfl))
  have q0 : (w.alloc (cellsO l.cells 123)).heap[w.heap.size]? = some (cellsO l.cells 123) := by simp only [push_cast, Nat.reduceAdd, Nat.reduceLeDiff, Nat.reduceLT, Int.reduceToNat, Nat.left_eq_add, Nat.add_eq_left, Nat.add_left_cancel_iff, Nat.reduceEqDiff, Nat.add_assoc, Nat.succ_ne_zero]
  simp only [opS_box, cells_agg, alloc_cellsO]
  generalize w.alloc (cellsO l.cells 123) = W0 at *
  generalize hxb : w.heap.size = xb at *
  simp only [push_cast, Nat.reduceAdd, Nat.reduceLeDiff, Nat.reduceLT, Int.reduceToNat, Nat.left_eq_add, Nat.add_eq_left, Nat.add_left_cancel_iff, Nat.reduceEqDiff, Nat.add_assoc, Nat.succ_ne_zero, q0]
  refine right_spec fun W1 f1 => ?_
  have q1 := f1.heap q0 fun h => h
  rw [decide_eq_true hr]
  simp only [opS_not, brn_bool, Bool.not_true, br_false]
  have F1 := hF0.trans f1
  refine s_bs2c (z := .int .u8 0) rfl rfl rfl fun v0 W2 hu f2 hN => ?_
  have q2 := f2.heap q1 fun h => h
  have F2 := F1.trans f2
  have hlt := lt_of_heap q1
  have h2 : PI W2 v0 xb (cellsO l.cells 123) [] W2 v0 [1, 1] := ⟨q2, hu, .inl rfl, fun e => by have := hN _ e; omega, Fr.refl _ _, by simp⟩
  have hNw : New w v0 := fun b hb => by have := hN b hb; have := F1.size; omega
  simp only [fa123_0, Nat.zero_add]
  have a0 : aggAt (some (cellsO l.cells 123)) 0 11 = some (.agg l.actor.cells.toArray) := by simp only [push_cast, Nat.reduceAdd, Nat.reduceLeDiff, Nat.reduceLT, Int.reduceToNat, Nat.left_eq_add, Nat.add_eq_left, Nat.add_left_cancel_iff, Nat.reduceEqDiff, Nat.add_assoc, Nat.succ_ne_zero]
  have a1 : aggAt (some (cellsO l.cells 123)) 11 11 = some (.agg l.partner.cells.toArray) := by simp only [push_cast, Nat.reduceAdd, Nat.reduceLeDiff, Nat.reduceLT, Int.reduceToNat, Nat.left_eq_add, Nat.add_eq_left, Nat.add_left_cancel_iff, Nat.reduceEqDiff, Nat.add_assoc, Nat.succ_ne_zero]
  have a2 : cellAt (some (cellsO l.cells 123)) 22 = some (i64 l.delay) := by simp only [push_cast, Nat.reduceAdd, Nat.reduceLeDiff, Nat.reduceLT, Int.reduceToNat, Nat.left_eq_add, Nat.add_eq_left, Nat.add_left_cancel_iff, Nat.reduceEqDiff, Nat.add_assoc, Nat.succ_ne_zero]
  rw [s_ldN (n := 11) (hn := by decide), q2, a0, onS_some]
  refine q_info h2 hr.1 ha (by decide) fun v3 W3 h3 => ?_
  simp only [fa123_1, Nat.zero_add]
  rw [s_ldN (n := 11) (hn := by decide), h3.x, a1, onS_some]
  refine q_info h3 hr.2.1 hp (by show 22 ≤ 500; decide) fun v4 W4 h4 => ?_
  have l4 : ([1, 1] ++ infB 1 l.actor ++ infB 2 l.partner).length = 42 := rfl
  generalize hB : [1, 1] ++ infB 1 l.actor ++ infB 2 l.partner = B at *
  have h4 := h4.drew
  have hfin : ∀ us v' W, PI W2 v0 xb (cellsO l.cells 123) us W v' (B ++ [3, 16]) → opS Try.prog (S.cl 94 [v', i64 l.delay]) (fun x16 => opS Try.prog (S.bi .append #[126, 3] 126 [x16, .int .i64 64]) fun x17 => K (.tuple #[x17, .int .i64 0])) W := fun us v' W h => by
    refine q_put h hr.2.2 (by simp; omega) fun v5 W5 h5 => ?_
    refine q_appz (m := 64) h5 (by decide) (by decide) (by simp [twoB]; omega) fun v6 W6 h6 => ?_
    refine hk v6 W6 ?_ ?_ ?_
    · have := h6.own
      rw [← hB] at this
      exact this
    · rcases h6.bk with e | e
      · intro b hb; exact hNw b (e ▸ hb)
      · intro b hb; have := e b hb; have := F2.size; omega
    · exact F2.trans_new h6.fr fun b hb e => by have := hNw b e; omega
  simp only [drw_eq, fa123_2, Nat.zero_add]
  clear hk h3 h2 q2 q1 q0
  repeat' first
    | with_reducible refine allW_intro ?_ ?_
    | with_reducible refine q_ldo (by assumption) a2 ?_
    | with_reducible refine q_bs2 (by assumption) fun u W' _ => ?_
    | with_reducible refine q_app (by assumption) (by omega) (by simp) fun v' W' _ => ?_
    | with_reducible exact hfin _ _ _ (by assumption)

end Go.Gx.S
end

section
/- Bytes that are read as what ends of links tell: parts. -/
set_option linter.unusedVariables false
set_option linter.unusedSimpArgs false
set_option maxRecDepth 100000
namespace Go.Gx.S
open Go Go.Gx Go.Proofs Go.Sort
variable {K : Value → World → Prop} {w w0 : World} {p : Nat} {bs cs : List Int}

/-- the bytes that are left to be read -/
structure DI (w0 : World) (p : Nat) (bs : List Int) (W : World) : Prop where
  r : ∃ v, W.heap[p]? = some (cellsO [v] 160) ∧ ByR w0 v bs
  fr : Fr none_ w0 W
  pn : w0.heap.size ≤ p
/-- what may be done meanwhile -/
def onP (p : Nat) : Nat → Prop := fun b => b = p
theorem DI.step {W W' : World} (h : DI w0 p bs W) (hF : Fr (onP p) W W') {v : Value} (hp : W'.heap[p]? = some (cellsO [v] 160)) (hv : ByR w0 v cs) : DI w0 p cs W' :=
  ⟨⟨v, hp, hv⟩, h.fr.trans_new hF fun b hb e => by have := h.pn; unfold onP at e; omega, h.pn⟩
theorem DI.fr0 {W W' : World} (h : DI w0 p bs W) (hF : Fr none_ W W') : DI w0 p bs W' := by
  obtain ⟨⟨v, h1, h2⟩, h3, h4⟩ := h
  exact ⟨⟨v, hF.heap h1 fun h => h, h2⟩, h3.trans hF, h4⟩
theorem DI.oth {W W' : World} {b : Nat} (h : DI w0 p bs W) (hF : Fr (fun x => x = b) W W') (hb : b ≠ p) (hb2 : w0.heap.size ≤ b) : DI w0 p bs W' := by
  obtain ⟨⟨v, h1, h2⟩, h3, h4⟩ := h
  exact ⟨⟨v, hF.heap h1 fun h => hb h.symm, h2⟩, h3.trans_new hF fun x hx e => by omega, h4⟩

theorem lby_part {v v' : Value} (h : ByR w0 v bs) (hc : ∀ x ∈ cs, x ∈ bs) (h' : RdE 1 w0 v' (cs.map cell1)) : ByR w0 v' cs := ⟨h', fun x hx => h.2 x (hc x hx)⟩

theorem ltake_spec {n : Nat} (h : DI w0 p bs w) (hn : n ≤ bs.length) (hk : ∀ v1 w', ByR w0 v1 (bs.take n) → DI w0 p (bs.drop n) w' → Fr (onP p) w w' → K v1 w') : CallsR Try.prog 127 #[pt p 0, i64 n] K w := by
  apply c127
  unfold p127
  obtain ⟨v, hp, hv⟩ := h.r
  have hml : (bs.map cell1).length = bs.length := List.length_map _
  rw [jn_0]
  obtain ⟨a, c, hva⟩ := hv.form
  simp only [push_cast, Nat.reduceAdd, Nat.reduceLeDiff, Nat.reduceLT, Int.reduceToNat, Nat.left_eq_add, Nat.add_eq_left, Nat.add_left_cancel_iff, Nat.reduceEqDiff, Nat.add_assoc, Nat.succ_ne_zero, hp]
  rw [hva]
  simp only [push_cast, Nat.reduceAdd, Nat.reduceLeDiff, Nat.reduceLT, Int.reduceToNat, Nat.left_eq_add, Nat.add_eq_left, Nat.add_left_cancel_iff, Nat.reduceEqDiff, Nat.add_assoc, Nat.succ_ne_zero]
  refine br_no (by omega) ?_
  simp only [push_cast, Nat.reduceAdd, Nat.reduceLeDiff, Nat.reduceLT, Int.reduceToNat, Nat.left_eq_add, Nat.add_eq_left, Nat.add_left_cancel_iff, Nat.reduceEqDiff, Nat.add_assoc, Nat.succ_ne_zero, hp]
  refine s_slcH0 hv.1 (k := n) (by omega) fun v1 h1 => ?_
  simp only [push_cast, Nat.reduceAdd, Nat.reduceLeDiff, Nat.reduceLT, Int.reduceToNat, Nat.left_eq_add, Nat.add_eq_left, Nat.add_left_cancel_iff, Nat.reduceEqDiff, Nat.add_assoc, Nat.succ_ne_zero, hp]
  refine s_slcL0 hv.1 (k := n) (by omega) fun v2 h2 => ?_
  have o2 : S.oneCell v2 = true := h2.one
  simp only [push_cast, Nat.reduceAdd, Nat.reduceLeDiff, Nat.reduceLT, Int.reduceToNat, Nat.left_eq_add, Nat.add_eq_left, Nat.add_left_cancel_iff, Nat.reduceEqDiff, Nat.add_assoc, Nat.succ_ne_zero, hp, o2]
  rw [← List.map_take] at h1
  rw [← List.map_drop] at h2
  have hF : Fr (onP p) w (wr w p 0 [v2]) := Fr.step_wr (fp := onP p) (Fr.refl _ _) (.inl rfl) _ _
  refine hk v1 _ (lby_part hv (fun x hx => List.mem_of_mem_take hx) h1) (h.step hF (v := v2) ?_ (lby_part hv (fun x hx => List.mem_of_mem_drop hx) h2)) hF
  simp only [push_cast, Nat.reduceAdd, Nat.reduceLeDiff, Nat.reduceLT, Int.reduceToNat, Nat.left_eq_add, Nat.add_eq_left, Nat.add_left_cancel_iff, Nat.reduceEqDiff, Nat.add_assoc, Nat.succ_ne_zero, hp]

theorem lby_at0 {v : Value} (h : ByR w0 v bs) (hF : Fr none_ w0 w) {i : Nat} (hi : i < bs.length) {F : Value → World → Prop} (hk : F (u8 (bs.getD i 0)) w) : opS Try.prog (S.ia 126 v (.int .i64 i)) (fun x => opS Try.prog (S.ld 5 x) F) w := by
  refine s_iaE (h.fr hF fun _ _ h => h).1 (by omega) (by simpa using hi) fun b o c _ he => ?_
  simp only [push_cast, Nat.reduceAdd, Nat.reduceLeDiff, Nat.reduceLT, Int.reduceToNat, Nat.left_eq_add, Nat.add_eq_left, Nat.add_left_cancel_iff, Nat.reduceEqDiff, Nat.add_assoc, Nat.succ_ne_zero]
  rw [he.cell0 (by simp [cell1])]
  simp only [push_cast, Nat.reduceAdd, Nat.reduceLeDiff, Nat.reduceLT, Int.reduceToNat, Nat.left_eq_add, Nat.add_eq_left, Nat.add_left_cancel_iff, Nat.reduceEqDiff, Nat.add_assoc, Nat.succ_ne_zero, List.getElem_map, cell1, Int.toNat_natCast]
  rw [List.getD_eq_getElem?_getD, List.getElem?_eq_getElem hi] at hk
  exact hk

theorem lnumber_spec {n : Int} (h : DI w0 p (twoB n ++ cs) w) (hn : wth 65535 n) (hk : ∀ w', DI w0 p cs w' → Fr (onP p) w w' → K (i64 n) w') : CallsR Try.prog 99 #[pt p 0] K w := by
  apply c99
  unfold p99
  unfold wth at hn
  rw [opS_cl]
  refine ltake_spec (n := 2) h (by simp [twoB]) fun v1 w1 h1 h2 hF => ?_
  have h1 : ByR w0 v1 [n / 256, n % 256] := h1
  have h2 : DI w0 p cs w1 := h2
  have h3 := h2.fr0 (Fr.drew w1)
  have hF1 := hF.step_drew
  simp only [drw_eq]
  generalize w1.drew = W at *
  refine lby_at0 h1 h3.fr (i := 0) (by simp) ?_
  simp only [List.getD_cons_zero, opS_convI]
  rw [wrap_i64 (by omega)]
  have e : ∀ F : Value → World → Prop, opS Try.prog (S.binI .shl (i64 (n / 256)) (.int .u64 8)) F W = F (i64 (n / 256 * 256)) W := fun F => by
    have := opS_shl (P := Try.prog) (K := F) (w := W) .i64 .u64 (n / 256) 8 (by decide)
    rw [wrap_i64 (by omega)] at this
    exact this
  rw [e]
  refine lby_at0 h1 h3.fr (i := 1) (by simp) ?_
  simp only [List.getD_cons_succ, List.getD_cons_zero, opS_convI]
  rw [wrap_i64 (by omega), opS_or 8 (by omega) (by omega) (by omega) (by omega) (by omega) (by omega), show n / 256 * 256 + n % 256 = n by omega]
  exact hk W h3 hF1

theorem lmust_spec {v : Value} {ls : List Int} (h : DI w0 p (ls ++ cs) w) (hv : RdE 1 w v (ls.map cell1)) (hvp : ∀ b, blkS v = some b → b ≠ p) (hl : ls.length ≤ 1000) (hk : ∀ w', DI w0 p cs w' → Fr (onP p) w w' → K (.tuple #[]) w') : CallsR Try.prog 97 #[pt p 0, v] K w := by
  apply c97
  unfold p97
  obtain ⟨va, vc, rfl⟩ := hv.form
  rw [List.length_map] at hv hvp ⊢
  simp only [push_cast, Nat.reduceAdd, Nat.reduceLeDiff, Nat.reduceLT, Int.reduceToNat, Nat.left_eq_add, Nat.add_eq_left, Nat.add_left_cancel_iff, Nat.reduceEqDiff, Nat.add_assoc, Nat.succ_ne_zero]
  refine jn0 (fun W => DI w0 p cs W ∧ Fr (onP p) w W) (fun W ⟨h1, h2⟩ => hk W h1 h2) fun j hj => ?_
  refine loop1 (fun m u W => ∃ i : Nat, u = i64 i ∧ i + m = ls.length ∧ DI w0 p (ls.drop i ++ cs) W ∧ Fr (onP p) w W) ?_ ls.length ⟨0, rfl, by omega, h, Fr.refl _ _⟩
  rintro m u W X ⟨i, rfl, hi, hI, hF⟩ hX
  simp only [push_cast, Nat.reduceAdd, Nat.reduceLeDiff, Nat.reduceLT, Int.reduceToNat, Nat.left_eq_add, Nat.add_eq_left, Nat.add_left_cancel_iff, Nat.reduceEqDiff, Nat.add_assoc, Nat.succ_ne_zero]
  refine br_dec (fun hlt => ?_) fun hge => hj _ ⟨?_, hF⟩
  · have hil : i < ls.length := by omega
    have hwk : IntKind.i64.wrap ((i : Int) + 1) = ((i + 1 : Nat) : Int) := by rw [wrap_i64 (by omega)]; rfl
    refine s_iaE (es := ls.map cell1) (hv.fr hF fun b hb e => hvp b hb e) (by omega) (by simpa using hil) fun b1 o1 c1 _ hE => ?_
    simp only [Int.toNat_natCast, List.getElem_map] at hE ⊢
    have h1 : cellAt W.heap[b1]? (o1 + i * 1) = some (u8 ls[i]) := hE.cell0 (show 0 < 1 by decide)
    rw [s_ld1, h1, onS_some, opS_cl]
    rw [List.drop_eq_getElem_cons hil] at hI
    refine ltake_spec (n := 1) hI (by simp; omega) fun v1 w1 g1 g2 gF => ?_
    have g1 : ByR w0 v1 [ls[i]] := g1
    have g2 : DI w0 p (ls.drop (i + 1) ++ cs) w1 := g2
    refine lby_at0 g1 g2.fr (i := 0) (by simp) ?_
    simp only [List.getD_cons_zero, push_cast, Nat.reduceAdd, Nat.reduceLeDiff, Nat.reduceLT, Int.reduceToNat, Nat.left_eq_add, Nat.add_eq_left, Nat.add_left_cancel_iff, Nat.reduceEqDiff, Nat.add_assoc, Nat.succ_ne_zero, bne_self_eq_false, hwk]
    exact hX (m - 1) _ _ (by omega) ⟨i + 1, rfl, by omega, g2, hF.trans gF⟩
  · rw [List.drop_eq_nil_of_le (by omega), List.nil_append] at hI
    exact hI

/-! ### A part -/

/-- while a part is read: nothing at a, what is known at b -/
structure II (w : World) (w0 : World) (p a b : Nat) (g : Inf) (bs : List Int) (W : World) : Prop where
  ha : W.heap[a]? = some (cellsO Inf.zero.cells 107)
  hb : W.heap[b]? = some (cellsO g.cells 107)
  d : DI w0 p bs W
  f : Fr (onP p) w W
  la : w.heap.size ≤ a
  lb : w.heap.size ≤ b
  ap : a ≠ p
  bp : b ≠ p
  ab : a ≠ b
section
variable {a b : Nat} {g g' : Inf} {W W' : World}
theorem II.on (h : II w w0 p a b g bs W) (hd : DI w0 p cs W') (hF : Fr (onP p) W W') : II w w0 p a b g cs W' :=
  ⟨hF.heap h.ha h.ap, hF.heap h.hb h.bp, hd, h.f.trans hF, h.la, h.lb, h.ap, h.bp, h.ab⟩
theorem II.keep (h : II w w0 p a b g bs W) (hF : Fr none_ W W') : II w w0 p a b g bs W' := h.on (h.d.fr0 hF) (hF.mono fun _ _ h => h.elim)
theorem II.put (h : II w w0 p a b g bs W) {o : Nat} {vs : List Value} (he : splice g.cells o vs = g'.cells) (hw0 : w0.heap.size ≤ w.heap.size) : II w w0 p a b g' bs (wr W b o vs) := by
  have hF : Fr (fun x => x = b) W (wr W b o vs) := Fr.wr _ _ _ _ rfl
  refine ⟨hF.heap h.ha h.ab, ?_, h.d.oth hF h.bp (by have := h.lb; omega), h.f.trans_new hF fun x hx e => by have := h.lb; omega, h.la, h.lb, h.ap, h.bp, h.ab⟩
  rw [heap_wr, if_pos rfl, h.hb, putAt_cells, he]
theorem ii_num {n : Int} (h : II w w0 p a b g (twoB n ++ cs) W) (hn : wth 65535 n) (hk : ∀ W', II w w0 p a b g cs W' → K (i64 n) W') : opS Try.prog (S.cl 99 [pt p 0]) K W := by
  rw [opS_cl]
  exact lnumber_spec h.d hn fun W' h1 h2 => hk W' (h.on h1 h2)
theorem ii_must {v : Value} {ls : List Int} (h : II w w0 p a b g (ls ++ cs) W) (hv : RdE 1 W v (ls.map cell1)) (hvp : ∀ b, blkS v = some b → b ≠ p) (hl : ls.length ≤ 1000) (hk : ∀ W', II w w0 p a b g cs W' → K (.tuple #[]) W') : opS Try.prog (S.cl 97 [pt p 0, v]) K W := by
  rw [opS_cl]
  exact lmust_spec h.d hv hvp hl fun W' h1 h2 => hk W' (h.on h1 h2)
theorem ii_take {n : Nat} (h : II w w0 p a b g bs W) (hn : n ≤ bs.length) (hk : ∀ v1 W', ByR w0 v1 (bs.take n) → II w w0 p a b g (bs.drop n) W' → K v1 W') : opS Try.prog (S.cl 127 [pt p 0, i64 n]) K W := by
  rw [opS_cl]
  exact ltake_spec h.d hn fun v1 W' h1 h2 h3 => hk v1 W' h1 (h.on h2 h3)
theorem ii_st {o : Nat} {n : Int} (h : II w w0 p a b g bs W) (ho : o < 11) (he : splice g.cells o [i64 n] = g'.cells) (hw0 : w0.heap.size ≤ w.heap.size) (hk : ∀ W', II w w0 p a b g' bs W' → K undef W') : opS Try.prog (S.st 3 (pt b o) (i64 n)) K W := by
  have := hk _ (h.put he hw0)
  rw [s_st1 _ _ _ rfl, h.hb, okAt_cells, Inf.len, decide_eq_true (by omega)]
  exact (onB_true _).symm ▸ this
theorem ii_key {n : Int} (h : II w w0 p a b g bs W) (hw0 : w0.heap.size ≤ w.heap.size) (hk : ∀ W', II w w0 p a b { g with key := n } bs W' → K undef W') : opS Try.prog (S.st 3 (pt b 7) (i64 n)) K W := ii_st (g' := { g with key := n }) h (by decide) (Inf.s_key g n) hw0 hk
theorem ii_pprio {n : Int} (h : II w w0 p a b g bs W) (hw0 : w0.heap.size ≤ w.heap.size) (hk : ∀ W', II w w0 p a b { g with pprio := n } bs W' → K undef W') : opS Try.prog (S.st 3 (pt b 8) (i64 n)) K W := ii_st (g' := { g with pprio := n }) h (by decide) (Inf.s_pprio g n) hw0 hk
theorem ii_port {n : Int} (h : II w w0 p a b g bs W) (hw0 : w0.heap.size ≤ w.heap.size) (hk : ∀ W', II w w0 p a b { g with port := n } bs W' → K undef W') : opS Try.prog (S.st 3 (pt b 9) (i64 n)) K W := ii_st (g' := { g with port := n }) h (by decide) (Inf.s_port g n) hw0 hk
theorem ii_state {n : Int} (h : II w w0 p a b g bs W) (hw0 : w0.heap.size ≤ w.heap.size) (hk : ∀ W', II w w0 p a b { g with state := n } bs W' → K undef W') : opS Try.prog (S.st 3 (pt b 10) (i64 n)) K W := ii_st (g' := { g with state := n }) h (by decide) (Inf.s_state g n) hw0 hk
end
theorem info1 {x : Int} : opS Try.prog (S.build 107 [(0, i64 x)]) K w = K (.agg (Inf.cells ⟨x, ⟨0, 0, 0, 0, 0, 0⟩, 0, 0, 0, 0⟩).toArray) w := by
  rw [opS_build _ rfl]; rfl

theorem infB_app (k : Int) (x : Inf) (cs : List Int) : infB k x ++ cs = [k, 20] ++ (twoB x.prio ++ (macBs x.sys ++ (twoB x.key ++ (twoB x.pprio ++ (twoB x.port ++ ([x.state] ++ ([0, 0, 0] ++ cs))))))) := by
  unfold infB; simp only [List.append_assoc]

set_option maxHeartbeats 300000 in
theorem linfo_spec {k : Int} {x : Inf} (h : DI w0 p (infB k x ++ cs) w) (hx : x.right) (hs : x.sys.ok) (hk : ∀ w', DI w0 p cs w' → Fr (onP p) w w' → K (.agg x.cells.toArray) w') : CallsR Try.prog 98 #[pt p 0, u8 k] K w := by
  apply c98
  unfold p98
  rw [infB_app] at h
  obtain ⟨r1, r2, r3, r4, r5⟩ := hx
  have r5 : isSt x.state := r5
  have hpw : p < w.heap.size := by obtain ⟨v, h1, _⟩ := h.r; exact lt_of_heap h1
  have hw0 := h.fr.size
  rw [zalloc_inf]
  have F1 : Fr none_ w (w.alloc (cellsO Inf.zero.cells 107)) := (by repeat' first | with_reducible exact Fr.refl _ _ | with_reducible refine Fr.step_alloc ?_ ?_ | with_reducible refine Fr.step_drew ?_ | with_reducible refine Fr.step_wr ?_ ?_ _ _ | exact rfl | exact Or.inr (by omega) | exact Or.inl rfl | exact Or.inl (Or.inl rfl) | exact Or.inl (Or.inr rfl))
  have q1 : (w.alloc (cellsO Inf.zero.cells 107)).heap[w.heap.size]? = some (cellsO Inf.zero.cells 107) := by simp only [push_cast, Nat.reduceAdd, Nat.reduceLeDiff, Nat.reduceLT, Int.reduceToNat, Nat.left_eq_add, Nat.add_eq_left, Nat.add_left_cancel_iff, Nat.reduceEqDiff, Nat.add_assoc, Nat.succ_ne_zero]
  generalize w.alloc (cellsO Inf.zero.cells 107) = W1 at *
  generalize ha : w.heap.size = a at *
  have d1 := h.fr0 F1
  refine s_bs2c (z := .int .u8 0) rfl rfl rfl fun u W2 hu F2 hN => ?_
  have d2 := d1.fr0 F2
  have q2 := F2.heap q1 fun h => h
  have s1 := F1.size
  rw [opS_cl]
  refine lmust_spec (ls := [k, 20]) d2 hu.rd (fun b hb => by have := hN b hb; omega) (by simp) fun W3 d3 F3 => ?_
  have q3 := F3.heap q2 (by unfold onP; omega)
  rw [opS_cl]
  refine lnumber_spec d3 r1 fun W4 d4 F4 => ?_
  have q4 := F4.heap q3 (by unfold onP; omega)
  have F04 : Fr (onP p) w W4 := ((((F1.trans F2).mono fun _ _ h => h.elim).trans F3).trans F4)
  rw [info1, zalloc_inf, s_stA _ _ _ (Inf.len _) (Inf.one _), heap_alloc, if_pos rfl, okAt_cells]
  refine (onB_true _).symm ▸ ?_
  have F5 : Fr none_ W4 (wr (W4.alloc (cellsO Inf.zero.cells 107)) W4.heap.size 0 (Inf.cells ⟨x.prio, ⟨0, 0, 0, 0, 0, 0⟩, 0, 0, 0, 0⟩)) := (by repeat' first | with_reducible exact Fr.refl _ _ | with_reducible refine Fr.step_alloc ?_ ?_ | with_reducible refine Fr.step_drew ?_ | with_reducible refine Fr.step_wr ?_ ?_ _ _ | exact rfl | exact Or.inr (by omega) | exact Or.inl rfl | exact Or.inl (Or.inl rfl) | exact Or.inl (Or.inr rfl))
  have q5 : (wr (W4.alloc (cellsO Inf.zero.cells 107)) W4.heap.size 0 (Inf.cells ⟨x.prio, ⟨0, 0, 0, 0, 0, 0⟩, 0, 0, 0, 0⟩)).heap[W4.heap.size]? = some (cellsO (Inf.cells ⟨x.prio, ⟨0, 0, 0, 0, 0, 0⟩, 0, 0, 0, 0⟩) 107) := by simp only [push_cast, Nat.reduceAdd, Nat.reduceLeDiff, Nat.reduceLT, Int.reduceToNat, Nat.left_eq_add, Nat.add_eq_left, Nat.add_left_cancel_iff, Nat.reduceEqDiff, Nat.add_assoc, Nat.succ_ne_zero]
  have s4 := F04.size
  have hab : a < W4.heap.size := lt_of_heap q4
  generalize wr (W4.alloc (cellsO Inf.zero.cells 107)) W4.heap.size 0 (Inf.cells ⟨x.prio, ⟨0, 0, 0, 0, 0, 0⟩, 0, 0, 0, 0⟩) = W5 at *
  generalize hb : W4.heap.size = b at *
  have hI : II w w0 p a b ⟨x.prio, ⟨0, 0, 0, 0, 0, 0⟩, 0, 0, 0, 0⟩ _ W5 := ⟨F5.heap q4 fun h => h, q5, d4.fr0 F5, F04.trans (F5.mono fun _ _ h => h.elim), by omega, by omega, by omega, by omega, by omega⟩
  have hI := hI.keep (Fr.drew W5)
  simp only [drw_eq, fa107_1, fa107_2, fa107_3, fa107_4, fa107_5, opS_slcA, Nat.zero_add]
  generalize W5.drew = W at *
  refine ii_take (n := 6) hI (by simp [macBs]) fun v1 W6 h1 hI => ?_
  have h1 : ByR w0 v1 (macBs x.sys) := h1
  have hI : II w w0 p a b ⟨x.prio, ⟨0, 0, 0, 0, 0, 0⟩, 0, 0, 0, 0⟩ (twoB x.key ++ (twoB x.pprio ++ (twoB x.port ++ ([x.state] ++ ([0, 0, 0] ++ cs))))) W6 := hI
  have hr := (h1.fr hI.d.fr fun _ _ h => h).1.1
  rw [flat_cell1, List.length_map, show (macBs x.sys).length = 6 from rfl] at hr
  rw [s_copy (sz := 1) hI.hb hr (by rw [← flat_cell1]; exact flat_cell1_one _) (Nat.le_refl _) (by show 1 + 6 * 1 ≤ 11; decide)]
  have hI := hI.put (o := 1) (vs := (macBs x.sys).map u8) (g' := ⟨x.prio, x.sys, 0, 0, 0, 0⟩) rfl (by omega)
  generalize wr W6 b 1 ((macBs x.sys).map u8) = W7 at *
  refine ii_num hI r2 fun W8 hI => ?_
  refine ii_num hI r3 fun W9 hI => ?_
  refine ii_num hI r4 fun W10 hI => ?_
  rw [fa107_2, Nat.zero_add]
  refine ii_key hI (by omega) fun W11 hI => ?_
  rw [fa107_3, Nat.zero_add]
  refine ii_pprio hI (by omega) fun W12 hI => ?_
  rw [fa107_4, Nat.zero_add]
  refine ii_port hI (by omega) fun W13 hI => ?_
  refine ii_take (n := 1) hI (by simp) fun v1 W14 h1 hI => ?_
  have h1 : ByR w0 v1 [x.state] := h1
  have hI : II w w0 p a b ⟨x.prio, x.sys, x.key, x.pprio, x.port, 0⟩ ([0, 0, 0] ++ cs) W14 := hI
  refine lby_at0 h1 hI.d.fr (i := 0) (by simp) ?_
  simp only [List.getD_cons_zero, opS_convI]
  unfold isSt at r5
  rw [wrap_i64 (by omega)]
  rw [fa107_5, Nat.zero_add]
  refine ii_state hI (by omega) fun W15 hI => ?_
  rw [opS_mks (by_ := 1) (z := .int .u8 0) (n := 1) _ _ _ (by decide) (by decide) (by decide) rfl (by decide)]
  have hpl : p < W15.heap.size := by have := hI.f.size; omega
  have F16 : Fr none_ W15 (W15.alloc (.cells (zeros (3 : Int).toNat (Value.int .u8 0).cells.toList).toArray 5)) := Fr.alloc _ _ rfl
  have hI := hI.keep F16
  have hz : RdE 1 (W15.alloc (.cells (zeros (3 : Int).toNat (Value.int .u8 0).cells.toList).toArray 5)) (.slice (some ⟨W15.heap.size, 0, none⟩) (3 : Int).toNat (3 : Int).toNat) (([0, 0, 0] : List Int).map cell1) :=
    ⟨.inr ⟨W15.heap.size, 0, 3, _, _, (0, 0), rfl, heap_alloc_new _ _, Nat.le_refl _, by decide, rfl⟩, by simp [cell1]⟩
  generalize W15.alloc (.cells (zeros (3 : Int).toNat (Value.int .u8 0).cells.toList).toArray 5) = W16 at *
  refine ii_must hI hz (fun b hb => by have : W15.heap.size = b := Option.some.inj hb; omega) (by simp) fun W17 hI => ?_
  have e11 : ∀ y : Inf, aggAt (some (cellsO y.cells 107)) 0 11 = some (.agg y.cells.toArray) := fun y => by simp only [push_cast, Nat.reduceAdd, Nat.reduceLeDiff, Nat.reduceLT, Int.reduceToNat, Nat.left_eq_add, Nat.add_eq_left, Nat.add_left_cancel_iff, Nat.reduceEqDiff, Nat.add_assoc, Nat.succ_ne_zero]
  rw [s_ldN (n := 11) (hn := by decide), hI.hb, e11, onS_some, s_stA _ _ _ (Inf.len _) (Inf.one _), hI.ha, okAt_cells]
  refine (onB_true _).symm ▸ ?_
  have hF : Fr (fun y => y = a) W17 (wr W17 a 0 x.cells) := Fr.wr _ _ _ _ rfl
  have qa : (wr W17 a 0 x.cells).heap[a]? = some (cellsO x.cells 107) := by rw [heap_wr, if_pos rfl, hI.ha, putAt_cells, Inf.sw]
  rw [s_ldN (n := 11) (hn := by decide), qa, e11, onS_some]
  exact hk _ (hI.d.oth hF hI.ap (by omega)) (hI.f.trans_new hF fun y hy e => by have := hI.la; omega)

end Go.Gx.S
end

section
/- Bytes that are read as what ends of links tell. -/
set_option linter.unusedVariables false
set_option linter.unusedSimpArgs false
set_option maxRecDepth 100000
namespace Go.Gx.S
open Go Go.Gx Go.Proofs Go.Sort
variable {K : Value → World → Prop} {w w0 : World} {p : Nat} {bs cs : List Int}

/-- while all is read: what is known at s -/
structure LI (w : World) (w0 : World) (p s : Nat) (g : Lcp) (bs : List Int) (W : World) : Prop where
  hs : W.heap[s]? = some (cellsO g.cells 123)
  d : DI w0 p bs W
  f : Fr (fun b => b = p ∨ b = s) w W
  sp : s ≠ p
  ls : w0.heap.size ≤ s
section
variable {s : Nat} {g g' : Lcp} {W W' : World}
theorem LI.on (h : LI w w0 p s g bs W) (hd : DI w0 p cs W') (hF : Fr (onP p) W W') : LI w w0 p s g cs W' := ⟨hF.heap h.hs h.sp, hd, h.f.trans (hF.mono fun _ _ e => .inl e), h.sp, h.ls⟩
theorem LI.keep (h : LI w w0 p s g bs W) (hF : Fr none_ W W') : LI w w0 p s g bs W' := h.on (h.d.fr0 hF) (hF.mono fun _ _ h => h.elim)
theorem LI.put (h : LI w w0 p s g bs W) {o : Nat} {vs : List Value} (he : splice g.cells o vs = g'.cells) : LI w w0 p s g' bs (wr W s o vs) := by
  have hF : Fr (fun x => x = s) W (wr W s o vs) := Fr.wr _ _ _ _ rfl
  refine ⟨?_, h.d.oth hF h.sp h.ls, h.f.trans (hF.mono fun _ _ e => .inr e), h.sp, h.ls⟩
  rw [heap_wr, if_pos rfl, h.hs, putAt_cells, he]
theorem li_must {v : Value} {ls : List Int} (h : LI w w0 p s g (ls ++ cs) W) (hv : RdE 1 W v (ls.map cell1)) (hvp : ∀ b, blkS v = some b → b ≠ p) (hl : ls.length ≤ 1000) (hk : ∀ W', LI w w0 p s g cs W' → K (.tuple #[]) W') : opS Try.prog (S.cl 97 [pt p 0, v]) K W := by
  rw [opS_cl]
  exact lmust_spec h.d hv hvp hl fun W' h1 h2 => hk W' (h.on h1 h2)
theorem li_num {n : Int} (h : LI w w0 p s g (twoB n ++ cs) W) (hn : wth 65535 n) (hk : ∀ W', LI w w0 p s g cs W' → K (i64 n) W') : opS Try.prog (S.cl 99 [pt p 0]) K W := by
  rw [opS_cl]
  exact lnumber_spec h.d hn fun W' h1 h2 => hk W' (h.on h1 h2)
theorem li_info {k : Int} {x : Inf} (h : LI w w0 p s g (infB k x ++ cs) W) (hx : x.right) (hs : x.sys.ok) (hk : ∀ W', LI w w0 p s g cs W' → K (.agg x.cells.toArray) W') : opS Try.prog (S.cl 98 [pt p 0, u8 k]) K W := by
  rw [opS_cl]
  exact linfo_spec h.d hx hs fun W' h1 h2 => hk W' (h.on h1 h2)
theorem LI.lt (h : LI w w0 p s g bs W) : p < W.heap.size := by obtain ⟨v, h1, _⟩ := h.d.r; exact lt_of_heap h1
end

theorem lcpB_app (l : Lcp) : lcpB l = [1, 1] ++ (infB 1 l.actor ++ (infB 2 l.partner ++ ([3, 16] ++ (twoB l.delay ++ (List.replicate 64 0 ++ []))))) := by
  unfold lcpB; simp only [List.append_assoc, List.append_nil]

theorem decode1_spec {s : Nat} {g l : Lcp} (h : LI w w0 p s g (lcpB l) w) (hr : l.right) (ha : l.actor.sys.ok) (hp : l.partner.sys.ok) (hk : ∀ W, LI w w0 p s { l with delay := l.delay } [] W → K (.tuple #[]) W) : CallsR Try.prog 96 #[pt p 0, pt s 0] K w := by
  apply c96
  unfold p96
  rw [lcpB_app] at h
  refine s_bs2c (z := .int .u8 0) rfl rfl rfl fun u W1 hu F1 hN => ?_
  have hpl := h.lt
  refine li_must (ls := [1, 1]) (h.keep F1) hu.rd (fun b hb => by have := hN b hb; omega) (by decide) fun W2 h2 => ?_
  refine li_info h2 hr.1 ha fun W3 h3 => ?_
  refine li_info h3 hr.2.1 hp fun W4 h4 => ?_
  have ok1 : ∀ {o n : Nat} {y : Lcp}, o + n ≤ 23 → okAt (some (cellsO y.cells 123)) o n = true := fun {o n y} hh => by rw [okAt_cells, Lcp.len]; exact decide_eq_true hh
  rw [fa123_0, s_stA _ _ _ (Inf.len _) (Inf.one _), h4.hs, ok1 (by decide)]
  refine (onB_true _).symm ▸ ?_
  have h5 := h4.put (Lcp.s_actor g l.actor)
  generalize wr W4 s 0 l.actor.cells = W5 at *
  rw [fa123_1, s_stA _ _ _ (Inf.len _) (Inf.one _), h5.hs, ok1 (by decide)]
  refine (onB_true _).symm ▸ ?_
  have h6 := h5.put (Lcp.s_partner _ l.partner)
  simp only [Nat.zero_add]
  generalize wr W5 s 11 l.partner.cells = W6 at *
  refine s_bs2c (z := .int .u8 0) rfl rfl rfl fun u W7 hu F7 hN => ?_
  have hpl := h6.lt
  refine li_must (ls := [3, 16]) (h6.keep F7) hu.rd (fun b hb => by have := hN b hb; omega) (by decide) fun W8 h8 => ?_
  refine li_num h8 hr.2.2 fun W9 h9 => ?_
  rw [fa123_2, s_st1 _ _ _ rfl, h9.hs, ok1 (by decide)]
  refine (onB_true _).symm ▸ ?_
  have h10 := h9.put (Lcp.s_delay _ l.delay)
  simp only [Nat.zero_add]
  generalize wr W9 s 22 [i64 l.delay] = W10 at *
  have hpl := h10.lt
  rw [opS_mks (by_ := 1) (z := .int .u8 0) (n := 1) _ _ _ (by decide) (by decide) (by decide) rfl (by decide)]
  have F11 : Fr none_ W10 (W10.alloc (.cells (zeros (64 : Int).toNat (Value.int .u8 0).cells.toList).toArray 5)) := Fr.alloc _ _ rfl
  have h11 := h10.keep F11
  have hz : RdE 1 (W10.alloc (.cells (zeros (64 : Int).toNat (Value.int .u8 0).cells.toList).toArray 5)) (.slice (some ⟨W10.heap.size, 0, none⟩) (64 : Int).toNat (64 : Int).toNat) ((List.replicate 64 (0 : Int)).map cell1) :=
    ⟨.inr ⟨W10.heap.size, 0, 64, _, _, (0, 0), rfl, heap_alloc_new _ _, Nat.le_refl _, by decide, rfl⟩, fun e he => by rw [List.map_replicate] at he; rw [List.eq_of_mem_replicate he]; rfl⟩
  generalize W10.alloc (.cells (zeros (64 : Int).toNat (Value.int .u8 0).cells.toList).toArray 5) = W11 at *
  refine li_must h11 hz (fun b hb => by have : W10.heap.size = b := Option.some.inj hb; omega) (by decide) fun W12 h12 => ?_
  exact hk _ h12

theorem lrun_tas_nil (w : World) : (Instr.typeAssert .nilIface 20 190 true).run Try.prog w = .ok (.tuple #[.agg #[], .bool false]) w := by
  unfold Instr.typeAssert
  rw [Sem.run_bind, run_underlying_of Try.underlying190, Result.andThen_ok]
  show (do pure (.tuple #[← zeroValue 190, .bool false]) : Sem Value).run Try.prog w = _
  rw [Sem.run_bind, Try.zeroValue190, Result.andThen_ok]
  rfl
theorem lguard1_idle {t : Nat} (w : World) : CallsDIn Fence.wide 0 Try.prog 126 #[pt t 0] .returning w fun e u' w' => (∃ v, e = .returned v) ∧ u' = .returning ∧ w' = w.alloc (cellsO [] 190) := by
  refine callsDIn_of_wpSIn Try.func126 rfl trivial fun c₀ cs hu => ?_
  apply wpSIn_seq
  apply wpSIn_region
  simp [wpOpsSIn, go_sem, recoverD, hu, Try.ntmps126, Exit.thenS, lrun_tas_nil]
  apply wpSIn_seq
  apply wpSIn_region
  simp [wpOpsSIn, go_sem, Exit.thenS]
  refine wpSIn_cond (t := false) (by simp [Act.eval]) ?_
  simp only [Bool.false_eq_true, if_false]
  refine wpSIn_of_wpIn rfl (wpIn_skip ?_)
  cases c₀
  simp_all [bodyPostS, results, Try.results126]
  rfl
theorem lguard_end {t : Nat} {R : Value → World → Prop} (h : ∀ w', Fr none_ w w' → R undef w') : dcallS Try.prog (.func 126) #[] #[pt t 0] R w := by
  refine ⟨_, _, rfl, (lguard1_idle (t := t) w).mono ?_⟩
  rintro e u' w' ⟨he, hu, rfl⟩
  exact ⟨he, hu, h _ (by repeat' first | with_reducible exact Fr.refl _ _ | with_reducible refine Fr.step_alloc ?_ ?_ | with_reducible refine Fr.step_drew ?_ | with_reducible refine Fr.step_wr ?_ ?_ _ _ | exact rfl | exact Or.inr (by omega) | exact Or.inl rfl | exact Or.inl (Or.inl rfl) | exact Or.inl (Or.inr rfl))⟩
theorem lzalloc_bool : opS Try.prog (S.alloc 4) K w = K (pt w.heap.size 0) (w.alloc (cellsO [.bool false] 4)) := by
  rw [opS_alloc]; rfl
theorem lzalloc_lcp : opS Try.prog (S.alloc 123) K w = K (pt w.heap.size 0) (w.alloc (cellsO (Lcp.cells ⟨Inf.zero, Inf.zero, 0⟩) 123)) := by
  rw [opS_alloc]; rfl
theorem lzalloc_reader : opS Try.prog (S.alloc 160) K w = K (pt w.heap.size 0) (w.alloc (cellsO [.slice none 0 0] 160)) := by
  rw [opS_alloc]; rfl

theorem lguarded_spec {s : Nat} {l : Lcp} {g : Lcp} (h : LI w w0 p s g (lcpB l) w) (hr : l.right) (ha : l.actor.sys.ok) (hp : l.partner.sys.ok)
    (hk : ∀ W, LI w w0 p s l [] W → K (.bool true) W) : CallsR Try.prog 95 #[.func (.func 96) #[] #[pt p 0, pt s 0]] K w := by
  apply c95
  unfold p95
  rw [lzalloc_bool]
  have F1 : Fr none_ w (w.alloc (cellsO [.bool false] 4)) := (by repeat' first | with_reducible exact Fr.refl _ _ | with_reducible refine Fr.step_alloc ?_ ?_ | with_reducible refine Fr.step_drew ?_ | with_reducible refine Fr.step_wr ?_ ?_ _ _ | exact rfl | exact Or.inr (by omega) | exact Or.inl rfl | exact Or.inl (Or.inl rfl) | exact Or.inl (Or.inr rfl))
  have q1 : (w.alloc (cellsO [.bool false] 4)).heap[w.heap.size]? = some (cellsO [.bool false] 4) := by simp only [push_cast, Nat.reduceAdd, Nat.reduceLeDiff, Nat.reduceLT, Int.reduceToNat, Nat.left_eq_add, Nat.add_eq_left, Nat.add_left_cancel_iff, Nat.reduceEqDiff, Nat.add_assoc, Nat.succ_ne_zero]
  have h1 : LI (w.alloc (cellsO [.bool false] 4)) w0 p s g (lcpB l) (w.alloc (cellsO [.bool false] 4)) := ⟨(h.keep F1).hs, (h.keep F1).d, Fr.refl _ _, h.sp, h.ls⟩
  have hpl := h.lt
  have hsl := lt_of_heap h.hs
  generalize w.alloc (cellsO [.bool false] 4) = W1 at *
  generalize ht : w.heap.size = t at *
  rw [opS_mkf]
  simp only [opS_isF, opS_call]
  refine decode1_spec h1 hr ha hp fun W2 h2 => ?_
  have q2 := h2.f.heap q1 (by omega)
  rw [s_st1 _ _ _ rfl, q2, okAt_cells]
  refine (onB_true _).symm ▸ ?_
  have F3 : Fr (fun x => x = t) W2 (wr W2 t 0 [.bool true]) := Fr.wr _ _ _ _ rfl
  have q3 : (wr W2 t 0 [.bool true]).heap[t]? = some (cellsO [.bool true] 4) := by rw [heap_wr, if_pos rfl, q2, putAt_cells]; rfl
  have hw0 := h.d.fr.size
  have d3 := h2.d.oth F3 (by omega) (by omega)
  have s3 := F3.heap h2.hs (by omega)
  have Fw3 : Fr (fun b => b = p ∨ b = s) w (wr W2 t 0 [.bool true]) := ((F1.mono fun _ _ h => h.elim).trans h2.f).trans_new F3 fun b hb e => by omega
  generalize wr W2 t 0 [.bool true] = W3 at *
  rw [takeD_func]
  refine lguard_end fun W4 F4 => ?_
  rw [s_ld1, F4.heap q3 fun h => h, cellAt_cells]
  simp only [List.getElem?_cons_zero, onS_some]
  exact hk W4 ⟨F4.heap s3 fun h => h, d3.fr0 F4, Fw3.trans (F4.mono fun _ _ h => h.elim), h.sp, h.ls⟩

theorem ldecode_spec {v : Value} {l : Lcp} (hv : ByR w v (lcpB l)) (hr : l.right) (ha : l.actor.sys.ok) (hp : l.partner.sys.ok)
    (hk : ∀ w', Fr none_ w w' → K (.tuple #[.agg l.cells.toArray, i64 0]) w') : CallsR Try.prog 62 #[v] K w := by
  apply c62
  unfold p62
  have ov : S.oneCell v = true := hv.one
  rw [lzalloc_lcp, lzalloc_lcp, lzalloc_reader, s_st1 _ _ _ ov]
  simp only [size_alloc, heap_alloc, if_true, okAt_cells]
  refine (onB_true _).symm ▸ ?_
  refine at_w (fun W => W.heap[w.heap.size]? = some (cellsO (Lcp.cells ⟨Inf.zero, Inf.zero, 0⟩) 123) ∧ W.heap[w.heap.size + 1]? = some (cellsO (Lcp.cells ⟨Inf.zero, Inf.zero, 0⟩) 123) ∧ W.heap[w.heap.size + 2]? = some (cellsO [v] 160) ∧ Fr none_ w W) ⟨?_, ?_, ?_, (by repeat' first | with_reducible exact Fr.refl _ _ | with_reducible refine Fr.step_alloc ?_ ?_ | with_reducible refine Fr.step_drew ?_ | with_reducible refine Fr.step_wr ?_ ?_ _ _ | exact rfl | exact Or.inr (by omega) | exact Or.inl rfl | exact Or.inl (Or.inl rfl) | exact Or.inl (Or.inr rfl))⟩ ?_
  · simp only [push_cast, Nat.reduceAdd, Nat.reduceLeDiff, Nat.reduceLT, Int.reduceToNat, Nat.left_eq_add, Nat.add_eq_left, Nat.add_left_cancel_iff, Nat.reduceEqDiff, Nat.add_assoc, Nat.succ_ne_zero]
  · simp only [push_cast, Nat.reduceAdd, Nat.reduceLeDiff, Nat.reduceLT, Int.reduceToNat, Nat.left_eq_add, Nat.add_eq_left, Nat.add_left_cancel_iff, Nat.reduceEqDiff, Nat.add_assoc, Nat.succ_ne_zero]
  · simp only [push_cast, Nat.reduceAdd, Nat.reduceLeDiff, Nat.reduceLT, Int.reduceToNat, Nat.left_eq_add, Nat.add_eq_left, Nat.add_left_cancel_iff, Nat.reduceEqDiff, Nat.add_assoc, Nat.succ_ne_zero]
  rintro W0 ⟨g1, g2, g3, F0⟩
  generalize hr1 : w.heap.size = n at *
  rw [opS_mkf, opS_cl]
  have hI : LI W0 w (n + 2) (n + 1) ⟨Inf.zero, Inf.zero, 0⟩ (lcpB l) W0 := ⟨g2, ⟨⟨v, g3, hv⟩, F0, by omega⟩, Fr.refl _ _, by omega, by omega⟩
  refine lguarded_spec hI hr ha hp fun W1 hI => ?_
  obtain ⟨v2, hp2, hv2⟩ := hI.d.r
  obtain ⟨va, vc, rfl⟩ := hv2.form
  have q1 := hI.f.heap g1 (by omega)
  have e23 : ∀ y : Lcp, aggAt (some (cellsO y.cells 123)) 0 23 = some (.agg y.cells.toArray) := fun y => by simp only [push_cast, Nat.reduceAdd, Nat.reduceLeDiff, Nat.reduceLT, Int.reduceToNat, Nat.left_eq_add, Nat.add_eq_left, Nat.add_left_cancel_iff, Nat.reduceEqDiff, Nat.add_assoc, Nat.succ_ne_zero]
  rw [show n + 2 = n + 1 + 1 from rfl]
  simp only [push_cast, Nat.reduceAdd, Nat.reduceLeDiff, Nat.reduceLT, Int.reduceToNat, Nat.left_eq_add, Nat.add_eq_left, Nat.add_left_cancel_iff, Nat.reduceEqDiff, Nat.add_assoc, Nat.succ_ne_zero, hp2, Bool.false_eq_true, if_false]
  refine br_no (by omega) ?_
  rw [hI.hs, e23, onS_some, s_stA _ _ _ (Lcp.len _) (Lcp.one _), q1, okAt_cells]
  refine (onB_true _).symm ▸ ?_
  have qa : (wr W1 n 0 l.cells).heap[n]? = some (cellsO l.cells 123) := by rw [heap_wr, if_pos rfl, q1, putAt_cells, Lcp.sw]
  rw [s_ldN (n := 23) (hn := by decide), qa, e23, onS_some]
  have hF : Fr (fun x => x = n) W1 (wr W1 n 0 l.cells) := Fr.wr _ _ _ _ rfl
  exact hk _ ((F0.trans_new hI.f fun b hb e => by omega).trans_new hF fun b hb e => by omega)

end Go.Gx.S
end

section
/- What a group tells, as bytes, and read again, at another one; three slices that grow. -/
set_option linter.unusedVariables false
set_option linter.unusedSimpArgs false
set_option maxRecDepth 100000
namespace Go.Gx.S
open Go Go.Gx Go.Proofs Go.Sort
variable {K : Value → World → Prop} {w : World} {g : Nat} {bs : List B3} {pv : Value} {s : Grp}

theorem loop4 {B : (Value → Value → Value → Value → World → Prop) → Value → Value → Value → Value → World → Prop} (I : Nat → Value → Value → Value → Value → World → Prop) (h : ∀ n v u x y w X, I n v u x y w → (∀ m v' u' x' y' w', m < n → I m v' u' x' y' w' → X v' u' x' y' w') → B X v u x y w) (n : Nat) {v u x y : Value} (h0 : I n v u x y w) : loopJ 4 B v u x y w := by
  intro X hX
  have key : ∀ n v u x y w, (∃ m, m ≤ n ∧ I m v u x y w) → X v u x y w := by
    intro n
    induction n with
    | zero =>
      rintro v u x y w ⟨m, hm, hi⟩
      obtain rfl : m = 0 := by omega
      exact hX v u x y w (h 0 v u x y w X hi fun m v' u' x' y' w' hm _ => by omega)
    | succ n ih =>
      rintro v u x y w ⟨m, hm, hi⟩
      exact hX v u x y w (h m v u x y w X hi fun k v' u' x' y' w' hk hi' => ih v' u' x' y' w' ⟨k, by omega, hi'⟩)
  exact key n v u x y w ⟨n, Nat.le_refl _, h0⟩

/-- what is told may be told -/
def tldR (t : Tld) : Prop := t.ok ∧ t.l.right ∧ t.l.actor.sys.ok ∧ t.l.partner.sys.ok
theorem tick_r {now : Int} (h : s.wf) : ∀ x ∈ s.tickO now, tldR x := fun x hx => by
  refine ⟨tick_ok h x hx, ?_⟩
  unfold Grp.tickO at hx
  split at hx
  · rename_i hn
    unfold saysL at hx
    obtain ⟨y, hy, rfl⟩ := List.mem_map.1 hx
    have hw := ((h.ticked hn).l y (List.mem_filter.1 hy).1).e
    exact ⟨⟨hw.actor.1, hw.partner, by show wth 65535 0; decide⟩, hw.actor.2, hw.psys⟩
  · cases hx

theorem lcpB_ok {l : Lcp} (hr : l.right) (ha : l.actor.sys.ok) (hp : l.partner.sys.ok) : ∀ b ∈ lcpB l, isB b := by
  intro b hb
  unfold lcpB at hb
  simp only [List.mem_append] at hb
  rcases hb with ((((hb | hb) | hb) | hb) | hb) | hb
  · simp only [List.mem_cons, List.not_mem_nil, or_false] at hb; unfold isB; omega
  · exact infB_ok (by unfold isB; omega) hr.1 ha b hb
  · exact infB_ok (by unfold isB; omega) hr.2.1 hp b hb
  · simp only [List.mem_cons, List.not_mem_nil, or_false] at hb; unfold isB; omega
  · exact twoB_ok hr.2.2 b hb
  · rw [List.eq_of_mem_replicate hb]; unfold isB; omega

theorem over_spec {v : Value} {l : List Tld} {now : Int} (h : CG w g bs pv s) (hw : s.wf) (hv : RdE 24 w v (l.map Tld.cells)) (hl : ∀ x ∈ l, tldR x) (hl2 : l.length ≤ 32) (hd : ∀ c, blkS v = some c → ¬ fL bs c)
    (hk : ∀ w', CG w' g bs pv (takeAll s now l) → Fr (fL bs) w w' → K (.bool true) w') : CallsR Try.prog 21 #[v, pt g 0, i64 now] K w := by
  apply c21
  unfold p21
  obtain ⟨va, vc, rfl⟩ := hv.form
  rw [List.length_map] at hv hd ⊢
  refine jn0 (fun W => CG W g bs pv (takeAll s now l) ∧ Fr (fL bs) w W) (fun W ⟨h1, h2⟩ => hk W h1 h2) fun j hj => ?_
  refine loop1 (fun n u W => ∃ i : Nat, u = i64 i ∧ i + n = l.length ∧ CG W g bs pv (takeAll s now (l.take i)) ∧ Fr (fL bs) w W) ?_ l.length ⟨0, rfl, by omega, h, Fr.refl _ _⟩
  rintro n u W X ⟨i, rfl, hi, hI, hF⟩ hX
  simp only [push_cast, Nat.reduceAdd, Nat.reduceLeDiff, Nat.reduceLT, Int.reduceToNat, Nat.left_eq_add, Nat.add_eq_left, Nat.add_left_cancel_iff, Nat.reduceEqDiff, Nat.add_assoc, Nat.succ_ne_zero]
  refine br_dec (fun hlt => ?_) fun hge => ?_
  · have hil : i < l.length := by omega
    have hw1 : IntKind.i64.wrap ((i : Int) + 1) = ((i + 1 : Nat) : Int) := by rw [wrap_i64 (by omega)]; rfl
    obtain ⟨r0, r1, r2, r3⟩ := hl _ (List.getElem_mem hil)
    have hvW : RdE 24 W _ (l.map Tld.cells) := hv.fr hF hd
    refine s_iaE (es := l.map Tld.cells) hvW (by omega) (by simpa using hil) fun b1 o1 c1 _ hE => ?_
    simp only [Int.toNat_natCast, List.getElem_map] at hE ⊢
    have h3 : aggAt W.heap[b1]? (o1 + i * 24 + 1) 23 = some (.agg l[i].l.cells.toArray) := by
      have := hE.agg 1 23 (by rw [Tld.len]; decide)
      rw [Tld.d_l] at this
      exact this
    rw [fa125_1, s_ldN (n := 23) (hn := by decide), h3, onS_some, opS_cl]
    refine lencode_spec r1 r2 r3 fun v2 W2 g1 g2 f2 => ?_
    simp only [s_ext, List.getElem?_toArray, List.getElem?_cons_zero, List.getElem?_cons_succ, onS_some, opS_cl]
    refine ldecode_spec ⟨g1.rd, lcpB_ok r1 r2 r3⟩ r1 r2 r3 fun W3 f3 => ?_
    simp only [s_ext, List.getElem?_toArray, List.getElem?_cons_zero, List.getElem?_cons_succ, onS_some]
    rw [lzalloc_lcp, s_stA _ _ _ (Lcp.len _) (Lcp.one _), heap_alloc, if_pos rfl, okAt_cells]
    refine (onB_true _).symm ▸ ?_
    have f4 : Fr none_ W3 (wr (W3.alloc (cellsO (Lcp.cells ⟨Inf.zero, Inf.zero, 0⟩) 123)) W3.heap.size 0 l[i].l.cells) := (by repeat' first | with_reducible exact Fr.refl _ _ | with_reducible refine Fr.step_alloc ?_ ?_ | with_reducible refine Fr.step_drew ?_ | with_reducible refine Fr.step_wr ?_ ?_ _ _ | exact rfl | exact Or.inr (by omega) | exact Or.inl rfl | exact Or.inl (Or.inl rfl) | exact Or.inl (Or.inr rfl))
    have q4 : (wr (W3.alloc (cellsO (Lcp.cells ⟨Inf.zero, Inf.zero, 0⟩) 123)) W3.heap.size 0 l[i].l.cells).heap[W3.heap.size]? = some (cellsO l[i].l.cells 123) := by simp only [push_cast, Nat.reduceAdd, Nat.reduceLeDiff, Nat.reduceLT, Int.reduceToNat, Nat.left_eq_add, Nat.add_eq_left, Nat.add_left_cancel_iff, Nat.reduceEqDiff, Nat.add_assoc, Nat.succ_ne_zero]
    generalize wr (W3.alloc (cellsO (Lcp.cells ⟨Inf.zero, Inf.zero, 0⟩) 123)) W3.heap.size 0 l[i].l.cells = W4 at *
    generalize W3.heap.size = xb at *
    simp only [push_cast, Nat.reduceAdd, Nat.reduceLeDiff, Nat.reduceLT, Int.reduceToNat, Nat.left_eq_add, Nat.add_eq_left, Nat.add_left_cancel_iff, Nat.reduceEqDiff, Nat.add_assoc, Nat.succ_ne_zero, bne_self_eq_false]
    have f5 := ((f2.trans f3).trans f4).trans (Fr.drew W4)
    have q5 := (Fr.drew (fp := none_) W4).heap q4 fun h => h
    have hI5 := hI.fr0 f5
    have F5 := hF.trans (frN f5)
    have hvd : RdE 24 W4.drew _ (l.map Tld.cells) := hv.fr F5 hd
    refine s_iaE (es := l.map Tld.cells) hvd (by omega) (by simpa using hil) fun b2 o2 c2 _ hE2 => ?_
    simp only [Int.toNat_natCast, List.getElem_map] at hE2 ⊢
    have h1 : cellAt W4.heap[b2]? (o2 + i * 24) = some (i64 l[i].port) := hE2.cell0 (by rw [Tld.len]; decide)
    simp only [push_cast, Nat.reduceAdd, Nat.reduceLeDiff, Nat.reduceLT, Int.reduceToNat, Nat.left_eq_add, Nat.add_eq_left, Nat.add_left_cancel_iff, Nat.reduceEqDiff, Nat.add_assoc, Nat.succ_ne_zero, h1, q4]
    have hwI := Grp.wf.takeAll (l := l.take i) (fun x hx => (hl x (List.mem_of_mem_take hx)).1) now hw
    refine gtake_spec hI5 hwI r0.2 fun W6 h6 f6 => ?_
    simp only [push_cast, Nat.reduceAdd, Nat.reduceLeDiff, Nat.reduceLT, Int.reduceToNat, Nat.left_eq_add, Nat.add_eq_left, Nat.add_left_cancel_iff, Nat.reduceEqDiff, Nat.add_assoc, Nat.succ_ne_zero, hw1]
    refine hX (l.length - (i + 1)) _ _ (by omega) ⟨i + 1, rfl, by omega, ?_, F5.trans f6⟩
    rw [take_snoc hil, takeAll_snoc]
    exact h6
  · rw [List.take_of_length_le (by omega)] at hI
    exact hj _ ⟨hI, hF⟩

/-! ### Three slices that grow -/

structure TS (w W : World) (v1 v2 v3 : Value) (l1 l2 l3 : List Int) : Prop where
  o1 : OwnE 3 1 W v1 (l1.map cellI)
  o2 : OwnE 3 1 W v2 (l2.map cellI)
  o3 : OwnE 3 1 W v3 (l3.map cellI)
  n1 : New w v1
  n2 : New w v2
  n3 : New w v3
  d12 : ∀ b, blkS v1 = some b → blkS v2 ≠ some b
  d13 : ∀ b, blkS v1 = some b → blkS v3 ≠ some b
  d23 : ∀ b, blkS v2 = some b → blkS v3 ≠ some b
  fr : Fr none_ w W
section
variable {W : World} {v1 v2 v3 : Value} {l1 l2 l3 : List Int}
theorem TS.rot (h : TS w W v1 v2 v3 l1 l2 l3) : TS w W v2 v3 v1 l2 l3 l1 := ⟨h.o2, h.o3, h.o1, h.n2, h.n3, h.n1, h.d23, fun b h1 h2 => h.d12 b h2 h1, fun b h1 h2 => h.d13 b h2 h1, h.fr⟩
theorem TS.app (h : TS w W v1 v2 v3 l1 l2 l3) (hl : l3.length ≤ 1000) {x : Int} {T : Value → World → Prop} (hk : ∀ v' W', TS w W' v1 v2 v' l1 l2 (l3 ++ [x]) → T v' W') {ty : TypeId} : opS Try.prog (S.buildS 59 1 [(0, i64 x)]) (fun y => opS Try.prog (S.bi .append #[59, 59] ty [v3, y]) T) W := by
  refine s_app1 (E := 3) (by_ := 8) (z := .int .i64 0) rfl rfl (by decide) h.o3 (by rw [List.length_map]; omega) fun v' W' hv hb hF => hk v' W' ?_
  have hs := h.fr.size
  refine ⟨h.o1.fr hF fun b h1 h2 => h.d13 b h1 h2, h.o2.fr hF fun b h1 h2 => h.d23 b h1 h2, by rw [List.map_append]; exact hv, h.n1, h.n2, fun b hb2 => ?_, h.d12, fun b h1 h2 => ?_, fun b h1 h2 => ?_, h.fr.trans_new hF fun b hb e => by have := h.n3 b e; omega⟩
  · rcases hb with e | e
    · exact h.n3 b (e ▸ hb2)
    · have := e b hb2; omega
  · rcases hb with e | e
    · exact h.d13 b h1 (e ▸ h2)
    · have := e b h2; have := h.o1.lt h1; omega
  · rcases hb with e | e
    · exact h.d23 b h1 (e ▸ h2)
    · have := e b h2; have := h.o2.lt h1; omega
end

theorem gnew_yes {sys : Idn} {key most : Int} {ports : List Int} {v : Value} (hs : sys.ok) (hv : RdE 1 w v (ports.map cellI)) (hl : ports.length < 2 ^ 62) (ha : argOk sys key ports most) (hd : ports.Nodup) (hsrt : srtI ports = ports)
    (h1 : ∀ g bs pv w', CG w' g bs pv ⟨ports.map (newLk sys key), most⟩ → (∀ y, fG g bs y → w.heap.size ≤ y) → (∀ y, blkS pv = some y → w.heap.size ≤ y) → Fr none_ w w' → K (.tuple #[pt g 0, i64 0]) w') :
    CallsR Try.prog 18 #[.agg sys.cells.toArray, i64 key, v, i64 most] K w :=
  gnew_spec hs hv hl (fun h => absurd ha h) (fun _ h => absurd hd h) fun _ _ g bs pv w' h => h1 g bs pv w' (by unfold newG at h; rw [hsrt] at h; exact h)

end Go.Gx.S
end

section
/- A system whose links go to two chassis that tell one system. -/
set_option linter.unusedVariables false
set_option linter.unusedSimpArgs false
set_option maxRecDepth 100000
namespace Go.Gx.S
open Go Go.Gx Go.Proofs Go.Sort
variable {K : Value → World → Prop} {w : World}

/-! ### Ports -/

theorem upTo_take (n m : Nat) : (upTo (n + m)).take n = upTo n := by
  unfold upTo
  rw [← List.map_take, List.take_range, Nat.min_eq_left (by omega)]
theorem twoL_lt (n m : Nat) : (twoL n m).Pairwise (· < ·) := (upTo_lt (n + m)).sublist (List.drop_sublist _ _)
theorem twoL_len (n m : Nat) : (twoL n m).length = m := by unfold twoL; rw [List.length_drop, upTo_len]; omega
theorem twoL_mem {n m : Nat} {x : Int} (h : x ∈ twoL n m) : 1 ≤ x ∧ x ≤ ((n + m : Nat) : Int) := upTo_mem.1 (List.mem_of_mem_drop h)
theorem twoL_nodup (n m : Nat) : (twoL n m).Nodup := (twoL_lt n m).imp fun {a b} h => by omega
theorem twoL_srt (n m : Nat) : srtI (twoL n m) = twoL n m := (srt_eq (List.Perm.refl _) ((twoL_lt n m).imp fun {a b} h => by omega)).symm
theorem ports_arg {sys : Idn} {key : Int} {l : List Int} (h1 : 1 ≤ l.length) (h2 : l.length ≤ 8) (hl : ∀ x ∈ l, 1 ≤ x ∧ x ≤ 8) (hs : wth 65535 sys.prio) (hk : wth 65535 key) : argOk sys key l 8 :=
  ⟨h1, by omega, by decide, by decide, fun p hp => (hl p hp).1, fun p hp => by
    have := hl p hp
    refine ⟨hs, hk, by show wth 65535 128; decide, ?_, by show wth 255 7; decide⟩
    unfold wth; show 0 ≤ p ∧ p ≤ 65535; omega⟩
theorem grpL_wf {id : Idn} {k : Int} {l : List Int} (hi : id.ok) (ha : argOk id k l 8) (hs : srtI l = l) : (grpL id k l).wf := by
  have := newG_wf hi ha
  unfold newG at this
  rw [hs] at this
  exact this

/-! ### Three groups in memory -/

structure TG (W0 : World) (g0 : Nat) (bs0 : List B3) (pv0 : Value) (g1 : Nat) (bs1 : List B3) (pv1 : Value) (g2 : Nat) (bs2 : List B3) (pv2 : Value) (t : Trio) (W : World) : Prop where
  c0 : CG W g0 bs0 pv0 t.1
  c1 : CG W g1 bs1 pv1 t.2.1
  c2 : CG W g2 bs2 pv2 t.2.2
  w0 : t.1.wf
  w1 : t.2.1.wf
  w2 : t.2.2.wf
  s01 : SepG g0 bs0 pv0 g1 bs1 pv1
  s02 : SepG g0 bs0 pv0 g2 bs2 pv2
  s12 : SepG g1 bs1 pv1 g2 bs2 pv2
  fr : Fr none_ W0 W
  n0 : ∀ c, fL bs0 c → W0.heap.size ≤ c
  n1 : ∀ c, fL bs1 c → W0.heap.size ≤ c
  n2 : ∀ c, fL bs2 c → W0.heap.size ≤ c
section
variable {W0 W W' : World} {g0 g1 g2 : Nat} {bs0 bs1 bs2 : List B3} {pv0 pv1 pv2 : Value} {t : Trio} {s : Grp}
theorem TG.set0 (h : TG W0 g0 bs0 pv0 g1 bs1 pv1 g2 bs2 pv2 t W) (hc : CG W' g0 bs0 pv0 s) (hF : Fr (fL bs0) W W') (hw : s.wf) : TG W0 g0 bs0 pv0 g1 bs1 pv1 g2 bs2 pv2 (s, t.2.1, t.2.2) W' :=
  ⟨hc, h.s01.symm.frA h.c1 hF, h.s02.symm.frA h.c2 hF, hw, h.w1, h.w2, h.s01, h.s02, h.s12, h.fr.trans_new hF fun b hb e => by have := h.n0 b e; omega, h.n0, h.n1, h.n2⟩
theorem TG.set1 (h : TG W0 g0 bs0 pv0 g1 bs1 pv1 g2 bs2 pv2 t W) (hc : CG W' g1 bs1 pv1 s) (hF : Fr (fL bs1) W W') (hw : s.wf) : TG W0 g0 bs0 pv0 g1 bs1 pv1 g2 bs2 pv2 (t.1, s, t.2.2) W' :=
  ⟨h.s01.frA h.c0 hF, hc, h.s12.symm.frA h.c2 hF, h.w0, hw, h.w2, h.s01, h.s02, h.s12, h.fr.trans_new hF fun b hb e => by have := h.n1 b e; omega, h.n0, h.n1, h.n2⟩
theorem TG.set2 (h : TG W0 g0 bs0 pv0 g1 bs1 pv1 g2 bs2 pv2 t W) (hc : CG W' g2 bs2 pv2 s) (hF : Fr (fL bs2) W W') (hw : s.wf) : TG W0 g0 bs0 pv0 g1 bs1 pv1 g2 bs2 pv2 (t.1, t.2.1, s) W' :=
  ⟨h.s02.frA h.c0 hF, h.s12.frA h.c1 hF, hc, h.w0, h.w1, hw, h.s01, h.s02, h.s12, h.fr.trans_new hF fun b hb e => by have := h.n2 b e; omega, h.n0, h.n1, h.n2⟩
theorem TG.fr0 (h : TG W0 g0 bs0 pv0 g1 bs1 pv1 g2 bs2 pv2 t W) (hF : Fr none_ W W') : TG W0 g0 bs0 pv0 g1 bs1 pv1 g2 bs2 pv2 t W' :=
  ⟨h.c0.fr0 hF, h.c1.fr0 hF, h.c2.fr0 hF, h.w0, h.w1, h.w2, h.s01, h.s02, h.s12, h.fr.trans hF, h.n0, h.n1, h.n2⟩
/-- one round -/
theorem TG.round (h : TG W0 g0 bs0 pv0 g1 bs1 pv1 g2 bs2 pv2 t W) {now : Int} (hm : momOk now) {j : Value → Value → Value → Value → World → Prop}
    (hj : ∀ W', TG W0 g0 bs0 pv0 g1 bs1 pv1 g2 bs2 pv2 (topR t now) W' → j (.bool true) (.bool true) (.bool true) (.bool true) W') :
    opS Try.prog (S.cl 20 [pt g1 0, i64 now]) (fun x51 =>
    opS Try.prog (S.ext x51 0) fun x52 => opS Try.prog (S.ext x51 1) fun x53 =>
    opS Try.prog (S.cl 20 [pt g2 0, i64 now]) fun x54 =>
    opS Try.prog (S.ext x54 0) fun x55 => opS Try.prog (S.ext x54 1) fun x56 =>
    opS Try.prog (S.cl 20 [pt g0 0, i64 now]) fun x57 =>
    opS Try.prog (S.ext x57 0) fun x58 => opS Try.prog (S.ext x57 1) fun x59 =>
    opS Try.prog (S.cl 21 [x52, pt g0 0, i64 now]) fun x60 =>
    opS Try.prog (S.cl 21 [x55, pt g0 0, i64 now]) fun x61 =>
    opS Try.prog (S.cl 21 [x58, pt g1 0, i64 now]) fun x62 =>
    opS Try.prog (S.cl 21 [x58, pt g2 0, i64 now]) fun x63 => j x60 x61 x62 x63) W := by
  have b0 : ∀ {V : World} {c : Nat}, V.heap.size = W.heap.size → True := fun _ => trivial
  have l0 : ∀ c, fL bs0 c → c < W.heap.size := fun c hc => h.c0.lt c (.inr hc)
  have l1 : ∀ c, fL bs1 c → c < W.heap.size := fun c hc => h.c1.lt c (.inr hc)
  have l2 : ∀ c, fL bs2 c → c < W.heap.size := fun c hc => h.c2.lt c (.inr hc)
  rw [opS_cl]
  refine gtick_spec h.c1 h.w1 (fun e => absurd hm e) fun _ x W1 c1 hx nx f1 => ?_
  have h1 := h.set1 c1 f1 (h.w1.tick now)
  simp only [s_ext, List.getElem?_toArray, List.getElem?_cons_zero, List.getElem?_cons_succ, onS_some, opS_cl]
  refine gtick_spec h1.c2 h1.w2 (fun e => absurd hm e) fun _ y W2 c2 hy ny f2 => ?_
  have h2 := h1.set2 c2 f2 (h1.w2.tick now)
  have s1 := f1.size
  simp only [s_ext, List.getElem?_toArray, List.getElem?_cons_zero, List.getElem?_cons_succ, onS_some, opS_cl]
  refine gtick_spec h2.c0 h2.w0 (fun e => absurd hm e) fun _ z W3 c3 hz nz f3 => ?_
  have h3 := h2.set0 c3 f3 (h2.w0.tick now)
  have s2 := f2.size
  simp only [s_ext, List.getElem?_toArray, List.getElem?_cons_zero, List.getElem?_cons_succ, onS_some, opS_cl]
  have hx3 := (hx.fr f2 fun c hc e => by have := nx c hc; have := l2 c e; omega).fr f3 fun c hc e => by have := nx c hc; have := l0 c e; omega
  have hy3 := hy.fr f3 fun c hc e => by have := ny c hc; have := l0 c e; omega
  refine over_spec h3.c0 h3.w0 hx3.rd (tick_r h.w1) (tick_n h.w1) (fun c hc e => by have := nx c hc; have := l0 c e; omega) fun W4 c4 f4 => ?_
  have h4 := h3.set0 c4 f4 (Grp.wf.takeAll (tick_ok h.w1) now h3.w0)
  refine over_spec h4.c0 h4.w0 (hy3.fr f4 fun c hc e => by have := ny c hc; have := l0 c e; omega).rd (tick_r h1.w2) (tick_n h1.w2) (fun c hc e => by have := ny c hc; have := l0 c e; omega) fun W5 c5 f5 => ?_
  have h5 := h4.set0 c5 f5 (Grp.wf.takeAll (tick_ok h1.w2) now h4.w0)
  have hz5 := (hz.fr f4 fun c hc e => by have := nz c hc; have := l0 c e; omega).fr f5 fun c hc e => by have := nz c hc; have := l0 c e; omega
  refine over_spec h5.c1 h5.w1 hz5.rd (tick_r h2.w0) (tick_n h2.w0) (fun c hc e => by have := nz c hc; have := l1 c e; omega) fun W6 c6 f6 => ?_
  have h6 := h5.set1 c6 f6 (Grp.wf.takeAll (tick_ok h2.w0) now h5.w1)
  refine over_spec h6.c2 h6.w2 (hz5.fr f6 fun c hc e => by have := nz c hc; have := l1 c e; omega).rd (tick_r h2.w0) (tick_n h2.w0) (fun c hc e => by have := nz c hc; have := l2 c e; omega) fun W7 c7 f7 => ?_
  have h7 := h6.set2 c7 f7 (Grp.wf.takeAll (tick_ok h2.w0) now h6.w2)
  exact hj W7 h7
end

end Go.Gx.S
end

section
/- A system whose links go to two chassis that tell one system: the law. -/
set_option linter.unusedVariables false
set_option linter.unusedSimpArgs false
set_option maxRecDepth 100000
namespace Go.Gx.S
open Go Go.Gx Go.Proofs Go.Sort
variable {K : Value → World → Prop} {w : World}

theorem build_id1 {p : Int} : opS Try.prog (S.build 58 [(0, .int .i64 p)]) K w = K (.agg (Idn.cells ⟨p, ⟨0, 0, 0, 0, 0, 0⟩⟩).toArray) w := by
  rw [opS_build _ rfl]; rfl
def idO : Idn := ⟨1, ⟨0, 0, 0, 0, 0, 0⟩⟩
theorem idO_ok : idO.ok := ⟨isI_iff.2 (by show (_ : Int) ≤ 1 ∧ (1 : Int) ≤ _; omega), isB_n (by decide), isB_n (by decide), isB_n (by decide), isB_n (by decide), isB_n (by decide), isB_n (by decide)⟩
theorem one_srt : srtI [1] = [1] := (srt_eq (List.Perm.refl _) (by simp)).symm

theorem up_lo {i n : Nat} (h : i < n) : (upTo (i + 1)).take n = (upTo i).take n ++ [(i : Int) + 1] ∧ (upTo (i + 1)).drop n = (upTo i).drop n := by
  rw [List.take_of_length_le (by rw [upTo_len]; omega), List.take_of_length_le (by rw [upTo_len]; omega), List.drop_eq_nil_of_le (by rw [upTo_len]; omega), List.drop_eq_nil_of_le (by rw [upTo_len]; omega)]
  exact ⟨upTo_succ i, rfl⟩
theorem up_hi {i n : Nat} (h : n ≤ i) : (upTo (i + 1)).take n = (upTo i).take n ∧ (upTo (i + 1)).drop n = (upTo i).drop n ++ [(i : Int) + 1] := by
  rw [upTo_succ, List.take_append_of_le_length (by rw [upTo_len]; exact h), List.drop_append_of_le_length (by rw [upTo_len]; exact h)]
  exact ⟨rfl, rfl⟩

set_option maxHeartbeats 1000000 in
theorem onesys_law {n m k0 k1 : Int} (hk : ∀ w', Fr none_ w w' → K (.bool true) w') : CallsR Try.prog 4 #[i64 n, i64 m, .agg [i64 k0, i64 k1].toArray] K w := by
  apply c4
  unfold p4
  have hFx : Fr none_ w (w.alloc (cellsO [i64 k0, i64 k1] 53)) := (by repeat' first | with_reducible exact Fr.refl _ _ | with_reducible refine Fr.step_alloc ?_ ?_ | with_reducible refine Fr.step_drew ?_ | with_reducible refine Fr.step_wr ?_ ?_ _ _ | exact rfl | exact Or.inr (by omega) | exact Or.inl rfl | exact Or.inl (Or.inl rfl) | exact Or.inl (Or.inr rfl))
  have qx : (w.alloc (cellsO [i64 k0, i64 k1] 53)).heap[w.heap.size]? = some (cellsO [i64 k0, i64 k1] 53) := by simp only [push_cast, Nat.reduceAdd, Nat.reduceLeDiff, Nat.reduceLT, Int.reduceToNat, Nat.left_eq_add, Nat.add_eq_left, Nat.add_left_cancel_iff, Nat.reduceEqDiff, Nat.add_assoc, Nat.succ_ne_zero]
  simp only [opS_box, cells_agg, alloc_cellsO]
  generalize w.alloc (cellsO [i64 k0, i64 k1] 53) = wx at *
  generalize hxb : w.heap.size = xb at *
  refine jn0 (fun W => Fr none_ w W) (fun W hF => ?_) fun j0 hj0 => ?_
  · rw [build_id1]
    refine s_bs1c (z := .int .i64 0) rfl rfl fun v W1 hv f1 hN => ?_
    rw [opS_cl]
    refine gnew_yes (sys := idO) (ports := [1]) idO_ok hv.rd (by decide) (ports_arg (by decide) (by decide) (by decide) (by decide) (by decide)) (by decide) one_srt fun g bs pv W2 hG _ _ f2 => ?_
    simp only [push_cast, Nat.reduceAdd, Nat.reduceLeDiff, Nat.reduceLT, Int.reduceToNat, Nat.left_eq_add, Nat.add_eq_left, Nat.add_left_cancel_iff, Nat.reduceEqDiff, Nat.add_assoc, Nat.succ_ne_zero]
    refine jn1 (fun v W => v = .bool true ∧ Fr none_ w W) (fun v W ⟨e, h⟩ => by rw [e]; exact hk W h) fun j hj => ?_
    simp only [push_cast, Nat.reduceAdd, Nat.reduceLeDiff, Nat.reduceLT, Int.reduceToNat, Nat.left_eq_add, Nat.add_eq_left, Nat.add_left_cancel_iff, Nat.reduceEqDiff, Nat.add_assoc, Nat.succ_ne_zero]
    exact hj _ _ ⟨rfl, (hF.trans f1).trans f2⟩
  have ld0 : ∀ (R : Value → World → Prop) (W : World), W.heap[xb]? = some (cellsO [i64 k0, i64 k1] 53) → opS Try.prog (S.ia 53 (pt xb 0) (.int .i64 0)) (fun a => opS Try.prog (S.ld 3 a) R) W = R (i64 k0) W := fun R W q => by
    rw [opS_iaA _ _ _ _ (by decide), s_ld1, q, cellAt_cells]
    rfl
  have ld1 : ∀ (R : Value → World → Prop) (W : World), W.heap[xb]? = some (cellsO [i64 k0, i64 k1] 53) → opS Try.prog (S.ia 53 (pt xb 0) (.int .i64 1)) (fun a => opS Try.prog (S.ld 3 a) R) W = R (i64 k1) W := fun R W q => by
    rw [opS_iaA _ _ _ _ (by decide), s_ld1, q, cellAt_cells]
    rfl
  simp only [push_cast, Nat.reduceAdd, Nat.reduceLeDiff, Nat.reduceLT, Int.reduceToNat, Nat.left_eq_add, Nat.add_eq_left, Nat.add_left_cancel_iff, Nat.reduceEqDiff, Nat.add_assoc, Nat.succ_ne_zero]
  refine br_dec (fun _ => hj0 _ hFx) fun e1 => ?_
  refine br_dec (fun _ => hj0 _ hFx) fun e2 => ?_
  refine br_dec (fun _ => hj0 _ hFx) fun e3 => ?_
  refine br_dec (fun _ => hj0 _ hFx) fun e4 => ?_
  rw [ld0 _ _ qx]
  simp only [push_cast, Nat.reduceAdd, Nat.reduceLeDiff, Nat.reduceLT, Int.reduceToNat, Nat.left_eq_add, Nat.add_eq_left, Nat.add_left_cancel_iff, Nat.reduceEqDiff, Nat.add_assoc, Nat.succ_ne_zero]
  refine br_dec (fun _ => hj0 _ hFx) fun e5 => ?_
  rw [ld0 _ _ qx]
  simp only [push_cast, Nat.reduceAdd, Nat.reduceLeDiff, Nat.reduceLT, Int.reduceToNat, Nat.left_eq_add, Nat.add_eq_left, Nat.add_left_cancel_iff, Nat.reduceEqDiff, Nat.add_assoc, Nat.succ_ne_zero]
  refine br_dec (fun _ => hj0 _ hFx) fun e6 => ?_
  rw [ld1 _ _ qx]
  simp only [push_cast, Nat.reduceAdd, Nat.reduceLeDiff, Nat.reduceLT, Int.reduceToNat, Nat.left_eq_add, Nat.add_eq_left, Nat.add_left_cancel_iff, Nat.reduceEqDiff, Nat.add_assoc, Nat.succ_ne_zero]
  refine br_dec (fun _ => hj0 _ hFx) fun e7 => ?_
  rw [ld1 _ _ qx]
  simp only [push_cast, Nat.reduceAdd, Nat.reduceLeDiff, Nat.reduceLT, Int.reduceToNat, Nat.left_eq_add, Nat.add_eq_left, Nat.add_left_cancel_iff, Nat.reduceEqDiff, Nat.add_assoc, Nat.succ_ne_zero]
  refine br_dec (fun _ => hj0 _ hFx) fun e8 => ?_
  clear hj0 j0
  obtain ⟨N, rfl⟩ : ∃ N : Nat, n = N := ⟨n.toNat, by omega⟩
  obtain ⟨M, rfl⟩ : ∃ M : Nat, m = M := ⟨m.toNat, by omega⟩
  have hk0 : wth 65535 k0 := ⟨by omega, by omega⟩
  have hk1 : wth 65535 k1 := ⟨by omega, by omega⟩
  have hok := top_at (n := N) (m := M) (by omega) (by omega) hk0 hk1
  have hsum : IntKind.i64.wrap ((N : Int) + (M : Int)) = ((N + M : Nat) : Int) := by rw [wrap_i64 (by omega)]; omega
  refine jn3 (fun v1 v2 v3 W => TS wx W v1 v2 v3 (upTo N) (twoL N M) (upTo (N + M))) ?_ fun j hj => ?_
  case refine_2 =>
    refine loop4 (fun q v1 v2 v3 u W => ∃ i : Nat, u = i64 ((i : Int) + 1) ∧ i + q = N + M ∧ TS wx W v1 v2 v3 ((upTo i).take N) ((upTo i).drop N) (upTo i)) ?_ (N + M) ⟨0, rfl, by omega, by
      have h0 : upTo 0 = [] := rfl
      rw [h0, List.take_nil, List.drop_nil]
      refine ⟨own_nil _ _ _, own_nil _ _ _, own_nil _ _ _, ?_, ?_, ?_, ?_, ?_, ?_, Fr.refl _ _⟩ <;> intro b hb <;> cases hb⟩
    rintro q v1 v2 v3 u W X ⟨i, rfl, hi, hT⟩ hX
    simp only [opS_add, hsum, opS_leq, brn_br]
    refine br_dec (fun hle => ?_) fun hgt => ?_
    · have hl : (upTo i).length ≤ 1000 := by rw [upTo_len]; omega
      refine hT.app hl fun v3' W2 hT2 => ?_
      rw [← upTo_succ] at hT2
      have hwk : IntKind.i64.wrap ((i : Int) + 1 + 1) = ((i + 1 : Nat) : Int) + 1 := by rw [wrap_i64 (by omega)]; omega
      simp only [opS_leq, brn_br]
      refine br_dec (fun h1 => ?_) fun h1 => ?_
      · refine hT2.rot.app (by rw [List.length_take, upTo_len]; omega) fun v1' W3 hT3 => ?_
        simp only [opS_add, hwk]
        refine hX (q - 1) _ _ _ _ _ (by omega) ⟨i + 1, rfl, by omega, ?_⟩
        have := hT3.rot.rot
        obtain ⟨a, b⟩ := up_lo (i := i) (n := N) (by omega)
        rw [a, b]
        exact this
      · refine hT2.rot.rot.app (by rw [List.length_drop, upTo_len]; omega) fun v2' W3 hT3 => ?_
        simp only [opS_add, hwk]
        refine hX (q - 1) _ _ _ _ _ (by omega) ⟨i + 1, rfl, by omega, ?_⟩
        have := hT3.rot
        obtain ⟨a, b⟩ := up_hi (i := i) (n := N) (by omega)
        rw [a, b]
        exact this
    · obtain rfl : i = N + M := by omega
      rw [upTo_take] at hT
      exact hj _ _ _ _ hT
  rintro v1 v2 v3 W hT
  have qW := hT.fr.heap qx fun h => h
  have hFW := hFx.trans hT.fr
  rw [build_mac1, build_id2]
  have hi : (⟨1, ⟨2, 0, 0, 0, 0, 0⟩⟩ : Idn) = idA := rfl
  rw [hi]
  have hal : ∀ (R : Value → World → Prop), opS Try.prog (S.alloc 58) R W = R (pt W.heap.size 0) (W.alloc (cellsO (Idn.cells ⟨0, ⟨0, 0, 0, 0, 0, 0⟩⟩) 58)) := fun R => by rw [opS_alloc]; rfl
  have hst1 : ∀ (R : Value → World → Prop), opS Try.prog (S.st 58 (pt W.heap.size 0) (.agg idA.cells.toArray)) R (W.alloc (cellsO (Idn.cells ⟨0, ⟨0, 0, 0, 0, 0, 0⟩⟩) 58)) = R undef (wr (W.alloc (cellsO (Idn.cells ⟨0, ⟨0, 0, 0, 0, 0, 0⟩⟩) 58)) W.heap.size 0 idA.cells) := fun R => by
    rw [s_stA _ _ _ (Idn.len _) (Idn.one _), heap_alloc, if_pos rfl, okAt_cells]
    exact onB_true _
  have fI : Fr none_ W (wr (W.alloc (cellsO (Idn.cells ⟨0, ⟨0, 0, 0, 0, 0, 0⟩⟩) 58)) W.heap.size 0 idA.cells) := (by repeat' first | with_reducible exact Fr.refl _ _ | with_reducible refine Fr.step_alloc ?_ ?_ | with_reducible refine Fr.step_drew ?_ | with_reducible refine Fr.step_wr ?_ ?_ _ _ | exact rfl | exact Or.inr (by omega) | exact Or.inl rfl | exact Or.inl (Or.inl rfl) | exact Or.inl (Or.inr rfl))
  have qI : (wr (W.alloc (cellsO (Idn.cells ⟨0, ⟨0, 0, 0, 0, 0, 0⟩⟩) 58)) W.heap.size 0 idA.cells).heap[W.heap.size]? = some (cellsO idA.cells 58) := by simp only [push_cast, Nat.reduceAdd, Nat.reduceLeDiff, Nat.reduceLT, Int.reduceToNat, Nat.left_eq_add, Nat.add_eq_left, Nat.add_left_cancel_iff, Nat.reduceEqDiff, Nat.add_assoc, Nat.succ_ne_zero]
  rw [hal, hst1]
  generalize wr (W.alloc (cellsO (Idn.cells ⟨0, ⟨0, 0, 0, 0, 0, 0⟩⟩) 58)) W.heap.size 0 idA.cells = W0 at *
  generalize W.heap.size = ib at *
  have q0 := fI.heap qW fun h => h
  have o1 := hT.o1.fr fI fun _ _ h => h
  have o2 := hT.o2.fr fI fun _ _ h => h
  have o3 := hT.o3.fr fI fun _ _ h => h
  have F0 := hFW.trans fI
  clear hT hal hst1 fI
  rw [build_mac1, build_id2]
  have hi : (⟨9, ⟨4, 0, 0, 0, 0, 0⟩⟩ : Idn) = idB := rfl
  rw [hi, ld0 _ _ q0, opS_cl]
  have aa0 : argOk idB k0 (upTo (N + M)) 8 := ports_arg (by rw [upTo_len]; omega) (by rw [upTo_len]; omega) (fun x hx => by have := upTo_mem.1 hx; omega) (by decide) hk0
  have aa1 : argOk idA k1 (upTo N) 8 := ports_arg (by rw [upTo_len]; omega) (by rw [upTo_len]; omega) (fun x hx => by have := upTo_mem.1 hx; omega) (by decide) hk1
  have aa2 : argOk idA k1 (twoL N M) 8 := ports_arg (by rw [twoL_len]; omega) (by rw [twoL_len]; omega) (fun x hx => by have := twoL_mem hx; omega) (by decide) hk1
  have gl : ∀ {W : World} {R : Value → World → Prop}, W.heap[ib]? = some (cellsO idA.cells 58) → opS Try.prog (S.ld 58 (pt ib 0)) R W = R (.agg idA.cells.toArray) W := fun {W R} q => by
    have e : aggAt (some (cellsO idA.cells 58)) 0 7 = some (.agg idA.cells.toArray) := rfl
    rw [s_ldN (n := 7) (hn := by decide), q, e, onS_some]
  refine gnew_yes idB_ok o3.rd (by rw [upTo_len]; omega) aa0 (upTo_nodup _) (upTo_srt _) fun g0 bs0 pv0 W1 c0 n0 p0 f1 => ?_
  have qI1 := f1.heap qI fun h => h
  have q1 := f1.heap q0 fun h => h
  simp only [s_ext, List.getElem?_toArray, List.getElem?_cons_zero, List.getElem?_cons_succ, onS_some]
  rw [gl qI1, ld1 _ _ q1, opS_cl]
  refine gnew_yes idA_ok (o1.fr f1 fun _ _ h => h).rd (by rw [upTo_len]; omega) aa1 (upTo_nodup _) (upTo_srt _) fun g1 bs1 pv1 W2 c1 n1 p1 f2 => ?_
  have f12 := f1.trans f2
  have qI2 := f12.heap qI fun h => h
  have q2 := f12.heap q0 fun h => h
  simp only [s_ext, List.getElem?_toArray, List.getElem?_cons_zero, List.getElem?_cons_succ, onS_some]
  rw [gl qI2, ld1 _ _ q2, opS_cl]
  refine gnew_yes idA_ok (o2.fr f12 fun _ _ h => h).rd (by rw [twoL_len]; omega) aa2 (twoL_nodup _ _) (twoL_srt _ _) fun g2 bs2 pv2 W3 c2 n2 p2 f3 => ?_
  have f13 := f12.trans f3
  simp only [push_cast, Nat.reduceAdd, Nat.reduceLeDiff, Nat.reduceLT, Int.reduceToNat, Nat.left_eq_add, Nat.add_eq_left, Nat.add_left_cancel_iff, Nat.reduceEqDiff, Nat.add_assoc, Nat.succ_ne_zero, bne_self_eq_false]
  have hsep : ∀ {gA gB : Nat} {bsA bsB : List B3} {pvA pvB : Value} {WA WB : World} {a : Grp}, CG WA gA bsA pvA a → 0 < a.l.length → WA.heap.size ≤ WB.heap.size → (∀ y, fG gB bsB y → WB.heap.size ≤ y) → (∀ y, blkS pvB = some y → WB.heap.size ≤ y) → SepG gA bsA pvA gB bsB pvB := fun {gA gB bsA bsB pvA pvB WA WB a} hA hl0 hs nB npB =>
    ⟨fun c e1 e2 => by have := hA.lt c e1; have := nB c e2; omega, fun c e1 e2 => by have := hA.pv_lt hl0 c e1; have := nB c e2; omega, fun c e1 e2 => by have := hA.lt c e2; have := npB c e1; omega⟩
  have ls1 := f1.size
  have ls2 := f2.size
  have hTG : TG W0 g0 bs0 pv0 g1 bs1 pv1 g2 bs2 pv2 (grpL idB k0 (upTo (N + M)), grpL idA k1 (upTo N), grpL idA k1 (twoL N M)) W3 :=
    ⟨(c0.fr0 f2).fr0 f3, c1.fr0 f3, c2, grpL_wf idB_ok aa0 (upTo_srt _), grpL_wf idA_ok aa1 (upTo_srt _), grpL_wf idA_ok aa2 (twoL_srt _ _),
      hsep c0 (by show 0 < ((upTo (N + M)).map _).length; rw [List.length_map, upTo_len]; omega) (Nat.le_refl _) n1 p1, hsep c0 (by show 0 < ((upTo (N + M)).map _).length; rw [List.length_map, upTo_len]; omega) ls2 n2 p2, hsep c1 (by show 0 < ((upTo N).map _).length; rw [List.length_map, upTo_len]; omega) (Nat.le_refl _) n2 p2,
      f13, fun c hc => n0 c (.inr hc), fun c hc => by have := n1 c (.inr hc); omega, fun c hc => by have := n2 c (.inr hc); omega⟩
  clear c0 c1 c2 n0 n1 n2 p0 p1 p2 hsep
  refine jn0 (fun W => TG W0 g0 bs0 pv0 g1 bs1 pv1 g2 bs2 pv2 (top0 N M k0 k1) W) ?_ fun j hj => ?_
  case refine_2 =>
    refine loop1 (fun q u W => ∃ k : Nat, k + q = N + M ∧ u = i64 ((k : Int) + 1) ∧ TG W0 g0 bs0 pv0 g1 bs1 pv1 g2 bs2 pv2 (enK (grpL idB k0 (upTo (N + M))) k, enK (grpL idA k1 (upTo N)) k, enK (grpL idA k1 (twoL N M)) k) W) ?_ (N + M) ⟨0, by omega, rfl, hTG⟩
    clear hTG
    rintro q u W X ⟨k, hkq, rfl, h⟩ hX
    simp only [opS_add, hsum, opS_leq, brn_br, opS_cl]
    refine br_dec (fun hle => ?_) fun hgt => ?_
    · have hwk : IntKind.i64.wrap ((k : Int) + 1 + 1) = ((k + 1 : Nat) : Int) + 1 := by rw [wrap_i64 (by omega)]; omega
      refine genable_spec h.c0 h.w0 fun Wa a1 b1 => ?_
      have h1 := h.set0 a1 b1 (h.w0.enableP _ true 0)
      refine genable_spec h1.c1 h1.w1 fun Wb a2 b2 => ?_
      have h2 := h1.set1 a2 b2 (h1.w1.enableP _ true 0)
      refine genable_spec h2.c2 h2.w2 fun Wc a3 b3 => ?_
      have h3 := h2.set2 a3 b3 (h2.w2.enableP _ true 0)
      rw [opS_add, hwk]
      exact hX (q - 1) _ _ (by omega) ⟨k + 1, by omega, rfl, h3⟩
    · obtain rfl : k = N + M := by omega
      exact hj _ h
  clear hTG
  rintro W4 h4
  refine jn0 (fun W => TG W0 g0 bs0 pv0 g1 bs1 pv1 g2 bs2 pv2 (topK (top0 N M k0 k1) 8) W) ?_ fun j hj => ?_
  case refine_2 =>
    refine loop1 (fun q u W => ∃ k : Nat, k + q = 8 ∧ u = i64 (k : Int) ∧ TG W0 g0 bs0 pv0 g1 bs1 pv1 g2 bs2 pv2 (topK (top0 N M k0 k1) k) W) ?_ 8 ⟨0, by omega, rfl, h4⟩
    clear h4
    rintro q u W X ⟨k, hkq, rfl, h⟩ hX
    simp only [opS_lss, brn_br]
    refine br_dec (fun hlt => ?_) fun hge => ?_
    · have hwk : IntKind.i64.wrap ((k : Int) + 1) = ((k + 1 : Nat) : Int) := by rw [wrap_i64 (by omega)]; omega
      refine h.round ⟨by omega, by omega⟩ fun W' h' => ?_
      simp only [opS_not, brn_br, Bool.not_true, br_false, opS_add]
      rw [hwk]
      exact hX (q - 1) _ _ (by omega) ⟨k + 1, by omega, rfl, h'⟩
    · obtain rfl : k = 8 := by omega
      exact hj _ h
  clear h4
  rintro W5 h5
  unfold topOk at hok
  simp only [Bool.and_eq_true, decide_eq_true_eq] at hok
  obtain ⟨⟨u0, u1⟩, u2⟩ := hok
  generalize topK (top0 N M k0 k1) 8 = t at *
  have ex : ∀ {W : World}, Fr none_ W5 W → Fr none_ W0 W := fun hF => h5.fr.trans hF
  simp only [opS_cl]
  refine up_spec h5.c0 h5.w0.len fun x W6 hx nx f6 => ?_
  rw [u0] at hx
  refine sameints_spec hx.rd (o3.fr (ex f6) fun _ _ h => h).rd (by rw [upTo_len]; omega) fun W7 f7 => ?_
  rw [decide_eq_true rfl]
  simp only [brn_br, br_true, opS_cl]
  have f57 := f6.trans f7
  refine up_spec (h5.c1.fr0 f57) h5.w1.len fun x W8 hx nx f8 => ?_
  rw [u1] at hx
  refine sameints_spec hx.rd (o1.fr (ex (f57.trans f8)) fun _ _ h => h).rd (by rw [upTo_len]; omega) fun W9 f9 => ?_
  rw [decide_eq_true rfl]
  simp only [brn_br, br_true, opS_cl]
  have f59 := (f57.trans f8).trans f9
  refine up_spec (h5.c2.fr0 f59) h5.w2.len fun x W10 hx nx f10 => ?_
  rw [u2] at hx
  refine sameints_spec hx.rd (o2.fr (ex (f59.trans f10)) fun _ _ h => h).rd (by rw [twoL_len]; omega) fun W11 f11 => ?_
  rw [decide_eq_true rfl]
  exact hk _ (F0.trans (ex ((f59.trans f10).trans f11)))

end Go.Gx.S
end

section
/- What the law of a system with two chassis rests on. -/
namespace Go.Gx.S
end Go.Gx.S
end
