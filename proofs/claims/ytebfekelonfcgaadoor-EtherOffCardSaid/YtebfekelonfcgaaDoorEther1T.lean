/- What the functions of this program ask. -/
import Derived.Test.YtebfekelonfcgaaDoorTy
set_option linter.unusedVariables false
set_option maxRecDepth 100000
namespace Go.Gx.S
open Go Go.Gx Go.Proofs
-- gemel/ether.Encode
def p10 (P : Program) (K : Value → World → Prop) (x0 : Value) : World → Prop :=
  opS P (S.box 26 x0) fun x1 =>
  opS P (S.ld 26 x1) fun x2 =>
  opS P (S.cl 12 [x2]) fun x3 =>
  opS P (S.un .not x3) fun x4 =>
  brn x4 (
    K (.tuple #[(.slice none 0 0), (.int .i64 1)])
  ) (
    opS P (S.alloc 43) fun x5 =>
    opS P (S.fa 26 x1 0) fun x6 =>
    opS P (S.slc 23 x6 none none none) fun x7 =>
    opS P (S.cl 21 [x5, x7]) fun x8 =>
    opS P (S.fa 26 x1 1) fun x9 =>
    opS P (S.slc 23 x9 none none none) fun x10 =>
    opS P (S.cl 21 [x5, x10]) fun x11 =>
    opS P (S.mkf (.func 22) [] [x5]) fun x12 =>
    jnJ 0 (
      opS P (S.fa 26 x1 5) fun x13 =>
      opS P (S.ld 3 x13) fun x14 =>
      opS P (S.call x12 [x14]) fun x15 =>
      opS P (S.fa 26 x1 6) fun x16 =>
      opS P (S.ld 24 x16) fun x17 =>
      opS P (S.cl 21 [x5, x17]) fun x18 =>
      opS P (S.cl 23 [x5]) fun x19 =>
      K (.tuple #[x19, (.int .i64 0)])
    ) fun j0 =>
    opS P (S.fa 26 x1 2) fun x13 =>
    opS P (S.ld 4 x13) fun x14 =>
    brn x14 (
      opS P (S.call x12 [(.int .i64 33024)]) fun x15 =>
      opS P (S.fa 26 x1 4) fun x16 =>
      opS P (S.ld 3 x16) fun x17 =>
      opS P (S.binI .shl x17 (.int .u64 13)) fun x18 =>
      opS P (S.fa 26 x1 3) fun x19 =>
      opS P (S.ld 3 x19) fun x20 =>
      opS P (S.binI .or x18 x20) fun x21 =>
      opS P (S.call x12 [x21]) fun x22 =>
      j0
    ) (
      j0
    )
  )
instance fnb10 : FnB Tryd.prog 10 := ⟨Tryd.call10⟩
theorem e10 : p10 Tryd.prog = fun K x0 => denF Tryd.prog Tryd.f10 [x0] K := by kernel_rfl
theorem c10 {K : Value → World → Prop} {x0 : Value} {w : World} (h : p10 Tryd.prog K x0 w) : CallsR Tryd.prog 10 #[x0] K w := by
  rw [e10] at h
  exact denF_sound mixed Tryd.func10 h

-- gemel/gemelref02.Encode
def p11 (P : Program) (K : Value → World → Prop) (x0 : Value) : World → Prop :=
  opS P (S.box 26 x0) fun x1 =>
  opS P (S.ld 26 x1) fun x2 =>
  opS P (S.cl 13 [x2]) fun x3 =>
  opS P (S.un .not x3) fun x4 =>
  brn x4 (
    K (.tuple #[(.slice none 0 0), (.int .i64 1)])
  ) (
    jnJ 1 (fun x5 =>
      jnJ 1 (fun x6 =>
        jnJ 1 (fun x7 =>
          opS P (S.fa 26 x1 5) fun x8 =>
          opS P (S.ld 3 x8) fun x9 =>
          opS P (S.cl 24 [x9]) fun x10 =>
          opS P (S.bi .append #[24, 24] 24 [x7, x10]) fun x11 =>
          opS P (S.fa 26 x1 6) fun x12 =>
          opS P (S.ld 24 x12) fun x13 =>
          opS P (S.bi .append #[24, 24] 24 [x11, x13]) fun x14 =>
          K (.tuple #[x14, (.int .i64 0)])
        ) fun j0 =>
        opS P (S.fa 26 x1 2) fun x7 =>
        opS P (S.ld 4 x7) fun x8 =>
        brn x8 (
          opS P (S.cl 24 [(.int .i64 33024)]) fun x9 =>
          opS P (S.bi .append #[24, 24] 24 [x6, x9]) fun x10 =>
          opS P (S.fa 26 x1 4) fun x11 =>
          opS P (S.ld 3 x11) fun x12 =>
          opS P (S.binI .mul (.int .i64 8192) x12) fun x13 =>
          opS P (S.fa 26 x1 3) fun x14 =>
          opS P (S.ld 3 x14) fun x15 =>
          opS P (S.binI .add x13 x15) fun x16 =>
          opS P (S.cl 24 [x16]) fun x17 =>
          opS P (S.bi .append #[24, 24] 24 [x10, x17]) fun x18 =>
          j0 x18
        ) (
          j0 x6
        )
      ) fun j0 =>
      loopJ 2 (fun j1 x6 x7 =>
        opS P (S.binI .lss x7 (.int .i64 6)) fun x8 =>
        brn x8 (
          opS P (S.fa 26 x1 1) fun x9 =>
          opS P (S.ia 23 x9 x7) fun x10 =>
          opS P (S.ld 5 x10) fun x11 =>
          opS P (S.buildS 24 1 [(0, x11)]) fun x12 =>
          opS P (S.bi .append #[24, 24] 24 [x6, x12]) fun x13 =>
          opS P (S.binI .add x7 (.int .i64 1)) fun x14 =>
          j1 x13 x14
        ) (
          j0 x6
        )
      ) x5 (.int .i64 0)
    ) fun j0 =>
    loopJ 2 (fun j1 x5 x6 =>
      opS P (S.binI .lss x6 (.int .i64 6)) fun x7 =>
      brn x7 (
        opS P (S.fa 26 x1 0) fun x8 =>
        opS P (S.ia 23 x8 x6) fun x9 =>
        opS P (S.ld 5 x9) fun x10 =>
        opS P (S.buildS 24 1 [(0, x10)]) fun x11 =>
        opS P (S.bi .append #[24, 24] 24 [x5, x11]) fun x12 =>
        opS P (S.binI .add x6 (.int .i64 1)) fun x13 =>
        j1 x12 x13
      ) (
        j0 x5
      )
    ) (.slice none 0 0) (.int .i64 0)
  )
instance fnb11 : FnB Tryd.prog 11 := ⟨Tryd.call11⟩
theorem e11 : p11 Tryd.prog = fun K x0 => denF Tryd.prog Tryd.f11 [x0] K := by kernel_rfl
theorem c11 {K : Value → World → Prop} {x0 : Value} {w : World} (h : p11 Tryd.prog K x0 w) : CallsR Tryd.prog 11 #[x0] K w := by
  rw [e11] at h
  exact denF_sound mixed Tryd.func11 h

-- gemel/ether.Encode$1
def p22 (P : Program) (K : Value → World → Prop) (x0 : Value) (x1 : Value) : World → Prop :=
  opS P (S.binI .shr x0 (.int .u64 8)) fun x2 =>
  opS P (S.convI .u8 x2) fun x3 =>
  opS P (S.convI .u8 x0) fun x4 =>
  opS P (S.buildS 24 2 [(0, x3), (1, x4)]) fun x5 =>
  opS P (S.cl 21 [x1, x5]) fun x6 =>
  K (.tuple #[])
instance fnb22 : FnB Tryd.prog 22 := ⟨Tryd.call22⟩
theorem e22 : p22 Tryd.prog = fun K x0 x1 => denF Tryd.prog Tryd.f22 [x0, x1] K := by kernel_rfl
theorem c22 {K : Value → World → Prop} {x0 x1 : Value} {w : World} (h : p22 Tryd.prog K x0 x1 w) : CallsR Tryd.prog 22 #[x0, x1] K w := by
  rw [e22] at h
  exact denF_sound mixed Tryd.func22 h

-- gemel/gemelref02.two
def p24 (P : Program) (K : Value → World → Prop) (x0 : Value) : World → Prop :=
  opS P (S.binI .quo x0 (.int .i64 256)) fun x1 =>
  opS P (S.convI .u8 x1) fun x2 =>
  opS P (S.binI .rem x0 (.int .i64 256)) fun x3 =>
  opS P (S.convI .u8 x3) fun x4 =>
  opS P (S.buildS 24 2 [(0, x2), (1, x4)]) fun x5 =>
  K x5
instance fnb24 : FnB Tryd.prog 24 := ⟨Tryd.call24⟩
theorem e24 : p24 Tryd.prog = fun K x0 => denF Tryd.prog Tryd.f24 [x0] K := by kernel_rfl
theorem c24 {K : Value → World → Prop} {x0 : Value} {w : World} (h : p24 Tryd.prog K x0 w) : CallsR Tryd.prog 24 #[x0] K w := by
  rw [e24] at h
  exact denF_sound mixed Tryd.func24 h

end Go.Gx.S
-- 10 22 11 24
