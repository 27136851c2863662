/- What the functions of this program ask. -/
import Derived.Test.YtebfekelonfcgaaDoorTy
set_option linter.unusedVariables false
set_option maxRecDepth 100000
namespace Go.Gx.S
open Go Go.Gx Go.Proofs
-- (*bytes.Buffer).Write
def p21 (P : Program) (K : Value → World → Prop) (x0 : Value) (x1 : Value) : World → Prop :=
  opS P (S.nc x0) fun x2 =>
  opS P (S.fa 43 x2 2) fun x3 =>
  opS P (S.st 41 x3 (.int .i8 0)) fun x4 =>
  opS P (S.len x1) fun x5 =>
  opS P (S.cl 26 [x0, x5]) fun x6 =>
  opS P (S.ext x6 0) fun x7 =>
  opS P (S.ext x6 1) fun x8 =>
  jnJ 1 (fun x9 =>
    opS P (S.nc x0) fun x10 =>
    opS P (S.fa 43 x10 0) fun x11 =>
    opS P (S.ld 24 x11) fun x12 =>
    opS P (S.slc 24 x12 (some x9) none none) fun x13 =>
    opS P (S.bi .copy #[24, 24] 3 [x13, x1]) fun x14 =>
    K (.tuple #[x14, (.nilIface)])
  ) fun j0 =>
  opS P (S.un .not x8) fun x9 =>
  brn x9 (
    opS P (S.len x1) fun x10 =>
    opS P (S.cl 27 [x0, x10]) fun x11 =>
    j0 x11
  ) (
    j0 x7
  )
instance fnb21 : FnB Tryd.prog 21 := ⟨Tryd.call21⟩
theorem e21 : p21 Tryd.prog = fun K x0 x1 => denF Tryd.prog Tryd.f21 [x0, x1] K := by kernel_rfl
theorem c21 {K : Value → World → Prop} {x0 x1 : Value} {w : World} (h : p21 Tryd.prog K x0 x1 w) : CallsR Tryd.prog 21 #[x0, x1] K w := by
  rw [e21] at h
  exact denF_sound mixed Tryd.func21 h

-- (*bytes.Buffer).Bytes
def p23 (P : Program) (K : Value → World → Prop) (x0 : Value) : World → Prop :=
  drw <|
  opS P (S.nc x0) fun x1 =>
  opS P (S.fa 43 x1 0) fun x2 =>
  opS P (S.ld 24 x2) fun x3 =>
  opS P (S.nc x0) fun x4 =>
  opS P (S.fa 43 x4 1) fun x5 =>
  opS P (S.ld 3 x5) fun x6 =>
  opS P (S.slc 24 x3 (some x6) none none) fun x7 =>
  K x7
instance fnb23 : FnB Tryd.prog 23 := ⟨Tryd.call23⟩
theorem e23 : p23 Tryd.prog = fun K x0 => denF Tryd.prog Tryd.f23 [x0] K := by kernel_rfl
theorem c23 {K : Value → World → Prop} {x0 : Value} {w : World} (h : p23 Tryd.prog K x0 w) : CallsR Tryd.prog 23 #[x0] K w := by
  rw [e23] at h
  exact denF_sound mixed Tryd.func23 h

-- (*bytes.Buffer).tryGrowByReslice
def p26 (P : Program) (K : Value → World → Prop) (x0 : Value) (x1 : Value) : World → Prop :=
  opS P (S.nc x0) fun x2 =>
  opS P (S.fa 43 x2 0) fun x3 =>
  opS P (S.ld 24 x3) fun x4 =>
  opS P (S.len x4) fun x5 =>
  opS P (S.nc x0) fun x6 =>
  opS P (S.fa 43 x6 0) fun x7 =>
  opS P (S.ld 24 x7) fun x8 =>
  opS P (S.bi .cap #[24] 3 [x8]) fun x9 =>
  opS P (S.binI .sub x9 x5) fun x10 =>
  opS P (S.binI .leq x1 x10) fun x11 =>
  brn x11 (
    opS P (S.nc x0) fun x12 =>
    opS P (S.fa 43 x12 0) fun x13 =>
    opS P (S.ld 24 x13) fun x14 =>
    opS P (S.binI .add x5 x1) fun x15 =>
    opS P (S.slc 24 x14 none (some x15) none) fun x16 =>
    opS P (S.nc x0) fun x17 =>
    opS P (S.fa 43 x17 0) fun x18 =>
    opS P (S.st 24 x18 x16) fun x19 =>
    K (.tuple #[x5, (.bool true)])
  ) (
    K (.tuple #[(.int .i64 0), (.bool false)])
  )
instance fnb26 : FnB Tryd.prog 26 := ⟨Tryd.call26⟩
theorem e26 : p26 Tryd.prog = fun K x0 x1 => denF Tryd.prog Tryd.f26 [x0, x1] K := by kernel_rfl
theorem c26 {K : Value → World → Prop} {x0 x1 : Value} {w : World} (h : p26 Tryd.prog K x0 x1 w) : CallsR Tryd.prog 26 #[x0, x1] K w := by
  rw [e26] at h
  exact denF_sound mixed Tryd.func26 h

-- (*bytes.Buffer).grow
def p27 (P : Program) (K : Value → World → Prop) (x0 : Value) (x1 : Value) : World → Prop :=
  opS P (S.cl 32 [x0]) fun x2 =>
  jnJ 0 (
    opS P (S.cl 26 [x0, x1]) fun x3 =>
    opS P (S.ext x3 0) fun x4 =>
    opS P (S.ext x3 1) fun x5 =>
    brn x5 (
      K x4
    ) (
      jnJ 0 (
        opS P (S.nc x0) fun x6 =>
        opS P (S.fa 43 x6 0) fun x7 =>
        opS P (S.ld 24 x7) fun x8 =>
        opS P (S.bi .cap #[24] 3 [x8]) fun x9 =>
        jnJ 0 (
          opS P (S.nc x0) fun x10 =>
          opS P (S.fa 43 x10 1) fun x11 =>
          opS P (S.st 3 x11 (.int .i64 0)) fun x12 =>
          opS P (S.nc x0) fun x13 =>
          opS P (S.fa 43 x13 0) fun x14 =>
          opS P (S.ld 24 x14) fun x15 =>
          opS P (S.binI .add x2 x1) fun x16 =>
          opS P (S.slc 24 x15 none (some x16) none) fun x17 =>
          opS P (S.nc x0) fun x18 =>
          opS P (S.fa 43 x18 0) fun x19 =>
          opS P (S.st 24 x19 x17) fun x20 =>
          K x2
        ) fun j0 =>
        opS P (S.binI .quo x9 (.int .i64 2)) fun x10 =>
        opS P (S.binI .sub x10 x2) fun x11 =>
        opS P (S.binI .leq x1 x11) fun x12 =>
        brn x12 (
          drw <|
          opS P (S.nc x0) fun x13 =>
          opS P (S.fa 43 x13 0) fun x14 =>
          opS P (S.ld 24 x14) fun x15 =>
          opS P (S.nc x0) fun x16 =>
          opS P (S.fa 43 x16 0) fun x17 =>
          opS P (S.ld 24 x17) fun x18 =>
          opS P (S.nc x0) fun x19 =>
          opS P (S.fa 43 x19 1) fun x20 =>
          opS P (S.ld 3 x20) fun x21 =>
          opS P (S.slc 24 x18 (some x21) none none) fun x22 =>
          opS P (S.bi .copy #[24, 24] 3 [x15, x22]) fun x23 =>
          j0
        ) (
          jnJ 0 (
            j0
          ) fun j1 =>
          opS P (S.binI .sub (.int .i64 9223372036854775807) x9) fun x13 =>
          opS P (S.binI .sub x13 x1) fun x14 =>
          opS P (S.binI .gtr x9 x14) fun x15 =>
          brn x15 (
            opS P (S.ld 45 (.pointer (some ⟨0, 0, none⟩))) fun x16 =>
            fun _ => False
          ) (
            drw <|
            opS P (S.nc x0) fun x16 =>
            opS P (S.fa 43 x16 0) fun x17 =>
            opS P (S.ld 24 x17) fun x18 =>
            opS P (S.nc x0) fun x19 =>
            opS P (S.fa 43 x19 1) fun x20 =>
            opS P (S.ld 3 x20) fun x21 =>
            opS P (S.slc 24 x18 (some x21) none none) fun x22 =>
            opS P (S.nc x0) fun x23 =>
            opS P (S.fa 43 x23 1) fun x24 =>
            opS P (S.ld 3 x24) fun x25 =>
            opS P (S.binI .add x25 x1) fun x26 =>
            opS P (S.cl 34 [x22, x26]) fun x27 =>
            opS P (S.nc x0) fun x28 =>
            opS P (S.fa 43 x28 0) fun x29 =>
            opS P (S.st 24 x29 x27) fun x30 =>
            j1
          )
        )
      ) fun j0 =>
      opS P (S.nc x0) fun x6 =>
      opS P (S.fa 43 x6 0) fun x7 =>
      opS P (S.ld 24 x7) fun x8 =>
      opS P (S.binN .eql (S.isNilS x8)) fun x9 =>
      brn x9 (
        opS P (S.binI .leq x1 (.int .i64 64)) fun x10 =>
        brn x10 (
          opS P (S.mks 24 x1 (.int .i64 64)) fun x11 =>
          opS P (S.nc x0) fun x12 =>
          opS P (S.fa 43 x12 0) fun x13 =>
          opS P (S.st 24 x13 x11) fun x14 =>
          K (.int .i64 0)
        ) (
          j0
        )
      ) (
        j0
      )
    )
  ) fun j0 =>
  jnJ 0 (
    j0
  ) fun j1 =>
  opS P (S.binI .eql x2 (.int .i64 0)) fun x3 =>
  brn x3 (
    opS P (S.nc x0) fun x4 =>
    opS P (S.fa 43 x4 1) fun x5 =>
    opS P (S.ld 3 x5) fun x6 =>
    opS P (S.binI .neq x6 (.int .i64 0)) fun x7 =>
    brn x7 (
      opS P (S.cl 33 [x0]) fun x8 =>
      j0
    ) (
      j1
    )
  ) (
    j1
  )
instance fnb27 : FnB Tryd.prog 27 := ⟨Tryd.call27⟩
theorem e27 : p27 Tryd.prog = fun K x0 x1 => denF Tryd.prog Tryd.f27 [x0, x1] K := by kernel_rfl
theorem c27 {K : Value → World → Prop} {x0 x1 : Value} {w : World} (h : p27 Tryd.prog K x0 x1 w) : CallsR Tryd.prog 27 #[x0, x1] K w := by
  rw [e27] at h
  exact denF_sound mixed Tryd.func27 h

-- (*bytes.Buffer).Len
def p32 (P : Program) (K : Value → World → Prop) (x0 : Value) : World → Prop :=
  drw <|
  opS P (S.nc x0) fun x1 =>
  opS P (S.fa 43 x1 0) fun x2 =>
  opS P (S.ld 24 x2) fun x3 =>
  opS P (S.len x3) fun x4 =>
  opS P (S.nc x0) fun x5 =>
  opS P (S.fa 43 x5 1) fun x6 =>
  opS P (S.ld 3 x6) fun x7 =>
  opS P (S.binI .sub x4 x7) fun x8 =>
  K x8
instance fnb32 : FnB Tryd.prog 32 := ⟨Tryd.call32⟩
theorem e32 : p32 Tryd.prog = fun K x0 => denF Tryd.prog Tryd.f32 [x0] K := by kernel_rfl
theorem c32 {K : Value → World → Prop} {x0 : Value} {w : World} (h : p32 Tryd.prog K x0 w) : CallsR Tryd.prog 32 #[x0] K w := by
  rw [e32] at h
  exact denF_sound mixed Tryd.func32 h

-- bytes.growSlice
def p34 (P : Program) (K : Value → World → Prop) (x0 : Value) (x1 : Value) : World → Prop :=
  opS P (S.isF (.func (.func 35) #[] #[])) fun x2 =>
  opS P (S.len x0) fun x3 =>
  opS P (S.binI .add x3 x1) fun x4 =>
  jnJ 1 (fun x5 =>
    opS P (S.bi .append #[24, 3] 24 [(.slice none 0 0), x5]) fun x6 =>
    opS P (S.bi .copy #[24, 24] 3 [x6, x0]) fun x7 =>
    opS P (S.slc 24 x6 none (some x7) none) fun x8 =>
    takeD P (.func (.func 35) #[] #[]) fun x9 =>
    K x8
  ) fun j0 =>
  opS P (S.bi .cap #[24] 3 [x0]) fun x5 =>
  opS P (S.binI .mul (.int .i64 2) x5) fun x6 =>
  opS P (S.binI .lss x4 x6) fun x7 =>
  brn x7 (
    opS P (S.bi .cap #[24] 3 [x0]) fun x8 =>
    opS P (S.binI .mul (.int .i64 2) x8) fun x9 =>
    j0 x9
  ) (
    j0 x4
  )
instance fnb34 : FnB Tryd.prog 34 := ⟨Tryd.call34⟩
theorem e34 : p34 Tryd.prog = fun K x0 x1 => denF Tryd.prog Tryd.f34 [x0, x1] K := by kernel_rfl
theorem c34 {K : Value → World → Prop} {x0 x1 : Value} {w : World} (h : p34 Tryd.prog K x0 x1 w) : CallsR Tryd.prog 34 #[x0, x1] K w := by
  rw [e34] at h
  exact denF_sound mixed Tryd.func34 h

end Go.Gx.S
-- 21 26 27 32 23 34
