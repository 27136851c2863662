/- What the functions of this program ask. -/
import Derived.Test.YtclkdldkebjgpaaTy
set_option linter.unusedVariables false
set_option maxRecDepth 100000
namespace Go.Gx.S
open Go Go.Gx Go.Proofs
-- gemel/journal.New
def p6 (P : Program) (K : Value → World → Prop) (x0 : Value) : World → Prop :=
  opS P (S.binI .lss x0 (.int .i64 1)) fun x1 =>
  brn x1 (
    K (.tuple #[(.pointer none), (.int .i64 1)])
  ) (
    opS P (S.binI .gtr x0 (.int .i64 1000)) fun x2 =>
    brn x2 (
      K (.tuple #[(.pointer none), (.int .i64 1)])
    ) (
      opS P (S.mks 47 x0 x0) fun x3 =>
      opS P (S.build 71 [(0, x3)]) fun x4 =>
      opS P (S.box 71 x4) fun x5 =>
      K (.tuple #[x5, (.int .i64 0)])
    )
  )
instance fnb6 : FnB Try.prog 6 := ⟨Try.call6⟩
theorem e6 : p6 Try.prog = fun K x0 => denF Try.prog Try.f6 [x0] K := by kernel_rfl
theorem c6 {K : Value → World → Prop} {x0 : Value} {w : World} (h : p6 Try.prog K x0 w) : CallsR Try.prog 6 #[x0] K w := by
  rw [e6] at h
  exact denF_sound mixed Try.func6 h

-- (*gemel/journal.Journal).Last
def p8 (P : Program) (K : Value → World → Prop) (x0 : Value) : World → Prop :=
  opS P (S.nc x0) fun x1 =>
  opS P (S.fa 71 x1 1) fun x2 =>
  opS P (S.ld 3 x2) fun x3 =>
  K x3
instance fnb8 : FnB Try.prog 8 := ⟨Try.call8⟩
theorem e8 : p8 Try.prog = fun K x0 => denF Try.prog Try.f8 [x0] K := by kernel_rfl
theorem c8 {K : Value → World → Prop} {x0 : Value} {w : World} (h : p8 Try.prog K x0 w) : CallsR Try.prog 8 #[x0] K w := by
  rw [e8] at h
  exact denF_sound mixed Try.func8 h

-- (*gemel/journal.Journal).Put
def p11 (P : Program) (K : Value → World → Prop) (x0 : Value) (x1 : Value) (x2 : Value) : World → Prop :=
  opS P (S.box 40 x1) fun x3 =>
  opS P (S.nc x0) fun x4 =>
  opS P (S.fa 71 x4 1) fun x5 =>
  opS P (S.ld 3 x5) fun x6 =>
  opS P (S.binI .geq x6 (.int .i64 1073741824)) fun x7 =>
  brn x7 (
    K (.tuple #[(.int .i64 0), (.int .i64 3)])
  ) (
    opS P (S.nc x0) fun x8 =>
    opS P (S.fa 71 x8 1) fun x9 =>
    opS P (S.ld 3 x9) fun x10 =>
    opS P (S.binI .add x10 (.int .i64 1)) fun x11 =>
    opS P (S.nc x0) fun x12 =>
    opS P (S.fa 71 x12 1) fun x13 =>
    opS P (S.st 3 x13 x11) fun x14 =>
    drw <|
    opS P (S.nc x0) fun x15 =>
    opS P (S.fa 71 x15 0) fun x16 =>
    opS P (S.ld 47 x16) fun x17 =>
    opS P (S.nc x0) fun x18 =>
    opS P (S.fa 71 x18 1) fun x19 =>
    opS P (S.ld 3 x19) fun x20 =>
    opS P (S.nc x0) fun x21 =>
    opS P (S.fa 71 x21 0) fun x22 =>
    opS P (S.ld 47 x22) fun x23 =>
    opS P (S.len x23) fun x24 =>
    opS P (S.binI .rem x20 x24) fun x25 =>
    opS P (S.nc x0) fun x26 =>
    opS P (S.fa 71 x26 1) fun x27 =>
    opS P (S.ld 3 x27) fun x28 =>
    opS P (S.ld 40 x3) fun x29 =>
    opS P (S.build 86 [(0, x28), (1, x29), (2, x2)]) fun x30 =>
    opS P (S.ia 47 x17 x25) fun x31 =>
    opS P (S.st 86 x31 x30) fun x32 =>
    opS P (S.nc x0) fun x33 =>
    opS P (S.fa 71 x33 1) fun x34 =>
    opS P (S.ld 3 x34) fun x35 =>
    K (.tuple #[x35, (.int .i64 0)])
  )
instance fnb11 : FnB Try.prog 11 := ⟨Try.call11⟩
theorem e11 : p11 Try.prog = fun K x0 x1 x2 => denF Try.prog Try.f11 [x0, x1, x2] K := by kernel_rfl
theorem c11 {K : Value → World → Prop} {x0 x1 x2 : Value} {w : World} (h : p11 Try.prog K x0 x1 x2 w) : CallsR Try.prog 11 #[x0, x1, x2] K w := by
  rw [e11] at h
  exact denF_sound mixed Try.func11 h

-- (*gemel/journal.Journal).Since
def p15 (P : Program) (K : Value → World → Prop) (x0 : Value) (x1 : Value) : World → Prop :=
  drw <|
  opS P (S.binI .lss x1 (.int .i64 0)) fun x2 =>
  brn x2 (
    K (.tuple #[(.slice none 0 0), (.bool false)])
  ) (
    opS P (S.nc x0) fun x3 =>
    opS P (S.fa 71 x3 1) fun x4 =>
    opS P (S.ld 3 x4) fun x5 =>
    opS P (S.binI .gtr x1 x5) fun x6 =>
    brn x6 (
      K (.tuple #[(.slice none 0 0), (.bool false)])
    ) (
      opS P (S.nc x0) fun x7 =>
      opS P (S.fa 71 x7 1) fun x8 =>
      opS P (S.ld 3 x8) fun x9 =>
      opS P (S.binI .sub x9 x1) fun x10 =>
      opS P (S.nc x0) fun x11 =>
      opS P (S.fa 71 x11 0) fun x12 =>
      opS P (S.ld 47 x12) fun x13 =>
      opS P (S.len x13) fun x14 =>
      opS P (S.binI .gtr x10 x14) fun x15 =>
      brn x15 (
        K (.tuple #[(.slice none 0 0), (.bool false)])
      ) (
        opS P (S.alloc 47) fun x16 =>
        opS P (S.cl 40 [x0, x1]) fun x17 =>
        rfS P x17 1 (fun bs K => JT.app 2 (fun x18 x19 =>
          opS P (S.alloc 86) fun x20 =>
          opS P (S.st 86 x20 x19) fun x21 =>
          opS P (S.beginR x18) fun x22 =>
          opS P (S.ld 47 x16) fun x23 =>
          opS P (S.ld 86 x20) fun x24 =>
          opS P (S.buildS 47 1 [(0, x24)]) fun x25 =>
          opS P (S.bi .append #[47, 47] 47 [x23, x25]) fun x26 =>
          opS P (S.st 47 x16 x26) fun x27 =>
          opS P (S.endR x18 none) fun x28 =>
          K x28
        ) bs) (fun x18 =>
          opS P (S.ld 47 x16) fun x19 =>
          takeD P x18 fun x20 =>
          K (.tuple #[x19, (.bool true)])
        ) (fun x18 =>
          takeD P x18 fun x19 =>
          K (.tuple #[(.slice none 0 0), (.bool false)])
        ) 0 (fun x18 =>
          fun _ => False
        )
      )
    )
  )
instance fnb15 : FnB Try.prog 15 := ⟨Try.call15⟩
theorem e15 : p15 Try.prog = fun K x0 x1 => denF Try.prog Try.f15 [x0, x1] K := by kernel_rfl
theorem c15 {K : Value → World → Prop} {x0 x1 : Value} {w : World} (h : p15 Try.prog K x0 x1 w) : CallsR Try.prog 15 #[x0, x1] K w := by
  rw [e15] at h
  exact denF_sound mixed Try.func15 h

-- (*gemel/journal.Journal).behind
def p40 (P : Program) (K : Value → World → Prop) (x0 : Value) (x1 : Value) : World → Prop :=
  opS P (S.box 27 x0) fun x2 =>
  opS P (S.box 3 x1) fun x3 =>
  opS P (S.mkf (.func 77) [] [x3, x2]) fun x4 =>
  K x4
instance fnb40 : FnB Try.prog 40 := ⟨Try.call40⟩
theorem e40 : p40 Try.prog = fun K x0 x1 => denF Try.prog Try.f40 [x0, x1] K := by kernel_rfl
theorem c40 {K : Value → World → Prop} {x0 x1 : Value} {w : World} (h : p40 Try.prog K x0 x1 w) : CallsR Try.prog 40 #[x0, x1] K w := by
  rw [e40] at h
  exact denF_sound mixed Try.func40 h

-- (*gemel/journal.Journal).behind$1
def p77 (P : Program) (K : Value → World → Prop) (x0 : Value) (x1 : Value) (x2 : Value) : World → Prop :=
  opS P (S.ld 3 x1) fun x3 =>
  opS P (S.binI .add x3 (.int .i64 1)) fun x4 =>
  jnJ 0 (
    K (.tuple #[])
  ) fun j0 =>
  loopJ 1 (fun j1 x5 =>
    opS P (S.ld 27 x2) fun x6 =>
    opS P (S.nc x6) fun x7 =>
    opS P (S.fa 71 x7 1) fun x8 =>
    opS P (S.ld 3 x8) fun x9 =>
    opS P (S.binI .leq x5 x9) fun x10 =>
    brn x10 (
      drw <|
      opS P (S.ld 27 x2) fun x11 =>
      opS P (S.nc x11) fun x12 =>
      opS P (S.fa 71 x12 0) fun x13 =>
      opS P (S.ld 47 x13) fun x14 =>
      opS P (S.ld 27 x2) fun x15 =>
      opS P (S.nc x15) fun x16 =>
      opS P (S.fa 71 x16 0) fun x17 =>
      opS P (S.ld 47 x17) fun x18 =>
      opS P (S.len x18) fun x19 =>
      opS P (S.binI .rem x5 x19) fun x20 =>
      opS P (S.ia 47 x14 x20) fun x21 =>
      opS P (S.ld 86 x21) fun x22 =>
      opS P (S.call x0 [x22]) fun x23 =>
      opS P (S.un .not x23) fun x24 =>
      brn x24 (
        K (.tuple #[])
      ) (
        opS P (S.binI .add x5 (.int .i64 1)) fun x25 =>
        j1 x25
      )
    ) (
      j0
    )
  ) x4
instance fnb77 : FnB Try.prog 77 := ⟨Try.call77⟩
theorem e77 : p77 Try.prog = fun K x0 x1 x2 => denF Try.prog Try.f77 [x0, x1, x2] K := by kernel_rfl
theorem c77 {K : Value → World → Prop} {x0 x1 x2 : Value} {w : World} (h : p77 Try.prog K x0 x1 x2 w) : CallsR Try.prog 77 #[x0, x1, x2] K w := by
  rw [e77] at h
  exact denF_sound mixed Try.func77 h

end Go.Gx.S
-- 8 6 11 40 77 15
