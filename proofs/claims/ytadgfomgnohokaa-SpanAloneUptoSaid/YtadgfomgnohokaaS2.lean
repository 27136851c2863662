/- Own texts, put together. -/
import Derived.Test.YtadgfomgnohokaaS1
import Derived.Maps.RangeRun
import Derived.Maps.Keyed
import Derived.DeepKeys4
import Derived.Laws.Strings
import Derived.Lib.SlicesCompact
import Derived.Sort.Row
import Derived.Sort.Grow
import Derived.Shelf.SlSortCmp.WholeK
import Derived.Shelf.SlSortCmp.NoneTotal
section
/- What the functions of this program ask. -/
set_option linter.unusedVariables false
set_option maxRecDepth 100000
namespace Go.Gx.S
open Go Go.Gx Go.Proofs
-- gemel/span.New
def p12 (P : Program) (K : Value → World → Prop) (x0 : Value) (x1 : Value) : World → Prop :=
  opS P (S.box 31 x0) fun x2 =>
  opS P (S.ld 31 x2) fun x3 =>
  opS P (S.mkm 65 none) fun x4 =>
  opS P (S.build 67 [(0, x3), (4, (.int .i64 (-1))), (5, x4)]) fun x5 =>
  opS P (S.box 67 x5) fun x6 =>
  opS P (S.len x1) fun x7 =>
  jnJ 0 (
    jnJ 2 (fun x8 x9 =>
      opS P (S.len x1) fun x10 =>
      opS P (S.binI .lss x10 (.int .i64 1)) fun x11 =>
      brn x11 (
        K (.tuple #[(.pointer none), (.int .i64 1)])
      ) (
        opS P (S.fa 31 x2 0) fun x12 =>
        opS P (S.ld 3 x12) fun x13 =>
        opS P (S.binI .lss x13 (.int .i64 0)) fun x14 =>
        brn x14 (
          K (.tuple #[(.pointer none), (.int .i64 1)])
        ) (
          opS P (S.fa 31 x2 0) fun x15 =>
          opS P (S.ld 3 x15) fun x16 =>
          opS P (S.binI .gtr x16 (.int .i64 65535)) fun x17 =>
          brn x17 (
            K (.tuple #[(.pointer none), (.int .i64 1)])
          ) (
            opS P (S.binI .neq x9 (.int .i64 0)) fun x18 =>
            brn x18 (
              K (.tuple #[(.pointer none), (.int .i64 1)])
            ) (
              opS P (S.ld 36 x8) fun x19 =>
              opS P (S.nc x6) fun x20 =>
              opS P (S.fa 67 x20 2) fun x21 =>
              opS P (S.st 36 x21 x19) fun x22 =>
              K (.tuple #[x6, (.int .i64 0)])
            )
          )
        )
      )
    ) fun j0 =>
    drw <|
    allW (
      opS P (S.ld 31 x2) fun x8 =>
      allW (
        opS P (S.cl 22 [x6]) fun x9 =>
        allW (
          opS P (S.cl 21 [x8, x9]) fun x10 =>
          opS P (S.ext x10 0) fun x11 =>
          opS P (S.ext x10 1) fun x12 =>
          opS P (S.ext x10 2) fun x13 =>
          opS P (S.alloc 36) fun x14 =>
          opS P (S.st 36 x14 x11) fun x15 =>
          j0 x14 x13
        ) (
          opS P (S.alloc 36) fun x10 =>
          opS P (S.cl 21 [x8, x9]) fun x11 =>
          opS P (S.ext x11 0) fun x12 =>
          opS P (S.ext x11 1) fun x13 =>
          opS P (S.ext x11 2) fun x14 =>
          opS P (S.st 36 x10 x12) fun x15 =>
          j0 x10 x14
        )
      ) (
        opS P (S.alloc 36) fun x9 =>
        opS P (S.cl 22 [x6]) fun x10 =>
        opS P (S.cl 21 [x8, x10]) fun x11 =>
        opS P (S.ext x11 0) fun x12 =>
        opS P (S.ext x11 1) fun x13 =>
        opS P (S.ext x11 2) fun x14 =>
        opS P (S.st 36 x9 x12) fun x15 =>
        j0 x9 x14
      )
    ) (
      allW (
        opS P (S.cl 22 [x6]) fun x8 =>
        allW (
          opS P (S.ld 31 x2) fun x9 =>
          allW (
            opS P (S.cl 21 [x9, x8]) fun x10 =>
            opS P (S.ext x10 0) fun x11 =>
            opS P (S.ext x10 1) fun x12 =>
            opS P (S.ext x10 2) fun x13 =>
            opS P (S.alloc 36) fun x14 =>
            opS P (S.st 36 x14 x11) fun x15 =>
            j0 x14 x13
          ) (
            opS P (S.alloc 36) fun x10 =>
            opS P (S.cl 21 [x9, x8]) fun x11 =>
            opS P (S.ext x11 0) fun x12 =>
            opS P (S.ext x11 1) fun x13 =>
            opS P (S.ext x11 2) fun x14 =>
            opS P (S.st 36 x10 x12) fun x15 =>
            j0 x10 x14
          )
        ) (
          opS P (S.alloc 36) fun x9 =>
          opS P (S.ld 31 x2) fun x10 =>
          opS P (S.cl 21 [x10, x8]) fun x11 =>
          opS P (S.ext x11 0) fun x12 =>
          opS P (S.ext x11 1) fun x13 =>
          opS P (S.ext x11 2) fun x14 =>
          opS P (S.st 36 x9 x12) fun x15 =>
          j0 x9 x14
        )
      ) (
        opS P (S.alloc 36) fun x8 =>
        allW (
          opS P (S.ld 31 x2) fun x9 =>
          opS P (S.cl 22 [x6]) fun x10 =>
          opS P (S.cl 21 [x9, x10]) fun x11 =>
          opS P (S.ext x11 0) fun x12 =>
          opS P (S.ext x11 1) fun x13 =>
          opS P (S.ext x11 2) fun x14 =>
          opS P (S.st 36 x8 x12) fun x15 =>
          j0 x8 x14
        ) (
          opS P (S.cl 22 [x6]) fun x9 =>
          opS P (S.ld 31 x2) fun x10 =>
          opS P (S.cl 21 [x10, x9]) fun x11 =>
          opS P (S.ext x11 0) fun x12 =>
          opS P (S.ext x11 1) fun x13 =>
          opS P (S.ext x11 2) fun x14 =>
          opS P (S.st 36 x8 x12) fun x15 =>
          j0 x8 x14
        )
      )
    )
  ) fun j0 =>
  loopJ 1 (fun j1 x8 =>
    opS P (S.binI .lss x8 x7) fun x9 =>
    brn x9 (
      opS P (S.ia 23 x1 x8) fun x10 =>
      opS P (S.ld 3 x10) fun x11 =>
      opS P (S.nc x6) fun x12 =>
      opS P (S.fa 67 x12 1) fun x13 =>
      opS P (S.ld 64 x13) fun x14 =>
      opS P (S.binI .add x8 (.int .i64 1)) fun x15 =>
      opS P (S.build 60 [(0, x15), (1, x11)]) fun x16 =>
      opS P (S.build 62 [(0, x16)]) fun x17 =>
      opS P (S.box 62 x17) fun x18 =>
      opS P (S.buildS 64 1 [(0, x18)]) fun x19 =>
      opS P (S.bi .append #[64, 64] 64 [x14, x19]) fun x20 =>
      opS P (S.nc x6) fun x21 =>
      opS P (S.fa 67 x21 1) fun x22 =>
      opS P (S.st 64 x22 x20) fun x23 =>
      opS P (S.binI .add x8 (.int .i64 1)) fun x24 =>
      j1 x24
    ) (
      j0
    )
  ) (.int .i64 0)
instance fnb12 : FnB Try.prog 12 := ⟨Try.call12⟩
theorem e12 : p12 Try.prog = fun K x0 x1 => denF Try.prog Try.f12 [x0, x1] K := by kernel_rfl
theorem c12 {K : Value → World → Prop} {x0 x1 : Value} {w : World} (h : p12 Try.prog K x0 x1 w) : CallsR Try.prog 12 #[x0, x1] K w := by
  rw [e12] at h
  exact denF_sound mixed Try.func12 h

end Go.Gx.S
-- 12
end

section
/- What the functions of this program ask. -/
set_option linter.unusedVariables false
set_option maxRecDepth 100000
namespace Go.Gx.S
open Go Go.Gx Go.Proofs
-- (*gemel/span.Span).States
def p10 (P : Program) (K : Value → World → Prop) (x0 : Value) : World → Prop :=
  opS P (S.cl 19 [x0, (.func (.func 20) #[] #[])]) fun x1 =>
  K x1
instance fnb10 : FnB Try.prog 10 := ⟨Try.call10⟩
theorem e10 : p10 Try.prog = fun K x0 => denF Try.prog Try.f10 [x0] K := by kernel_rfl
theorem c10 {K : Value → World → Prop} {x0 : Value} {w : World} (h : p10 Try.prog K x0 w) : CallsR Try.prog 10 #[x0] K w := by
  rw [e10] at h
  exact denF_sound mixed Try.func10 h

-- (*gemel/span.Span).Best
def p11 (P : Program) (K : Value → World → Prop) (x0 : Value) : World → Prop :=
  opS P (S.alloc 36) fun x1 =>
  opS P (S.nc x0) fun x2 =>
  opS P (S.fa 67 x2 2) fun x3 =>
  opS P (S.ld 36 x3) fun x4 =>
  opS P (S.st 36 x1 x4) fun x5 =>
  opS P (S.ld 36 x1) fun x6 =>
  K x6
instance fnb11 : FnB Try.prog 11 := ⟨Try.call11⟩
theorem e11 : p11 Try.prog = fun K x0 => denF Try.prog Try.f11 [x0] K := by kernel_rfl
theorem c11 {K : Value → World → Prop} {x0 : Value} {w : World} (h : p11 Try.prog K x0 w) : CallsR Try.prog 11 #[x0] K w := by
  rw [e11] at h
  exact denF_sound mixed Try.func11 h

-- (*gemel/span.Span).Roles
def p15 (P : Program) (K : Value → World → Prop) (x0 : Value) : World → Prop :=
  opS P (S.cl 19 [x0, (.func (.func 29) #[] #[])]) fun x1 =>
  K x1
instance fnb15 : FnB Try.prog 15 := ⟨Try.call15⟩
theorem e15 : p15 Try.prog = fun K x0 => denF Try.prog Try.f15 [x0] K := by kernel_rfl
theorem c15 {K : Value → World → Prop} {x0 : Value} {w : World} (h : p15 Try.prog K x0 w) : CallsR Try.prog 15 #[x0] K w := by
  rw [e15] at h
  exact denF_sound mixed Try.func15 h

-- (*gemel/span.Span).those
def p19 (P : Program) (K : Value → World → Prop) (x0 : Value) (x1 : Value) : World → Prop :=
  opS P (S.nc x0) fun x2 =>
  opS P (S.fa 67 x2 1) fun x3 =>
  opS P (S.ld 64 x3) fun x4 =>
  opS P (S.len x4) fun x5 =>
  jnJ 1 (fun x6 =>
    K x6
  ) fun j0 =>
  loopJ 2 (fun j1 x6 x7 =>
    opS P (S.binI .lss x7 x5) fun x8 =>
    brn x8 (
      opS P (S.ia 64 x4 x7) fun x9 =>
      opS P (S.ld 58 x9) fun x10 =>
      opS P (S.call x1 [x10]) fun x11 =>
      opS P (S.buildS 23 1 [(0, x11)]) fun x12 =>
      opS P (S.bi .append #[23, 23] 23 [x6, x12]) fun x13 =>
      opS P (S.binI .add x7 (.int .i64 1)) fun x14 =>
      j1 x13 x14
    ) (
      j0 x6
    )
  ) (.slice none 0 0) (.int .i64 0)
instance fnb19 : FnB Try.prog 19 := ⟨Try.call19⟩
theorem e19 : p19 Try.prog = fun K x0 x1 => denF Try.prog Try.f19 [x0, x1] K := by kernel_rfl
theorem c19 {K : Value → World → Prop} {x0 x1 : Value} {w : World} (h : p19 Try.prog K x0 x1 w) : CallsR Try.prog 19 #[x0, x1] K w := by
  rw [e19] at h
  exact denF_sound mixed Try.func19 h

-- (*gemel/span.Span).States$1
def p20 (P : Program) (K : Value → World → Prop) (x0 : Value) : World → Prop :=
  opS P (S.nc x0) fun x1 =>
  opS P (S.fa 62 x1 5) fun x2 =>
  opS P (S.ld 3 x2) fun x3 =>
  K x3
instance fnb20 : FnB Try.prog 20 := ⟨Try.call20⟩
theorem e20 : p20 Try.prog = fun K x0 => denF Try.prog Try.f20 [x0] K := by kernel_rfl
theorem c20 {K : Value → World → Prop} {x0 : Value} {w : World} (h : p20 Try.prog K x0 w) : CallsR Try.prog 20 #[x0] K w := by
  rw [e20] at h
  exact denF_sound mixed Try.func20 h

-- (*gemel/span.Span).Roles$1
def p29 (P : Program) (K : Value → World → Prop) (x0 : Value) : World → Prop :=
  opS P (S.nc x0) fun x1 =>
  opS P (S.fa 62 x1 4) fun x2 =>
  opS P (S.ld 3 x2) fun x3 =>
  K x3
instance fnb29 : FnB Try.prog 29 := ⟨Try.call29⟩
theorem e29 : p29 Try.prog = fun K x0 => denF Try.prog Try.f29 [x0] K := by kernel_rfl
theorem c29 {K : Value → World → Prop} {x0 : Value} {w : World} (h : p29 Try.prog K x0 w) : CallsR Try.prog 29 #[x0] K w := by
  rw [e29] at h
  exact denF_sound mixed Try.func29 h

end Go.Gx.S
-- 15 10 19 29 20 11
end

section
/- What the functions of this program ask. -/
set_option linter.unusedVariables false
set_option maxRecDepth 100000
namespace Go.Gx.S
open Go Go.Gx Go.Proofs
-- (*gemel/span.Span).Tick
def p14 (P : Program) (K : Value → World → Prop) (x0 : Value) (x1 : Value) : World → Prop :=
  opS P (S.cl 24 [x1]) fun x2 =>
  opS P (S.un .not x2) fun x3 =>
  brn x3 (
    K (.tuple #[(.slice none 0 0), (.int .i64 1)])
  ) (
    opS P (S.nc x0) fun x4 =>
    opS P (S.fa 67 x4 1) fun x5 =>
    opS P (S.ld 64 x5) fun x6 =>
    opS P (S.len x6) fun x7 =>
    jnJ 0 (
      opS P (S.cl 25 [x0, x1]) fun x8 =>
      opS P (S.nc x0) fun x9 =>
      opS P (S.fa 67 x9 1) fun x10 =>
      opS P (S.ld 64 x10) fun x11 =>
      opS P (S.len x11) fun x12 =>
      jnJ 0 (
        jnJ 1 (fun x13 =>
          jnJ 0 (
            opS P (S.nc x0) fun x14 =>
            opS P (S.fa 67 x14 1) fun x15 =>
            opS P (S.ld 64 x15) fun x16 =>
            opS P (S.len x16) fun x17 =>
            jnJ 1 (fun x18 =>
              K (.tuple #[x18, (.int .i64 0)])
            ) fun j0 =>
            loopJ 2 (fun j1 x18 x19 =>
              opS P (S.binI .lss x19 x17) fun x20 =>
              brn x20 (
                opS P (S.ia 64 x16 x19) fun x21 =>
                opS P (S.ld 58 x21) fun x22 =>
                opS P (S.cl 27 [x0]) fun x23 =>
                opS P (S.alloc 50) fun x24 =>
                opS P (S.st 50 x24 x23) fun x25 =>
                opS P (S.cl 28 [x0, x22, x13, x1]) fun x26 =>
                opS P (S.binI .add x19 (.int .i64 1)) fun x27 =>
                opS P (S.fa 50 x24 1) fun x28 =>
                opS P (S.st 3 x28 x26) fun x29 =>
                opS P (S.fa 50 x24 5) fun x30 =>
                opS P (S.st 3 x30 x27) fun x31 =>
                opS P (S.fa 50 x24 1) fun x32 =>
                opS P (S.ld 3 x32) fun x33 =>
                opS P (S.binI .eql x33 (.int .i64 0)) fun x34 =>
                brn x34 (
                  opS P (S.binI .add x19 (.int .i64 1)) fun x35 =>
                  j1 x18 x35
                ) (
                  opS P (S.nc x22) fun x35 =>
                  opS P (S.fa 62 x35 8) fun x36 =>
                  opS P (S.st 4 x36 (.bool false)) fun x37 =>
                  opS P (S.binI .add x19 (.int .i64 1)) fun x38 =>
                  opS P (S.ld 50 x24) fun x39 =>
                  opS P (S.build 56 [(0, x38), (1, x39)]) fun x40 =>
                  opS P (S.buildS 44 1 [(0, x40)]) fun x41 =>
                  opS P (S.bi .append #[44, 44] 44 [x18, x41]) fun x42 =>
                  opS P (S.binI .add x19 (.int .i64 1)) fun x43 =>
                  j1 x42 x43
                )
              ) (
                j0 x18
              )
            ) (.slice none 0 0) (.int .i64 0)
          ) fun j0 =>
          brn x13 (
            opS P (S.nc x0) fun x14 =>
            opS P (S.fa 67 x14 4) fun x15 =>
            opS P (S.st 3 x15 x1) fun x16 =>
            j0
          ) (
            j0
          )
        ) fun j0 =>
        opS P (S.nc x0) fun x13 =>
        opS P (S.fa 67 x13 4) fun x14 =>
        opS P (S.ld 3 x14) fun x15 =>
        opS P (S.binI .eql x15 (.int .i64 (-1))) fun x16 =>
        brn x16 (
          j0 (.bool true)
        ) (
          opS P (S.nc x0) fun x17 =>
          opS P (S.fa 67 x17 4) fun x18 =>
          opS P (S.ld 3 x18) fun x19 =>
          opS P (S.binI .sub x1 x19) fun x20 =>
          opS P (S.binI .geq x20 (.int .i64 2)) fun x21 =>
          j0 x21
        )
      ) fun j0 =>
      loopJ 1 (fun j1 x13 =>
        opS P (S.binI .lss x13 x12) fun x14 =>
        brn x14 (
          opS P (S.ia 64 x11 x13) fun x15 =>
          opS P (S.ld 58 x15) fun x16 =>
          opS P (S.cl 26 [x0, x16, x1]) fun x17 =>
          opS P (S.binI .add x13 (.int .i64 1)) fun x18 =>
          j1 x18
        ) (
          j0
        )
      ) (.int .i64 0)
    ) fun j0 =>
    loopJ 1 (fun j1 x8 =>
      opS P (S.binI .lss x8 x7) fun x9 =>
      brn x9 (
        opS P (S.ia 64 x6 x8) fun x10 =>
        opS P (S.ld 58 x10) fun x11 =>
        opS P (S.nc x11) fun x12 =>
        opS P (S.fa 62 x12 0) fun x13 =>
        opS P (S.fa 60 x13 3) fun x14 =>
        opS P (S.ld 4 x14) fun x15 =>
        brn x15 (
          opS P (S.nc x11) fun x16 =>
          opS P (S.fa 62 x16 2) fun x17 =>
          opS P (S.ld 3 x17) fun x18 =>
          opS P (S.binI .lss x1 x18) fun x19 =>
          opS P (S.nc x11) fun x20 =>
          opS P (S.fa 62 x20 0) fun x21 =>
          opS P (S.fa 60 x21 3) fun x22 =>
          opS P (S.st 4 x22 x19) fun x23 =>
          opS P (S.binI .add x8 (.int .i64 1)) fun x24 =>
          j1 x24
        ) (
          opS P (S.nc x11) fun x16 =>
          opS P (S.fa 62 x16 0) fun x17 =>
          opS P (S.fa 60 x17 3) fun x18 =>
          opS P (S.st 4 x18 (.bool false)) fun x19 =>
          opS P (S.binI .add x8 (.int .i64 1)) fun x20 =>
          j1 x20
        )
      ) (
        j0
      )
    ) (.int .i64 0)
  )
instance fnb14 : FnB Try.prog 14 := ⟨Try.call14⟩
theorem e14 : p14 Try.prog = fun K x0 x1 => denF Try.prog Try.f14 [x0, x1] K := by kernel_rfl
theorem c14 {K : Value → World → Prop} {x0 x1 : Value} {w : World} (h : p14 Try.prog K x0 x1 w) : CallsR Try.prog 14 #[x0, x1] K w := by
  rw [e14] at h
  exact denF_sound mixed Try.func14 h

end Go.Gx.S
-- 14
end

section
/- What the functions of this program ask. -/
set_option linter.unusedVariables false
set_option maxRecDepth 100000
namespace Go.Gx.S
open Go Go.Gx Go.Proofs
-- (*gemel/span.Span).spoken
def p27 (P : Program) (K : Value → World → Prop) (x0 : Value) : World → Prop :=
  opS P (S.alloc 50) fun x1 =>
  jnJ 1 (fun x2 =>
    opS P (S.nc x0) fun x3 =>
    opS P (S.fa 67 x3 1) fun x4 =>
    opS P (S.ld 64 x4) fun x5 =>
    opS P (S.len x5) fun x6 =>
    jnJ 0 (
      opS P (S.ld 50 x2) fun x7 =>
      opS P (S.st 50 x1 x7) fun x8 =>
      opS P (S.ld 50 x1) fun x9 =>
      K x9
    ) fun j0 =>
    loopJ 1 (fun j1 x7 =>
      opS P (S.binI .lss x7 x6) fun x8 =>
      brn x8 (
        opS P (S.ia 64 x5 x7) fun x9 =>
        opS P (S.ld 58 x9) fun x10 =>
        opS P (S.nc x10) fun x11 =>
        opS P (S.fa 62 x11 4) fun x12 =>
        opS P (S.ld 3 x12) fun x13 =>
        opS P (S.binI .eql x13 (.int .i64 1)) fun x14 =>
        brn x14 (
          opS P (S.nc x10) fun x15 =>
          opS P (S.fa 62 x15 1) fun x16 =>
          opS P (S.ld 3 x16) fun x17 =>
          opS P (S.binI .add x17 (.int .i64 1)) fun x18 =>
          opS P (S.bi .min #[3, 3] 3 [x18, (.int .i64 65535)]) fun x19 =>
          opS P (S.fa 50 x2 6) fun x20 =>
          opS P (S.st 3 x20 x19) fun x21 =>
          opS P (S.binI .add x7 (.int .i64 1)) fun x22 =>
          j1 x22
        ) (
          opS P (S.binI .add x7 (.int .i64 1)) fun x15 =>
          j1 x15
        )
      ) (
        j0
      )
    ) (.int .i64 0)
  ) fun j0 =>
  drw <|
  opS P (S.nc x0) fun x2 =>
  opS P (S.fa 67 x2 2) fun x3 =>
  opS P (S.fa 36 x3 0) fun x4 =>
  opS P (S.nc x0) fun x5 =>
  opS P (S.fa 67 x5 2) fun x6 =>
  opS P (S.fa 36 x6 1) fun x7 =>
  opS P (S.nc x0) fun x8 =>
  opS P (S.fa 67 x8 0) fun x9 =>
  allW (
    opS P (S.ld 31 x4) fun x10 =>
    allW (
      opS P (S.ld 3 x7) fun x11 =>
      allW (
        opS P (S.ld 31 x9) fun x12 =>
        opS P (S.build 50 [(0, (.int .i64 2)), (2, x10), (3, x11), (4, x12), (7, (.int .i64 20)), (8, (.int .i64 2)), (9, (.int .i64 15))]) fun x13 =>
        opS P (S.alloc 50) fun x14 =>
        opS P (S.st 50 x14 x13) fun x15 =>
        j0 x14
      ) (
        opS P (S.alloc 50) fun x12 =>
        opS P (S.ld 31 x9) fun x13 =>
        opS P (S.build 50 [(0, (.int .i64 2)), (2, x10), (3, x11), (4, x13), (7, (.int .i64 20)), (8, (.int .i64 2)), (9, (.int .i64 15))]) fun x14 =>
        opS P (S.st 50 x12 x14) fun x15 =>
        j0 x12
      )
    ) (
      allW (
        opS P (S.ld 31 x9) fun x11 =>
        allW (
          opS P (S.ld 3 x7) fun x12 =>
          opS P (S.build 50 [(0, (.int .i64 2)), (2, x10), (3, x12), (4, x11), (7, (.int .i64 20)), (8, (.int .i64 2)), (9, (.int .i64 15))]) fun x13 =>
          opS P (S.alloc 50) fun x14 =>
          opS P (S.st 50 x14 x13) fun x15 =>
          j0 x14
        ) (
          opS P (S.alloc 50) fun x12 =>
          opS P (S.ld 3 x7) fun x13 =>
          opS P (S.build 50 [(0, (.int .i64 2)), (2, x10), (3, x13), (4, x11), (7, (.int .i64 20)), (8, (.int .i64 2)), (9, (.int .i64 15))]) fun x14 =>
          opS P (S.st 50 x12 x14) fun x15 =>
          j0 x12
        )
      ) (
        opS P (S.alloc 50) fun x11 =>
        opS P (S.ld 3 x7) fun x12 =>
        opS P (S.ld 31 x9) fun x13 =>
        opS P (S.build 50 [(0, (.int .i64 2)), (2, x10), (3, x12), (4, x13), (7, (.int .i64 20)), (8, (.int .i64 2)), (9, (.int .i64 15))]) fun x14 =>
        opS P (S.st 50 x11 x14) fun x15 =>
        j0 x11
      )
    )
  ) (
    allW (
      opS P (S.ld 3 x7) fun x10 =>
      allW (
        opS P (S.ld 31 x4) fun x11 =>
        allW (
          opS P (S.ld 31 x9) fun x12 =>
          opS P (S.build 50 [(0, (.int .i64 2)), (2, x11), (3, x10), (4, x12), (7, (.int .i64 20)), (8, (.int .i64 2)), (9, (.int .i64 15))]) fun x13 =>
          opS P (S.alloc 50) fun x14 =>
          opS P (S.st 50 x14 x13) fun x15 =>
          j0 x14
        ) (
          opS P (S.alloc 50) fun x12 =>
          opS P (S.ld 31 x9) fun x13 =>
          opS P (S.build 50 [(0, (.int .i64 2)), (2, x11), (3, x10), (4, x13), (7, (.int .i64 20)), (8, (.int .i64 2)), (9, (.int .i64 15))]) fun x14 =>
          opS P (S.st 50 x12 x14) fun x15 =>
          j0 x12
        )
      ) (
        allW (
          opS P (S.ld 31 x9) fun x11 =>
          allW (
            opS P (S.ld 31 x4) fun x12 =>
            opS P (S.build 50 [(0, (.int .i64 2)), (2, x12), (3, x10), (4, x11), (7, (.int .i64 20)), (8, (.int .i64 2)), (9, (.int .i64 15))]) fun x13 =>
            opS P (S.alloc 50) fun x14 =>
            opS P (S.st 50 x14 x13) fun x15 =>
            j0 x14
          ) (
            opS P (S.alloc 50) fun x12 =>
            opS P (S.ld 31 x4) fun x13 =>
            opS P (S.build 50 [(0, (.int .i64 2)), (2, x13), (3, x10), (4, x11), (7, (.int .i64 20)), (8, (.int .i64 2)), (9, (.int .i64 15))]) fun x14 =>
            opS P (S.st 50 x12 x14) fun x15 =>
            j0 x12
          )
        ) (
          opS P (S.alloc 50) fun x11 =>
          opS P (S.ld 31 x4) fun x12 =>
          opS P (S.ld 31 x9) fun x13 =>
          opS P (S.build 50 [(0, (.int .i64 2)), (2, x12), (3, x10), (4, x13), (7, (.int .i64 20)), (8, (.int .i64 2)), (9, (.int .i64 15))]) fun x14 =>
          opS P (S.st 50 x11 x14) fun x15 =>
          j0 x11
        )
      )
    ) (
      allW (
        opS P (S.ld 31 x9) fun x10 =>
        allW (
          opS P (S.ld 31 x4) fun x11 =>
          allW (
            opS P (S.ld 3 x7) fun x12 =>
            opS P (S.build 50 [(0, (.int .i64 2)), (2, x11), (3, x12), (4, x10), (7, (.int .i64 20)), (8, (.int .i64 2)), (9, (.int .i64 15))]) fun x13 =>
            opS P (S.alloc 50) fun x14 =>
            opS P (S.st 50 x14 x13) fun x15 =>
            j0 x14
          ) (
            opS P (S.alloc 50) fun x12 =>
            opS P (S.ld 3 x7) fun x13 =>
            opS P (S.build 50 [(0, (.int .i64 2)), (2, x11), (3, x13), (4, x10), (7, (.int .i64 20)), (8, (.int .i64 2)), (9, (.int .i64 15))]) fun x14 =>
            opS P (S.st 50 x12 x14) fun x15 =>
            j0 x12
          )
        ) (
          allW (
            opS P (S.ld 3 x7) fun x11 =>
            allW (
              opS P (S.ld 31 x4) fun x12 =>
              opS P (S.build 50 [(0, (.int .i64 2)), (2, x12), (3, x11), (4, x10), (7, (.int .i64 20)), (8, (.int .i64 2)), (9, (.int .i64 15))]) fun x13 =>
              opS P (S.alloc 50) fun x14 =>
              opS P (S.st 50 x14 x13) fun x15 =>
              j0 x14
            ) (
              opS P (S.alloc 50) fun x12 =>
              opS P (S.ld 31 x4) fun x13 =>
              opS P (S.build 50 [(0, (.int .i64 2)), (2, x13), (3, x11), (4, x10), (7, (.int .i64 20)), (8, (.int .i64 2)), (9, (.int .i64 15))]) fun x14 =>
              opS P (S.st 50 x12 x14) fun x15 =>
              j0 x12
            )
          ) (
            opS P (S.alloc 50) fun x11 =>
            opS P (S.ld 31 x4) fun x12 =>
            opS P (S.ld 3 x7) fun x13 =>
            opS P (S.build 50 [(0, (.int .i64 2)), (2, x12), (3, x13), (4, x10), (7, (.int .i64 20)), (8, (.int .i64 2)), (9, (.int .i64 15))]) fun x14 =>
            opS P (S.st 50 x11 x14) fun x15 =>
            j0 x11
          )
        )
      ) (
        opS P (S.alloc 50) fun x10 =>
        opS P (S.ld 31 x4) fun x11 =>
        opS P (S.ld 3 x7) fun x12 =>
        opS P (S.ld 31 x9) fun x13 =>
        opS P (S.build 50 [(0, (.int .i64 2)), (2, x11), (3, x12), (4, x13), (7, (.int .i64 20)), (8, (.int .i64 2)), (9, (.int .i64 15))]) fun x14 =>
        opS P (S.st 50 x10 x14) fun x15 =>
        j0 x10
      )
    )
  )
instance fnb27 : FnB Try.prog 27 := ⟨Try.call27⟩
theorem e27 : p27 Try.prog = fun K x0 => denF Try.prog Try.f27 [x0] K := by kernel_rfl
theorem c27 {K : Value → World → Prop} {x0 : Value} {w : World} (h : p27 Try.prog K x0 w) : CallsR Try.prog 27 #[x0] K w := by
  rw [e27] at h
  exact denF_sound mixed Try.func27 h

end Go.Gx.S
-- 27
end

section
/- What the functions of this program ask. -/
set_option linter.unusedVariables false
set_option maxRecDepth 100000
namespace Go.Gx.S
open Go Go.Gx Go.Proofs
-- (*gemel/span.Span).goes
def p26 (P : Program) (K : Value → World → Prop) (x0 : Value) (x1 : Value) (x2 : Value) : World → Prop :=
  opS P (S.nc x1) fun x3 =>
  opS P (S.fa 62 x3 4) fun x4 =>
  opS P (S.ld 3 x4) fun x5 =>
  opS P (S.binI .neq x5 (.int .i64 2)) fun x6 =>
  brn x6 (
    K (.tuple #[])
  ) (
    opS P (S.nc x1) fun x7 =>
    opS P (S.fa 62 x7 6) fun x8 =>
    opS P (S.ld 3 x8) fun x9 =>
    opS P (S.binI .lss x2 x9) fun x10 =>
    brn x10 (
      K (.tuple #[])
    ) (
      opS P (S.nc x1) fun x11 =>
      opS P (S.fa 62 x11 5) fun x12 =>
      opS P (S.ld 3 x12) fun x13 =>
      opS P (S.binI .eql x13 (.int .i64 0)) fun x14 =>
      brn x14 (
        opS P (S.binI .add x2 (.int .i64 15)) fun x15 =>
        opS P (S.nc x1) fun x16 =>
        opS P (S.fa 62 x16 5) fun x17 =>
        opS P (S.st 3 x17 (.int .i64 1)) fun x18 =>
        opS P (S.nc x1) fun x19 =>
        opS P (S.fa 62 x19 6) fun x20 =>
        opS P (S.st 3 x20 x15) fun x21 =>
        K (.tuple #[])
      ) (
        opS P (S.nc x1) fun x15 =>
        opS P (S.fa 62 x15 5) fun x16 =>
        opS P (S.ld 3 x16) fun x17 =>
        opS P (S.binI .eql x17 (.int .i64 1)) fun x18 =>
        brn x18 (
          opS P (S.cl 35 [x0, x1, x2]) fun x19 =>
          K (.tuple #[])
        ) (
          K (.tuple #[])
        )
      )
    )
  )
instance fnb26 : FnB Try.prog 26 := ⟨Try.call26⟩
theorem e26 : p26 Try.prog = fun K x0 x1 x2 => denF Try.prog Try.f26 [x0, x1, x2] K := by kernel_rfl
theorem c26 {K : Value → World → Prop} {x0 x1 x2 : Value} {w : World} (h : p26 Try.prog K x0 x1 x2 w) : CallsR Try.prog 26 #[x0, x1, x2] K w := by
  rw [e26] at h
  exact denF_sound mixed Try.func26 h

-- (*gemel/span.Span).flags
def p28 (P : Program) (K : Value → World → Prop) (x0 : Value) (x1 : Value) (x2 : Value) (x3 : Value) : World → Prop :=
  opS P (S.alloc 3) fun x4 =>
  opS P (S.st 3 x4 (.int .i64 0)) fun x5 =>
  opS P (S.mkf (.func 43) [] [x4]) fun x6 =>
  opS P (S.nc x1) fun x7 =>
  opS P (S.fa 62 x7 4) fun x8 =>
  opS P (S.ld 3 x8) fun x9 =>
  opS P (S.binI .eql x9 (.int .i64 1)) fun x10 =>
  jnJ 0 (
    opS P (S.ld 3 x4) fun x11 =>
    opS P (S.binI .eql x11 (.int .i64 0)) fun x12 =>
    brn x12 (
      K (.int .i64 0)
    ) (
      opS P (S.nc x1) fun x13 =>
      opS P (S.fa 62 x13 0) fun x14 =>
      opS P (S.fa 60 x14 2) fun x15 =>
      opS P (S.ld 4 x15) fun x16 =>
      opS P (S.un .not x16) fun x17 =>
      brn x17 (
        K (.int .i64 0)
      ) (
        opS P (S.nc x1) fun x18 =>
        opS P (S.fa 62 x18 5) fun x19 =>
        opS P (S.ld 3 x19) fun x20 =>
        opS P (S.binI .neq x20 (.int .i64 0)) fun x21 =>
        opS P (S.call x6 [x21, (.int .i64 16)]) fun x22 =>
        opS P (S.nc x1) fun x23 =>
        opS P (S.fa 62 x23 5) fun x24 =>
        opS P (S.ld 3 x24) fun x25 =>
        opS P (S.binI .eql x25 (.int .i64 2)) fun x26 =>
        opS P (S.call x6 [x26, (.int .i64 32)]) fun x27 =>
        opS P (S.nc x0) fun x28 =>
        opS P (S.fa 67 x28 3) fun x29 =>
        opS P (S.ld 3 x29) fun x30 =>
        opS P (S.binI .lss x3 x30) fun x31 =>
        opS P (S.call x6 [x31, (.int .i64 1)]) fun x32 =>
        opS P (S.ld 3 x4) fun x33 =>
        K x33
      )
    )
  ) fun j0 =>
  opS P (S.nc x1) fun x11 =>
  opS P (S.fa 62 x11 4) fun x12 =>
  opS P (S.ld 3 x12) fun x13 =>
  opS P (S.binI .eql x13 (.int .i64 2)) fun x14 =>
  brn x14 (
    opS P (S.call x6 [x2, (.int .i64 12)]) fun x15 =>
    jnJ 0 (
      j0
    ) fun j1 =>
    brn x2 (
      opS P (S.nc x1) fun x16 =>
      opS P (S.fa 62 x16 5) fun x17 =>
      opS P (S.ld 3 x17) fun x18 =>
      opS P (S.binI .neq x18 (.int .i64 2)) fun x19 =>
      opS P (S.call x6 [x19, (.int .i64 2)]) fun x20 =>
      j1
    ) (
      opS P (S.call x6 [(.bool false), (.int .i64 2)]) fun x16 =>
      j1
    )
  ) (
    jnJ 1 (fun x15 =>
      jnJ 0 (
        jnJ 0 (
          opS P (S.nc x1) fun x16 =>
          opS P (S.fa 62 x16 8) fun x17 =>
          opS P (S.ld 4 x17) fun x18 =>
          opS P (S.call x6 [x18, (.int .i64 64)]) fun x19 =>
          j0
        ) fun j1 =>
        brn x15 (
          opS P (S.un .not x10) fun x16 =>
          opS P (S.call x6 [x16, (.int .i64 4)]) fun x17 =>
          j1
        ) (
          opS P (S.call x6 [(.bool false), (.int .i64 4)]) fun x16 =>
          j1
        )
      ) fun j1 =>
      brn x15 (
        opS P (S.call x6 [x10, (.int .i64 8)]) fun x16 =>
        j1
      ) (
        opS P (S.call x6 [(.bool false), (.int .i64 8)]) fun x16 =>
        j1
      )
    ) fun j1 =>
    opS P (S.nc x1) fun x15 =>
    opS P (S.fa 62 x15 8) fun x16 =>
    opS P (S.ld 4 x16) fun x17 =>
    brn x17 (
      j1 (.bool true)
    ) (
      brn x10 (
        brn x2 (
          opS P (S.nc x0) fun x18 =>
          opS P (S.fa 67 x18 3) fun x19 =>
          opS P (S.ld 3 x19) fun x20 =>
          opS P (S.binI .lss x3 x20) fun x21 =>
          j1 x21
        ) (
          j1 (.bool false)
        )
      ) (
        j1 (.bool false)
      )
    )
  )
instance fnb28 : FnB Try.prog 28 := ⟨Try.call28⟩
theorem e28 : p28 Try.prog = fun K x0 x1 x2 x3 => denF Try.prog Try.f28 [x0, x1, x2, x3] K := by kernel_rfl
theorem c28 {K : Value → World → Prop} {x0 x1 x2 x3 : Value} {w : World} (h : p28 Try.prog K x0 x1 x2 x3 w) : CallsR Try.prog 28 #[x0, x1, x2, x3] K w := by
  rw [e28] at h
  exact denF_sound mixed Try.func28 h

-- (*gemel/span.Span).flags$1
def p43 (P : Program) (K : Value → World → Prop) (x0 : Value) (x1 : Value) (x2 : Value) : World → Prop :=
  brn x0 (
    opS P (S.ld 3 x2) fun x3 =>
    opS P (S.binI .or x3 x1) fun x4 =>
    opS P (S.st 3 x2 x4) fun x5 =>
    K (.tuple #[])
  ) (
    K (.tuple #[])
  )
instance fnb43 : FnB Try.prog 43 := ⟨Try.call43⟩
theorem e43 : p43 Try.prog = fun K x0 x1 x2 => denF Try.prog Try.f43 [x0, x1, x2] K := by kernel_rfl
theorem c43 {K : Value → World → Prop} {x0 x1 x2 : Value} {w : World} (h : p43 Try.prog K x0 x1 x2 w) : CallsR Try.prog 43 #[x0, x1, x2] K w := by
  rw [e43] at h
  exact denF_sound mixed Try.func43 h

end Go.Gx.S
-- 26 28 43
end

section
/- What the functions of this program ask. -/
set_option linter.unusedVariables false
set_option maxRecDepth 100000
namespace Go.Gx.S
open Go Go.Gx Go.Proofs
-- (*gemel/span.Span).Take
def p16 (P : Program) (K : Value → World → Prop) (x0 : Value) (x1 : Value) (x2 : Value) (x3 : Value) : World → Prop :=
  opS P (S.box 50 x2) fun x4 =>
  opS P (S.cl 23 [x0, x1]) fun x5 =>
  opS P (S.binN .eql (S.isNilP x5)) fun x6 =>
  brn x6 (
    K (.int .i64 1)
  ) (
    opS P (S.cl 24 [x3]) fun x7 =>
    opS P (S.un .not x7) fun x8 =>
    brn x8 (
      K (.int .i64 1)
    ) (
      opS P (S.ld 50 x4) fun x9 =>
      opS P (S.cl 30 [x9]) fun x10 =>
      opS P (S.un .not x10) fun x11 =>
      brn x11 (
        K (.int .i64 1)
      ) (
        opS P (S.nc x5) fun x12 =>
        opS P (S.fa 62 x12 0) fun x13 =>
        opS P (S.fa 60 x13 2) fun x14 =>
        opS P (S.ld 4 x14) fun x15 =>
        opS P (S.un .not x15) fun x16 =>
        brn x16 (
          K (.int .i64 7)
        ) (
          opS P (S.fa 50 x4 0) fun x17 =>
          opS P (S.ld 3 x17) fun x18 =>
          opS P (S.binI .eql x18 (.int .i64 128)) fun x19 =>
          brn x19 (
            opS P (S.cl 31 [x0, x5, x3]) fun x20 =>
            K (.int .i64 0)
          ) (
            opS P (S.nc x5) fun x20 =>
            opS P (S.fa 62 x20 3) fun x21 =>
            opS P (S.st 4 x21 (.bool false)) fun x22 =>
            opS P (S.fa 50 x4 1) fun x23 =>
            opS P (S.ld 3 x23) fun x24 =>
            opS P (S.alloc 3) fun x25 =>
            opS P (S.st 3 x25 x24) fun x26 =>
            jnJ 0 (
              opS P (S.ld 3 x25) fun x27 =>
              opS P (S.binI .and x27 (.int .i64 12)) fun x28 =>
              opS P (S.binI .eql x28 (.int .i64 12)) fun x29 =>
              opS P (S.mkf (.func 32) [] [x25]) fun x30 =>
              jnJ 0 (
                jnJ 0 (
                  opS P (S.call x30 [(.int .i64 1)]) fun x31 =>
                  brn x31 (
                    opS P (S.cl 31 [x0, x5, x3]) fun x32 =>
                    K (.int .i64 0)
                  ) (
                    K (.int .i64 0)
                  )
                ) fun j0 =>
                jnJ 0 (
                  j0
                ) fun j1 =>
                drw <|
                opS P (S.un .not x29) fun x31 =>
                brn x31 (
                  opS P (S.call x30 [(.int .i64 64)]) fun x32 =>
                  brn x32 (
                    opS P (S.nc x5) fun x33 =>
                    opS P (S.fa 62 x33 4) fun x34 =>
                    opS P (S.ld 3 x34) fun x35 =>
                    opS P (S.binI .eql x35 (.int .i64 2)) fun x36 =>
                    brn x36 (
                      opS P (S.fa 50 x4 2) fun x37 =>
                      opS P (S.ld 31 x37) fun x38 =>
                      opS P (S.nc x0) fun x39 =>
                      opS P (S.fa 67 x39 2) fun x40 =>
                      opS P (S.fa 36 x40 0) fun x41 =>
                      opS P (S.ld 31 x41) fun x42 =>
                      opS P (S.binG .eql 31 x38 x42) fun x43 =>
                      brn x43 (
                        opS P (S.nc x5) fun x44 =>
                        opS P (S.fa 62 x44 7) fun x45 =>
                        opS P (S.st 4 x45 (.bool true)) fun x46 =>
                        opS P (S.cl 35 [x0, x5, x3]) fun x47 =>
                        j0
                      ) (
                        j1
                      )
                    ) (
                      j1
                    )
                  ) (
                    j1
                  )
                ) (
                  j1
                )
              ) fun j0 =>
              jnJ 0 (
                j0
              ) fun j1 =>
              brn x29 (
                opS P (S.fa 50 x4 6) fun x31 =>
                opS P (S.ld 3 x31) fun x32 =>
                opS P (S.binI .lss x32 (.int .i64 20)) fun x33 =>
                brn x33 (
                  opS P (S.ld 50 x4) fun x34 =>
                  opS P (S.cl 33 [x5, x34, x3]) fun x35 =>
                  opS P (S.cl 25 [x0, x3]) fun x36 =>
                  jnJ 0 (
                    j0
                  ) fun j2 =>
                  opS P (S.call x30 [(.int .i64 2)]) fun x37 =>
                  brn x37 (
                    opS P (S.cl 34 [x0, x5, x3]) fun x38 =>
                    j2
                  ) (
                    j2
                  )
                ) (
                  j1
                )
              ) (
                j1
              )
            ) fun j0 =>
            opS P (S.fa 50 x4 0) fun x27 =>
            opS P (S.ld 3 x27) fun x28 =>
            opS P (S.binI .eql x28 (.int .i64 0)) fun x29 =>
            brn x29 (
              opS P (S.st 3 x25 (.int .i64 12)) fun x30 =>
              j0
            ) (
              j0
            )
          )
        )
      )
    )
  )
instance fnb16 : FnB Try.prog 16 := ⟨Try.call16⟩
theorem e16 : p16 Try.prog = fun K x0 x1 x2 x3 => denF Try.prog Try.f16 [x0, x1, x2, x3] K := by kernel_rfl
theorem c16 {K : Value → World → Prop} {x0 x1 x2 x3 : Value} {w : World} (h : p16 Try.prog K x0 x1 x2 x3 w) : CallsR Try.prog 16 #[x0, x1, x2, x3] K w := by
  rw [e16] at h
  exact denF_sound mixed Try.func16 h

-- (*gemel/span.Span).Take$1
def p32 (P : Program) (K : Value → World → Prop) (x0 : Value) (x1 : Value) : World → Prop :=
  opS P (S.ld 3 x1) fun x2 =>
  opS P (S.binI .and x2 x0) fun x3 =>
  opS P (S.binI .neq x3 (.int .i64 0)) fun x4 =>
  K x4
instance fnb32 : FnB Try.prog 32 := ⟨Try.call32⟩
theorem e32 : p32 Try.prog = fun K x0 x1 => denF Try.prog Try.f32 [x0, x1] K := by kernel_rfl
theorem c32 {K : Value → World → Prop} {x0 x1 : Value} {w : World} (h : p32 Try.prog K x0 x1 w) : CallsR Try.prog 32 #[x0, x1] K w := by
  rw [e32] at h
  exact denF_sound mixed Try.func32 h

end Go.Gx.S
-- 16 32
end

section
/- What the functions of this program ask. -/
set_option linter.unusedVariables false
set_option maxRecDepth 100000
namespace Go.Gx.S
open Go Go.Gx Go.Proofs
-- (*gemel/span.Span).Up
def p13 (P : Program) (K : Value → World → Prop) (x0 : Value) (x1 : Value) (x2 : Value) (x3 : Value) (x4 : Value) : World → Prop :=
  opS P (S.cl 23 [x0, x1]) fun x5 =>
  opS P (S.binN .eql (S.isNilP x5)) fun x6 =>
  brn x6 (
    K (.int .i64 1)
  ) (
    opS P (S.cl 24 [x4]) fun x7 =>
    opS P (S.un .not x7) fun x8 =>
    brn x8 (
      K (.int .i64 1)
    ) (
      brn x2 (
        opS P (S.nc x5) fun x9 =>
        opS P (S.fa 62 x9 0) fun x10 =>
        opS P (S.fa 60 x10 2) fun x11 =>
        opS P (S.st 4 x11 x2) fun x12 =>
        opS P (S.nc x5) fun x13 =>
        opS P (S.fa 62 x13 0) fun x14 =>
        opS P (S.fa 60 x14 3) fun x15 =>
        opS P (S.st 4 x15 (.bool false)) fun x16 =>
        opS P (S.nc x5) fun x17 =>
        opS P (S.fa 62 x17 3) fun x18 =>
        opS P (S.st 4 x18 x3) fun x19 =>
        opS P (S.cl 25 [x0, x4]) fun x20 =>
        K (.int .i64 0)
      ) (
        opS P (S.nc x5) fun x9 =>
        opS P (S.fa 62 x9 0) fun x10 =>
        opS P (S.fa 60 x10 2) fun x11 =>
        opS P (S.st 4 x11 x2) fun x12 =>
        opS P (S.nc x5) fun x13 =>
        opS P (S.fa 62 x13 0) fun x14 =>
        opS P (S.fa 60 x14 3) fun x15 =>
        opS P (S.st 4 x15 (.bool false)) fun x16 =>
        opS P (S.nc x5) fun x17 =>
        opS P (S.fa 62 x17 3) fun x18 =>
        opS P (S.st 4 x18 (.bool false)) fun x19 =>
        opS P (S.cl 25 [x0, x4]) fun x20 =>
        K (.int .i64 0)
      )
    )
  )
instance fnb13 : FnB Try.prog 13 := ⟨Try.call13⟩
theorem e13 : p13 Try.prog = fun K x0 x1 x2 x3 x4 => denF Try.prog Try.f13 [x0, x1, x2, x3, x4] K := by kernel_rfl
theorem c13 {K : Value → World → Prop} {x0 x1 x2 x3 x4 : Value} {w : World} (h : p13 Try.prog K x0 x1 x2 x3 x4 w) : CallsR Try.prog 13 #[x0, x1, x2, x3, x4] K w := by
  rw [e13] at h
  exact denF_sound mixed Try.func13 h

-- (*gemel/span.Span).at
def p23 (P : Program) (K : Value → World → Prop) (x0 : Value) (x1 : Value) : World → Prop :=
  opS P (S.binI .lss x1 (.int .i64 1)) fun x2 =>
  brn x2 (
    K (.pointer none)
  ) (
    opS P (S.nc x0) fun x3 =>
    opS P (S.fa 67 x3 1) fun x4 =>
    opS P (S.ld 64 x4) fun x5 =>
    opS P (S.len x5) fun x6 =>
    opS P (S.binI .gtr x1 x6) fun x7 =>
    brn x7 (
      K (.pointer none)
    ) (
      opS P (S.nc x0) fun x8 =>
      opS P (S.fa 67 x8 1) fun x9 =>
      opS P (S.ld 64 x9) fun x10 =>
      opS P (S.binI .sub x1 (.int .i64 1)) fun x11 =>
      opS P (S.ia 64 x10 x11) fun x12 =>
      opS P (S.ld 58 x12) fun x13 =>
      K x13
    )
  )
instance fnb23 : FnB Try.prog 23 := ⟨Try.call23⟩
theorem e23 : p23 Try.prog = fun K x0 x1 => denF Try.prog Try.f23 [x0, x1] K := by kernel_rfl
theorem c23 {K : Value → World → Prop} {x0 x1 : Value} {w : World} (h : p23 Try.prog K x0 x1 w) : CallsR Try.prog 23 #[x0, x1] K w := by
  rw [e23] at h
  exact denF_sound mixed Try.func23 h

-- gemel/span.moment
def p24 (P : Program) (K : Value → World → Prop) (x0 : Value) : World → Prop :=
  opS P (S.binI .geq x0 (.int .i64 0)) fun x1 =>
  brn x1 (
    opS P (S.binI .leq x0 (.int .i64 1099511627776)) fun x2 =>
    K x2
  ) (
    K (.bool false)
  )
instance fnb24 : FnB Try.prog 24 := ⟨Try.call24⟩
theorem e24 : p24 Try.prog = fun K x0 => denF Try.prog Try.f24 [x0] K := by kernel_rfl
theorem c24 {K : Value → World → Prop} {x0 : Value} {w : World} (h : p24 Try.prog K x0 w) : CallsR Try.prog 24 #[x0] K w := by
  rw [e24] at h
  exact denF_sound mixed Try.func24 h

-- (*gemel/span.port).hears
def p33 (P : Program) (K : Value → World → Prop) (x0 : Value) (x1 : Value) (x2 : Value) : World → Prop :=
  opS P (S.box 50 x1) fun x3 =>
  opS P (S.ld 50 x3) fun x4 =>
  opS P (S.cl 47 [x4, (.int .i64 1)]) fun x5 =>
  opS P (S.ext x5 0) fun x6 =>
  opS P (S.ext x5 1) fun x7 =>
  opS P (S.alloc 36) fun x8 =>
  opS P (S.st 36 x8 x6) fun x9 =>
  opS P (S.fa 36 x8 4) fun x10 =>
  opS P (S.st 3 x10 (.int .i64 0)) fun x11 =>
  opS P (S.nc x0) fun x12 =>
  opS P (S.fa 62 x12 0) fun x13 =>
  opS P (S.fa 60 x13 4) fun x14 =>
  opS P (S.ld 36 x14) fun x15 =>
  opS P (S.alloc 36) fun x16 =>
  opS P (S.st 36 x16 x15) fun x17 =>
  jnJ 1 (fun x18 =>
    jnJ 0 (
      drw <|
      opS P (S.ld 36 x8) fun x19 =>
      opS P (S.fa 50 x3 6) fun x20 =>
      opS P (S.binI .add x2 (.int .i64 6)) fun x21 =>
      opS P (S.nc x0) fun x22 =>
      opS P (S.fa 62 x22 0) fun x23 =>
      opS P (S.fa 60 x23 4) fun x24 =>
      allW (
        opS P (S.ld 3 x20) fun x25 =>
        opS P (S.st 36 x24 x19) fun x26 =>
        opS P (S.nc x0) fun x27 =>
        opS P (S.fa 62 x27 0) fun x28 =>
        opS P (S.fa 60 x28 3) fun x29 =>
        opS P (S.st 4 x29 (.bool true)) fun x30 =>
        opS P (S.nc x0) fun x31 =>
        opS P (S.fa 62 x31 1) fun x32 =>
        opS P (S.st 3 x32 x25) fun x33 =>
        opS P (S.nc x0) fun x34 =>
        opS P (S.fa 62 x34 2) fun x35 =>
        opS P (S.st 3 x35 x21) fun x36 =>
        K (.tuple #[])
      ) (
        opS P (S.st 36 x24 x19) fun x25 =>
        opS P (S.nc x0) fun x26 =>
        opS P (S.fa 62 x26 0) fun x27 =>
        opS P (S.fa 60 x27 3) fun x28 =>
        allW (
          opS P (S.ld 3 x20) fun x29 =>
          opS P (S.st 4 x28 (.bool true)) fun x30 =>
          opS P (S.nc x0) fun x31 =>
          opS P (S.fa 62 x31 1) fun x32 =>
          opS P (S.st 3 x32 x29) fun x33 =>
          opS P (S.nc x0) fun x34 =>
          opS P (S.fa 62 x34 2) fun x35 =>
          opS P (S.st 3 x35 x21) fun x36 =>
          K (.tuple #[])
        ) (
          opS P (S.st 4 x28 (.bool true)) fun x29 =>
          opS P (S.ld 3 x20) fun x30 =>
          opS P (S.nc x0) fun x31 =>
          opS P (S.fa 62 x31 1) fun x32 =>
          opS P (S.st 3 x32 x30) fun x33 =>
          opS P (S.nc x0) fun x34 =>
          opS P (S.fa 62 x34 2) fun x35 =>
          opS P (S.st 3 x35 x21) fun x36 =>
          K (.tuple #[])
        )
      )
    ) fun j0 =>
    opS P (S.nc x0) fun x19 =>
    opS P (S.fa 62 x19 0) fun x20 =>
    opS P (S.fa 60 x20 3) fun x21 =>
    opS P (S.ld 4 x21) fun x22 =>
    opS P (S.un .not x22) fun x23 =>
    brn x23 (
      j0
    ) (
      brn x18 (
        j0
      ) (
        opS P (S.ld 36 x8) fun x24 =>
        opS P (S.ld 36 x16) fun x25 =>
        opS P (S.cl 40 [x24, x25]) fun x26 =>
        opS P (S.binI .leq x26 (.int .i64 0)) fun x27 =>
        brn x27 (
          j0
        ) (
          K (.tuple #[])
        )
      )
    )
  ) fun j0 =>
  opS P (S.fa 36 x8 2) fun x18 =>
  opS P (S.ld 31 x18) fun x19 =>
  opS P (S.fa 36 x16 2) fun x20 =>
  opS P (S.ld 31 x20) fun x21 =>
  opS P (S.binG .eql 31 x19 x21) fun x22 =>
  brn x22 (
    opS P (S.fa 36 x8 3) fun x23 =>
    opS P (S.ld 3 x23) fun x24 =>
    opS P (S.fa 36 x16 3) fun x25 =>
    opS P (S.ld 3 x25) fun x26 =>
    opS P (S.binI .eql x24 x26) fun x27 =>
    j0 x27
  ) (
    j0 (.bool false)
  )
instance fnb33 : FnB Try.prog 33 := ⟨Try.call33⟩
theorem e33 : p33 Try.prog = fun K x0 x1 x2 => denF Try.prog Try.f33 [x0, x1, x2] K := by kernel_rfl
theorem c33 {K : Value → World → Prop} {x0 x1 x2 : Value} {w : World} (h : p33 Try.prog K x0 x1 x2 w) : CallsR Try.prog 33 #[x0, x1, x2] K w := by
  rw [e33] at h
  exact denF_sound mixed Try.func33 h

-- (*gemel/span.Span).proposed
def p34 (P : Program) (K : Value → World → Prop) (x0 : Value) (x1 : Value) (x2 : Value) : World → Prop :=
  opS P (S.nc x0) fun x3 =>
  opS P (S.fa 67 x3 1) fun x4 =>
  opS P (S.ld 64 x4) fun x5 =>
  opS P (S.len x5) fun x6 =>
  jnJ 0 (
    opS P (S.nc x1) fun x7 =>
    opS P (S.fa 62 x7 4) fun x8 =>
    opS P (S.ld 3 x8) fun x9 =>
    opS P (S.binI .neq x9 (.int .i64 2)) fun x10 =>
    brn x10 (
      opS P (S.nc x1) fun x11 =>
      opS P (S.fa 62 x11 4) fun x12 =>
      opS P (S.ld 3 x12) fun x13 =>
      opS P (S.binI .neq x13 (.int .i64 0)) fun x14 =>
      opS P (S.nc x1) fun x15 =>
      opS P (S.fa 62 x15 8) fun x16 =>
      opS P (S.st 4 x16 x14) fun x17 =>
      K (.tuple #[])
    ) (
      opS P (S.nc x1) fun x11 =>
      opS P (S.fa 62 x11 8) fun x12 =>
      opS P (S.st 4 x12 (.bool false)) fun x13 =>
      K (.tuple #[])
    )
  ) fun j0 =>
  loopJ 1 (fun j1 x7 =>
    opS P (S.binI .lss x7 x6) fun x8 =>
    brn x8 (
      opS P (S.ia 64 x5 x7) fun x9 =>
      opS P (S.ld 58 x9) fun x10 =>
      opS P (S.nc x1) fun x11 =>
      opS P (S.fa 62 x11 4) fun x12 =>
      opS P (S.ld 3 x12) fun x13 =>
      opS P (S.binI .eql x13 (.int .i64 1)) fun x14 =>
      brn x14 (
        opS P (S.binG .neq 58 x10 x1) fun x15 =>
        brn x15 (
          opS P (S.nc x10) fun x16 =>
          opS P (S.fa 62 x16 4) fun x17 =>
          opS P (S.ld 3 x17) fun x18 =>
          opS P (S.binI .eql x18 (.int .i64 2)) fun x19 =>
          brn x19 (
            opS P (S.nc x10) fun x20 =>
            opS P (S.fa 62 x20 3) fun x21 =>
            opS P (S.ld 4 x21) fun x22 =>
            opS P (S.un .not x22) fun x23 =>
            brn x23 (
              opS P (S.nc x10) fun x24 =>
              opS P (S.fa 62 x24 7) fun x25 =>
              opS P (S.ld 4 x25) fun x26 =>
              opS P (S.un .not x26) fun x27 =>
              brn x27 (
                opS P (S.cl 42 [x10, x2]) fun x28 =>
                opS P (S.binI .add x7 (.int .i64 1)) fun x29 =>
                j1 x29
              ) (
                opS P (S.binI .add x7 (.int .i64 1)) fun x28 =>
                j1 x28
              )
            ) (
              opS P (S.binI .add x7 (.int .i64 1)) fun x24 =>
              j1 x24
            )
          ) (
            opS P (S.binI .add x7 (.int .i64 1)) fun x20 =>
            j1 x20
          )
        ) (
          opS P (S.binI .add x7 (.int .i64 1)) fun x16 =>
          j1 x16
        )
      ) (
        opS P (S.binI .add x7 (.int .i64 1)) fun x15 =>
        j1 x15
      )
    ) (
      j0
    )
  ) (.int .i64 0)
instance fnb34 : FnB Try.prog 34 := ⟨Try.call34⟩
theorem e34 : p34 Try.prog = fun K x0 x1 x2 => denF Try.prog Try.f34 [x0, x1, x2] K := by kernel_rfl
theorem c34 {K : Value → World → Prop} {x0 x1 x2 : Value} {w : World} (h : p34 Try.prog K x0 x1 x2 w) : CallsR Try.prog 34 #[x0, x1, x2] K w := by
  rw [e34] at h
  exact denF_sound mixed Try.func34 h

end Go.Gx.S
-- 23 24 13 33 34
end

section
/- What the functions of this program ask. -/
set_option linter.unusedVariables false
set_option maxRecDepth 100000
namespace Go.Gx.S
open Go Go.Gx Go.Proofs
-- (*gemel/span.Span).heards
def p22 (P : Program) (K : Value → World → Prop) (x0 : Value) : World → Prop :=
  opS P (S.nc x0) fun x1 =>
  opS P (S.fa 67 x1 1) fun x2 =>
  opS P (S.ld 64 x2) fun x3 =>
  opS P (S.len x3) fun x4 =>
  jnJ 1 (fun x5 =>
    K x5
  ) fun j0 =>
  loopJ 2 (fun j1 x5 x6 =>
    opS P (S.binI .lss x6 x4) fun x7 =>
    brn x7 (
      opS P (S.ia 64 x3 x6) fun x8 =>
      opS P (S.ld 58 x8) fun x9 =>
      opS P (S.nc x9) fun x10 =>
      opS P (S.fa 62 x10 0) fun x11 =>
      opS P (S.ld 60 x11) fun x12 =>
      opS P (S.buildS 70 1 [(0, x12)]) fun x13 =>
      opS P (S.bi .append #[70, 70] 70 [x5, x13]) fun x14 =>
      opS P (S.binI .add x6 (.int .i64 1)) fun x15 =>
      j1 x14 x15
    ) (
      j0 x5
    )
  ) (.slice none 0 0) (.int .i64 0)
instance fnb22 : FnB Try.prog 22 := ⟨Try.call22⟩
theorem e22 : p22 Try.prog = fun K x0 => denF Try.prog Try.f22 [x0] K := by kernel_rfl
theorem c22 {K : Value → World → Prop} {x0 : Value} {w : World} (h : p22 Try.prog K x0 w) : CallsR Try.prog 22 #[x0] K w := by
  rw [e22] at h
  exact denF_sound mixed Try.func22 h

-- (*gemel/span.Span).reckon
def p25 (P : Program) (K : Value → World → Prop) (x0 : Value) (x1 : Value) : World → Prop :=
  jnJ 2 (fun x2 x3 =>
    opS P (S.ld 36 x2) fun x4 =>
    opS P (S.nc x0) fun x5 =>
    opS P (S.fa 67 x5 2) fun x6 =>
    opS P (S.st 36 x6 x4) fun x7 =>
    opS P (S.nc x0) fun x8 =>
    opS P (S.fa 67 x8 1) fun x9 =>
    opS P (S.ld 64 x9) fun x10 =>
    opS P (S.len x10) fun x11 =>
    jnJ 0 (
      K (.tuple #[])
    ) fun j0 =>
    loopJ 1 (fun j1 x12 =>
      opS P (S.binI .lss x12 x11) fun x13 =>
      brn x13 (
        opS P (S.ia 64 x10 x12) fun x14 =>
        opS P (S.ld 58 x14) fun x15 =>
        opS P (S.nc x15) fun x16 =>
        opS P (S.fa 62 x16 4) fun x17 =>
        opS P (S.ld 3 x17) fun x18 =>
        opS P (S.ia 23 x3 x12) fun x19 =>
        opS P (S.ld 3 x19) fun x20 =>
        opS P (S.nc x15) fun x21 =>
        opS P (S.fa 62 x21 4) fun x22 =>
        opS P (S.st 3 x22 x20) fun x23 =>
        jnJ 0 (
          jnJ 1 (fun x24 =>
            jnJ 1 (fun x25 =>
              brn x25 (
                opS P (S.cl 35 [x0, x15, x1]) fun x26 =>
                opS P (S.binI .add x12 (.int .i64 1)) fun x27 =>
                j1 x27
              ) (
                brn x24 (
                  opS P (S.cl 42 [x15, x1]) fun x26 =>
                  opS P (S.binI .add x12 (.int .i64 1)) fun x27 =>
                  j1 x27
                ) (
                  opS P (S.nc x15) fun x26 =>
                  opS P (S.fa 62 x26 4) fun x27 =>
                  opS P (S.ld 3 x27) fun x28 =>
                  opS P (S.binI .neq x28 (.int .i64 2)) fun x29 =>
                  brn x29 (
                    opS P (S.nc x15) fun x30 =>
                    opS P (S.fa 62 x30 5) fun x31 =>
                    opS P (S.st 3 x31 (.int .i64 0)) fun x32 =>
                    opS P (S.binI .add x12 (.int .i64 1)) fun x33 =>
                    j1 x33
                  ) (
                    opS P (S.binI .add x12 (.int .i64 1)) fun x30 =>
                    j1 x30
                  )
                )
              )
            ) fun j2 =>
            opS P (S.nc x15) fun x25 =>
            opS P (S.fa 62 x25 4) fun x26 =>
            opS P (S.ld 3 x26) fun x27 =>
            opS P (S.binI .eql x27 (.int .i64 1)) fun x28 =>
            brn x28 (
              j2 x28
            ) (
              jnJ 1 (fun x29 =>
                j2 x29
              ) fun j3 =>
              brn x24 (
                opS P (S.nc x15) fun x29 =>
                opS P (S.fa 62 x29 3) fun x30 =>
                opS P (S.ld 4 x30) fun x31 =>
                j3 x31
              ) (
                j3 (.bool false)
              )
            )
          ) fun j2 =>
          opS P (S.nc x15) fun x24 =>
          opS P (S.fa 62 x24 4) fun x25 =>
          opS P (S.ld 3 x25) fun x26 =>
          opS P (S.binI .eql x26 (.int .i64 2)) fun x27 =>
          brn x27 (
            opS P (S.binI .neq x18 (.int .i64 2)) fun x28 =>
            j2 x28
          ) (
            j2 (.bool false)
          )
        ) fun j2 =>
        opS P (S.nc x15) fun x24 =>
        opS P (S.fa 62 x24 4) fun x25 =>
        opS P (S.ld 3 x25) fun x26 =>
        opS P (S.binI .neq x18 x26) fun x27 =>
        brn x27 (
          opS P (S.nc x15) fun x28 =>
          opS P (S.fa 62 x28 7) fun x29 =>
          opS P (S.st 4 x29 (.bool false)) fun x30 =>
          opS P (S.nc x15) fun x31 =>
          opS P (S.fa 62 x31 8) fun x32 =>
          opS P (S.st 4 x32 (.bool false)) fun x33 =>
          j2
        ) (
          j2
        )
      ) (
        j0
      )
    ) (.int .i64 0)
  ) fun j0 =>
  drw <|
  opS P (S.nc x0) fun x2 =>
  opS P (S.fa 67 x2 0) fun x3 =>
  allW (
    opS P (S.ld 31 x3) fun x4 =>
    allW (
      opS P (S.cl 22 [x0]) fun x5 =>
      allW (
        opS P (S.cl 21 [x4, x5]) fun x6 =>
        opS P (S.ext x6 0) fun x7 =>
        opS P (S.ext x6 1) fun x8 =>
        opS P (S.ext x6 2) fun x9 =>
        opS P (S.alloc 36) fun x10 =>
        opS P (S.st 36 x10 x7) fun x11 =>
        j0 x10 x8
      ) (
        opS P (S.alloc 36) fun x6 =>
        opS P (S.cl 21 [x4, x5]) fun x7 =>
        opS P (S.ext x7 0) fun x8 =>
        opS P (S.ext x7 1) fun x9 =>
        opS P (S.ext x7 2) fun x10 =>
        opS P (S.st 36 x6 x8) fun x11 =>
        j0 x6 x9
      )
    ) (
      opS P (S.alloc 36) fun x5 =>
      opS P (S.cl 22 [x0]) fun x6 =>
      opS P (S.cl 21 [x4, x6]) fun x7 =>
      opS P (S.ext x7 0) fun x8 =>
      opS P (S.ext x7 1) fun x9 =>
      opS P (S.ext x7 2) fun x10 =>
      opS P (S.st 36 x5 x8) fun x11 =>
      j0 x5 x9
    )
  ) (
    allW (
      opS P (S.cl 22 [x0]) fun x4 =>
      allW (
        opS P (S.ld 31 x3) fun x5 =>
        allW (
          opS P (S.cl 21 [x5, x4]) fun x6 =>
          opS P (S.ext x6 0) fun x7 =>
          opS P (S.ext x6 1) fun x8 =>
          opS P (S.ext x6 2) fun x9 =>
          opS P (S.alloc 36) fun x10 =>
          opS P (S.st 36 x10 x7) fun x11 =>
          j0 x10 x8
        ) (
          opS P (S.alloc 36) fun x6 =>
          opS P (S.cl 21 [x5, x4]) fun x7 =>
          opS P (S.ext x7 0) fun x8 =>
          opS P (S.ext x7 1) fun x9 =>
          opS P (S.ext x7 2) fun x10 =>
          opS P (S.st 36 x6 x8) fun x11 =>
          j0 x6 x9
        )
      ) (
        opS P (S.alloc 36) fun x5 =>
        opS P (S.ld 31 x3) fun x6 =>
        opS P (S.cl 21 [x6, x4]) fun x7 =>
        opS P (S.ext x7 0) fun x8 =>
        opS P (S.ext x7 1) fun x9 =>
        opS P (S.ext x7 2) fun x10 =>
        opS P (S.st 36 x5 x8) fun x11 =>
        j0 x5 x9
      )
    ) (
      opS P (S.alloc 36) fun x4 =>
      allW (
        opS P (S.ld 31 x3) fun x5 =>
        opS P (S.cl 22 [x0]) fun x6 =>
        opS P (S.cl 21 [x5, x6]) fun x7 =>
        opS P (S.ext x7 0) fun x8 =>
        opS P (S.ext x7 1) fun x9 =>
        opS P (S.ext x7 2) fun x10 =>
        opS P (S.st 36 x4 x8) fun x11 =>
        j0 x4 x9
      ) (
        opS P (S.cl 22 [x0]) fun x5 =>
        opS P (S.ld 31 x3) fun x6 =>
        opS P (S.cl 21 [x6, x5]) fun x7 =>
        opS P (S.ext x7 0) fun x8 =>
        opS P (S.ext x7 1) fun x9 =>
        opS P (S.ext x7 2) fun x10 =>
        opS P (S.st 36 x4 x8) fun x11 =>
        j0 x4 x9
      )
    )
  )
instance fnb25 : FnB Try.prog 25 := ⟨Try.call25⟩
theorem e25 : p25 Try.prog = fun K x0 x1 => denF Try.prog Try.f25 [x0, x1] K := by kernel_rfl
theorem c25 {K : Value → World → Prop} {x0 x1 : Value} {w : World} (h : p25 Try.prog K x0 x1 w) : CallsR Try.prog 25 #[x0, x1] K w := by
  rw [e25] at h
  exact denF_sound mixed Try.func25 h

end Go.Gx.S
-- 22 25
end

section
/- What the functions of this program ask. -/
set_option linter.unusedVariables false
set_option maxRecDepth 100000
namespace Go.Gx.S
open Go Go.Gx Go.Proofs
-- (*gemel/span.Span).changed
def p31 (P : Program) (K : Value → World → Prop) (x0 : Value) (x1 : Value) (x2 : Value) : World → Prop :=
  opS P (S.nc x0) fun x3 =>
  opS P (S.fa 67 x3 1) fun x4 =>
  opS P (S.ld 64 x4) fun x5 =>
  opS P (S.len x5) fun x6 =>
  jnJ 0 (
    opS P (S.binI .add x2 (.int .i64 4)) fun x7 =>
    opS P (S.nc x0) fun x8 =>
    opS P (S.fa 67 x8 3) fun x9 =>
    opS P (S.st 3 x9 x7) fun x10 =>
    K (.tuple #[])
  ) fun j0 =>
  loopJ 1 (fun j1 x7 =>
    opS P (S.binI .lss x7 x6) fun x8 =>
    brn x8 (
      opS P (S.ia 64 x5 x7) fun x9 =>
      opS P (S.ld 58 x9) fun x10 =>
      opS P (S.binG .neq 58 x10 x1) fun x11 =>
      brn x11 (
        opS P (S.nc x0) fun x12 =>
        opS P (S.fa 67 x12 5) fun x13 =>
        opS P (S.ld 65 x13) fun x14 =>
        opS P (S.binI .add x7 (.int .i64 1)) fun x15 =>
        opS P (S.mu 65 x14 x15 (.bool true)) fun x16 =>
        opS P (S.binI .add x7 (.int .i64 1)) fun x17 =>
        j1 x17
      ) (
        opS P (S.binI .add x7 (.int .i64 1)) fun x12 =>
        j1 x12
      )
    ) (
      j0
    )
  ) (.int .i64 0)
instance fnb31 : FnB Try.prog 31 := ⟨Try.call31⟩
theorem e31 : p31 Try.prog = fun K x0 x1 x2 => denF Try.prog Try.f31 [x0, x1, x2] K := by kernel_rfl
theorem c31 {K : Value → World → Prop} {x0 x1 x2 : Value} {w : World} (h : p31 Try.prog K x0 x1 x2 w) : CallsR Try.prog 31 #[x0, x1, x2] K w := by
  rw [e31] at h
  exact denF_sound mixed Try.func31 h

-- (*gemel/span.Span).forwards
def p35 (P : Program) (K : Value → World → Prop) (x0 : Value) (x1 : Value) (x2 : Value) : World → Prop :=
  opS P (S.nc x1) fun x3 =>
  opS P (S.fa 62 x3 5) fun x4 =>
  opS P (S.ld 3 x4) fun x5 =>
  opS P (S.binI .neq x5 (.int .i64 2)) fun x6 =>
  brn x6 (
    opS P (S.nc x1) fun x7 =>
    opS P (S.fa 62 x7 3) fun x8 =>
    opS P (S.ld 4 x8) fun x9 =>
    opS P (S.un .not x9) fun x10 =>
    brn x10 (
      opS P (S.cl 31 [x0, x1, x2]) fun x11 =>
      opS P (S.nc x1) fun x12 =>
      opS P (S.fa 62 x12 5) fun x13 =>
      opS P (S.st 3 x13 (.int .i64 2)) fun x14 =>
      K (.tuple #[])
    ) (
      opS P (S.nc x1) fun x11 =>
      opS P (S.fa 62 x11 5) fun x12 =>
      opS P (S.st 3 x12 (.int .i64 2)) fun x13 =>
      K (.tuple #[])
    )
  ) (
    opS P (S.nc x1) fun x7 =>
    opS P (S.fa 62 x7 5) fun x8 =>
    opS P (S.st 3 x8 (.int .i64 2)) fun x9 =>
    K (.tuple #[])
  )
instance fnb35 : FnB Try.prog 35 := ⟨Try.call35⟩
theorem e35 : p35 Try.prog = fun K x0 x1 x2 => denF Try.prog Try.f35 [x0, x1, x2] K := by kernel_rfl
theorem c35 {K : Value → World → Prop} {x0 x1 x2 : Value} {w : World} (h : p35 Try.prog K x0 x1 x2 w) : CallsR Try.prog 35 #[x0, x1, x2] K w := by
  rw [e35] at h
  exact denF_sound mixed Try.func35 h

-- (*gemel/span.port).holds
def p42 (P : Program) (K : Value → World → Prop) (x0 : Value) (x1 : Value) : World → Prop :=
  opS P (S.binI .add x1 (.int .i64 15)) fun x2 =>
  opS P (S.nc x0) fun x3 =>
  opS P (S.fa 62 x3 5) fun x4 =>
  opS P (S.st 3 x4 (.int .i64 0)) fun x5 =>
  opS P (S.nc x0) fun x6 =>
  opS P (S.fa 62 x6 6) fun x7 =>
  opS P (S.st 3 x7 x2) fun x8 =>
  K (.tuple #[])
instance fnb42 : FnB Try.prog 42 := ⟨Try.call42⟩
theorem e42 : p42 Try.prog = fun K x0 x1 => denF Try.prog Try.f42 [x0, x1] K := by kernel_rfl
theorem c42 {K : Value → World → Prop} {x0 x1 : Value} {w : World} (h : p42 Try.prog K x0 x1 w) : CallsR Try.prog 42 #[x0, x1] K w := by
  rw [e42] at h
  exact denF_sound mixed Try.func42 h

end Go.Gx.S
-- 42 31 35
end

section
/- What the functions of this program ask. -/
set_option linter.unusedVariables false
set_option maxRecDepth 100000
namespace Go.Gx.S
open Go Go.Gx Go.Proofs
-- gemel/roles.Select
def p21 (P : Program) (K : Value → World → Prop) (x0 : Value) (x1 : Value) : World → Prop :=
  opS P (S.box 31 x0) fun x2 =>
  opS P (S.box 70 x1) fun x3 =>
  opS P (S.alloc 36) fun x4 =>
  opS P (S.ld 70 x3) fun x5 =>
  opS P (S.cl 37 [x5]) fun x6 =>
  opS P (S.binI .neq x6 (.int .i64 0)) fun x7 =>
  brn x7 (
    opS P (S.build 36 []) fun x8 =>
    opS P (S.st 36 x4 x8) fun x9 =>
    opS P (S.ld 36 x4) fun x10 =>
    K (.tuple #[x10, (.slice none 0 0), x6])
  ) (
    opS P (S.ld 31 x2) fun x8 =>
    opS P (S.ld 31 x2) fun x9 =>
    opS P (S.build 36 [(0, x8), (2, x9)]) fun x10 =>
    opS P (S.alloc 36) fun x11 =>
    opS P (S.st 36 x11 x10) fun x12 =>
    opS P (S.mkf (.func 38) [] [x3]) fun x13 =>
    opS P (S.ld 70 x3) fun x14 =>
    opS P (S.len x14) fun x15 =>
    jnJ 1 (fun x16 =>
      opS P (S.ld 70 x3) fun x17 =>
      opS P (S.len x17) fun x18 =>
      opS P (S.mks 23 x18 x18) fun x19 =>
      opS P (S.ld 70 x3) fun x20 =>
      opS P (S.len x20) fun x21 =>
      jnJ 0 (
        opS P (S.ld 36 x11) fun x22 =>
        opS P (S.st 36 x4 x22) fun x23 =>
        opS P (S.ld 36 x4) fun x24 =>
        K (.tuple #[x24, x19, (.int .i64 0)])
      ) fun j0 =>
      loopJ 1 (fun j1 x22 =>
        opS P (S.binI .lss x22 x21) fun x23 =>
        brn x23 (
          opS P (S.ld 70 x3) fun x24 =>
          opS P (S.ia 70 x24 x22) fun x25 =>
          opS P (S.fa 60 x25 4) fun x26 =>
          opS P (S.ld 36 x26) fun x27 =>
          opS P (S.alloc 36) fun x28 =>
          opS P (S.st 36 x28 x27) fun x29 =>
          opS P (S.fa 36 x28 4) fun x30 =>
          opS P (S.st 3 x30 (.int .i64 0)) fun x31 =>
          opS P (S.ld 70 x3) fun x32 =>
          opS P (S.ia 70 x32 x22) fun x33 =>
          opS P (S.fa 60 x33 2) fun x34 =>
          opS P (S.ld 4 x34) fun x35 =>
          opS P (S.un .not x35) fun x36 =>
          brn x36 (
            opS P (S.ia 23 x19 x22) fun x37 =>
            opS P (S.st 3 x37 (.int .i64 0)) fun x38 =>
            opS P (S.binI .add x22 (.int .i64 1)) fun x39 =>
            j1 x39
          ) (
            opS P (S.binI .eql x22 x16) fun x37 =>
            brn x37 (
              opS P (S.ia 23 x19 x22) fun x38 =>
              opS P (S.st 3 x38 (.int .i64 1)) fun x39 =>
              opS P (S.binI .add x22 (.int .i64 1)) fun x40 =>
              j1 x40
            ) (
              jnJ 0 (
                opS P (S.fa 36 x28 2) fun x38 =>
                opS P (S.ld 31 x38) fun x39 =>
                opS P (S.ld 31 x2) fun x40 =>
                opS P (S.binG .eql 31 x39 x40) fun x41 =>
                brn x41 (
                  opS P (S.ia 23 x19 x22) fun x42 =>
                  opS P (S.st 3 x42 (.int .i64 4)) fun x43 =>
                  opS P (S.binI .add x22 (.int .i64 1)) fun x44 =>
                  j1 x44
                ) (
                  opS P (S.ia 23 x19 x22) fun x42 =>
                  opS P (S.st 3 x42 (.int .i64 3)) fun x43 =>
                  opS P (S.binI .add x22 (.int .i64 1)) fun x44 =>
                  j1 x44
                )
              ) fun j2 =>
              drw <|
              opS P (S.call x13 [x22]) fun x38 =>
              opS P (S.un .not x38) fun x39 =>
              brn x39 (
                allW (
                  opS P (S.ia 23 x19 x22) fun x40 =>
                  opS P (S.st 3 x40 (.int .i64 2)) fun x41 =>
                  opS P (S.binI .add x22 (.int .i64 1)) fun x42 =>
                  j1 x42
                ) (
                  opS P (S.ia 23 x19 x22) fun x40 =>
                  opS P (S.st 3 x40 (.int .i64 2)) fun x41 =>
                  opS P (S.binI .add x22 (.int .i64 1)) fun x42 =>
                  j1 x42
                )
              ) (
                opS P (S.ld 31 x2) fun x40 =>
                opS P (S.ld 36 x11) fun x41 =>
                opS P (S.ld 70 x3) fun x42 =>
                opS P (S.ia 70 x42 x22) fun x43 =>
                opS P (S.fa 60 x43 0) fun x44 =>
                opS P (S.ld 3 x44) fun x45 =>
                allW (
                  opS P (S.ld 36 x28) fun x46 =>
                  opS P (S.cl 41 [x40, x41, x45]) fun x47 =>
                  opS P (S.cl 40 [x46, x47]) fun x48 =>
                  opS P (S.binI .geq x48 (.int .i64 0)) fun x49 =>
                  brn x49 (
                    opS P (S.ia 23 x19 x22) fun x50 =>
                    opS P (S.st 3 x50 (.int .i64 2)) fun x51 =>
                    opS P (S.binI .add x22 (.int .i64 1)) fun x52 =>
                    j1 x52
                  ) (
                    j2
                  )
                ) (
                  opS P (S.cl 41 [x40, x41, x45]) fun x46 =>
                  opS P (S.ld 36 x28) fun x47 =>
                  opS P (S.cl 40 [x47, x46]) fun x48 =>
                  opS P (S.binI .geq x48 (.int .i64 0)) fun x49 =>
                  brn x49 (
                    opS P (S.ia 23 x19 x22) fun x50 =>
                    opS P (S.st 3 x50 (.int .i64 2)) fun x51 =>
                    opS P (S.binI .add x22 (.int .i64 1)) fun x52 =>
                    j1 x52
                  ) (
                    j2
                  )
                )
              )
            )
          )
        ) (
          j0
        )
      ) (.int .i64 0)
    ) fun j0 =>
    loopJ 2 (fun j1 x16 x17 =>
      opS P (S.binI .lss x17 x15) fun x18 =>
      brn x18 (
        jnJ 1 (fun x19 =>
          opS P (S.ld 70 x3) fun x20 =>
          opS P (S.ia 70 x20 x17) fun x21 =>
          opS P (S.fa 60 x21 0) fun x22 =>
          opS P (S.ld 3 x22) fun x23 =>
          opS P (S.fa 36 x19 4) fun x24 =>
          opS P (S.st 3 x24 x23) fun x25 =>
          opS P (S.call x13 [x17]) fun x26 =>
          brn x26 (
            opS P (S.fa 36 x19 2) fun x27 =>
            opS P (S.ld 31 x27) fun x28 =>
            opS P (S.ld 31 x2) fun x29 =>
            opS P (S.binG .neq 31 x28 x29) fun x30 =>
            brn x30 (
              opS P (S.ld 36 x19) fun x31 =>
              opS P (S.ld 36 x11) fun x32 =>
              opS P (S.cl 40 [x31, x32]) fun x33 =>
              opS P (S.binI .lss x33 (.int .i64 0)) fun x34 =>
              brn x34 (
                opS P (S.ld 36 x19) fun x35 =>
                opS P (S.st 36 x11 x35) fun x36 =>
                opS P (S.binI .add x17 (.int .i64 1)) fun x37 =>
                j1 x17 x37
              ) (
                opS P (S.binI .add x17 (.int .i64 1)) fun x35 =>
                j1 x16 x35
              )
            ) (
              opS P (S.binI .add x17 (.int .i64 1)) fun x31 =>
              j1 x16 x31
            )
          ) (
            opS P (S.binI .add x17 (.int .i64 1)) fun x27 =>
            j1 x16 x27
          )
        ) fun j2 =>
        drw <|
        allW (
          opS P (S.ld 70 x3) fun x19 =>
          opS P (S.ia 70 x19 x17) fun x20 =>
          opS P (S.fa 60 x20 4) fun x21 =>
          allW (
            opS P (S.ld 36 x21) fun x22 =>
            allW (
              opS P (S.ld 70 x3) fun x23 =>
              opS P (S.ia 70 x23 x17) fun x24 =>
              opS P (S.fa 60 x24 1) fun x25 =>
              allW (
                opS P (S.ld 3 x25) fun x26 =>
                allW (
                  opS P (S.cl 39 [x22, x26]) fun x27 =>
                  opS P (S.alloc 36) fun x28 =>
                  opS P (S.st 36 x28 x27) fun x29 =>
                  j2 x28
                ) (
                  opS P (S.alloc 36) fun x27 =>
                  opS P (S.cl 39 [x22, x26]) fun x28 =>
                  opS P (S.st 36 x27 x28) fun x29 =>
                  j2 x27
                )
              ) (
                opS P (S.alloc 36) fun x26 =>
                opS P (S.ld 3 x25) fun x27 =>
                opS P (S.cl 39 [x22, x27]) fun x28 =>
                opS P (S.st 36 x26 x28) fun x29 =>
                j2 x26
              )
            ) (
              opS P (S.alloc 36) fun x23 =>
              opS P (S.ld 70 x3) fun x24 =>
              opS P (S.ia 70 x24 x17) fun x25 =>
              opS P (S.fa 60 x25 1) fun x26 =>
              opS P (S.ld 3 x26) fun x27 =>
              opS P (S.cl 39 [x22, x27]) fun x28 =>
              opS P (S.st 36 x23 x28) fun x29 =>
              j2 x23
            )
          ) (
            allW (
              opS P (S.ld 70 x3) fun x22 =>
              opS P (S.ia 70 x22 x17) fun x23 =>
              opS P (S.fa 60 x23 1) fun x24 =>
              allW (
                opS P (S.ld 36 x21) fun x25 =>
                allW (
                  opS P (S.ld 3 x24) fun x26 =>
                  allW (
                    opS P (S.cl 39 [x25, x26]) fun x27 =>
                    opS P (S.alloc 36) fun x28 =>
                    opS P (S.st 36 x28 x27) fun x29 =>
                    j2 x28
                  ) (
                    opS P (S.alloc 36) fun x27 =>
                    opS P (S.cl 39 [x25, x26]) fun x28 =>
                    opS P (S.st 36 x27 x28) fun x29 =>
                    j2 x27
                  )
                ) (
                  opS P (S.alloc 36) fun x26 =>
                  opS P (S.ld 3 x24) fun x27 =>
                  opS P (S.cl 39 [x25, x27]) fun x28 =>
                  opS P (S.st 36 x26 x28) fun x29 =>
                  j2 x26
                )
              ) (
                allW (
                  opS P (S.ld 3 x24) fun x25 =>
                  allW (
                    opS P (S.ld 36 x21) fun x26 =>
                    allW (
                      opS P (S.cl 39 [x26, x25]) fun x27 =>
                      opS P (S.alloc 36) fun x28 =>
                      opS P (S.st 36 x28 x27) fun x29 =>
                      j2 x28
                    ) (
                      opS P (S.alloc 36) fun x27 =>
                      opS P (S.cl 39 [x26, x25]) fun x28 =>
                      opS P (S.st 36 x27 x28) fun x29 =>
                      j2 x27
                    )
                  ) (
                    opS P (S.alloc 36) fun x26 =>
                    opS P (S.ld 36 x21) fun x27 =>
                    opS P (S.cl 39 [x27, x25]) fun x28 =>
                    opS P (S.st 36 x26 x28) fun x29 =>
                    j2 x26
                  )
                ) (
                  opS P (S.alloc 36) fun x25 =>
                  opS P (S.ld 36 x21) fun x26 =>
                  opS P (S.ld 3 x24) fun x27 =>
                  opS P (S.cl 39 [x26, x27]) fun x28 =>
                  opS P (S.st 36 x25 x28) fun x29 =>
                  j2 x25
                )
              )
            ) (
              opS P (S.alloc 36) fun x22 =>
              opS P (S.ld 36 x21) fun x23 =>
              opS P (S.ld 70 x3) fun x24 =>
              opS P (S.ia 70 x24 x17) fun x25 =>
              opS P (S.fa 60 x25 1) fun x26 =>
              opS P (S.ld 3 x26) fun x27 =>
              opS P (S.cl 39 [x23, x27]) fun x28 =>
              opS P (S.st 36 x22 x28) fun x29 =>
              j2 x22
            )
          )
        ) (
          allW (
            opS P (S.ld 70 x3) fun x19 =>
            opS P (S.ia 70 x19 x17) fun x20 =>
            opS P (S.fa 60 x20 1) fun x21 =>
            allW (
              opS P (S.ld 70 x3) fun x22 =>
              opS P (S.ia 70 x22 x17) fun x23 =>
              opS P (S.fa 60 x23 4) fun x24 =>
              allW (
                opS P (S.ld 36 x24) fun x25 =>
                allW (
                  opS P (S.ld 3 x21) fun x26 =>
                  allW (
                    opS P (S.cl 39 [x25, x26]) fun x27 =>
                    opS P (S.alloc 36) fun x28 =>
                    opS P (S.st 36 x28 x27) fun x29 =>
                    j2 x28
                  ) (
                    opS P (S.alloc 36) fun x27 =>
                    opS P (S.cl 39 [x25, x26]) fun x28 =>
                    opS P (S.st 36 x27 x28) fun x29 =>
                    j2 x27
                  )
                ) (
                  opS P (S.alloc 36) fun x26 =>
                  opS P (S.ld 3 x21) fun x27 =>
                  opS P (S.cl 39 [x25, x27]) fun x28 =>
                  opS P (S.st 36 x26 x28) fun x29 =>
                  j2 x26
                )
              ) (
                allW (
                  opS P (S.ld 3 x21) fun x25 =>
                  allW (
                    opS P (S.ld 36 x24) fun x26 =>
                    allW (
                      opS P (S.cl 39 [x26, x25]) fun x27 =>
                      opS P (S.alloc 36) fun x28 =>
                      opS P (S.st 36 x28 x27) fun x29 =>
                      j2 x28
                    ) (
                      opS P (S.alloc 36) fun x27 =>
                      opS P (S.cl 39 [x26, x25]) fun x28 =>
                      opS P (S.st 36 x27 x28) fun x29 =>
                      j2 x27
                    )
                  ) (
                    opS P (S.alloc 36) fun x26 =>
                    opS P (S.ld 36 x24) fun x27 =>
                    opS P (S.cl 39 [x27, x25]) fun x28 =>
                    opS P (S.st 36 x26 x28) fun x29 =>
                    j2 x26
                  )
                ) (
                  opS P (S.alloc 36) fun x25 =>
                  opS P (S.ld 36 x24) fun x26 =>
                  opS P (S.ld 3 x21) fun x27 =>
                  opS P (S.cl 39 [x26, x27]) fun x28 =>
                  opS P (S.st 36 x25 x28) fun x29 =>
                  j2 x25
                )
              )
            ) (
              allW (
                opS P (S.ld 3 x21) fun x22 =>
                allW (
                  opS P (S.ld 70 x3) fun x23 =>
                  opS P (S.ia 70 x23 x17) fun x24 =>
                  opS P (S.fa 60 x24 4) fun x25 =>
                  allW (
                    opS P (S.ld 36 x25) fun x26 =>
                    allW (
                      opS P (S.cl 39 [x26, x22]) fun x27 =>
                      opS P (S.alloc 36) fun x28 =>
                      opS P (S.st 36 x28 x27) fun x29 =>
                      j2 x28
                    ) (
                      opS P (S.alloc 36) fun x27 =>
                      opS P (S.cl 39 [x26, x22]) fun x28 =>
                      opS P (S.st 36 x27 x28) fun x29 =>
                      j2 x27
                    )
                  ) (
                    opS P (S.alloc 36) fun x26 =>
                    opS P (S.ld 36 x25) fun x27 =>
                    opS P (S.cl 39 [x27, x22]) fun x28 =>
                    opS P (S.st 36 x26 x28) fun x29 =>
                    j2 x26
                  )
                ) (
                  opS P (S.alloc 36) fun x23 =>
                  opS P (S.ld 70 x3) fun x24 =>
                  opS P (S.ia 70 x24 x17) fun x25 =>
                  opS P (S.fa 60 x25 4) fun x26 =>
                  opS P (S.ld 36 x26) fun x27 =>
                  opS P (S.cl 39 [x27, x22]) fun x28 =>
                  opS P (S.st 36 x23 x28) fun x29 =>
                  j2 x23
                )
              ) (
                opS P (S.alloc 36) fun x22 =>
                opS P (S.ld 70 x3) fun x23 =>
                opS P (S.ia 70 x23 x17) fun x24 =>
                opS P (S.fa 60 x24 4) fun x25 =>
                opS P (S.ld 36 x25) fun x26 =>
                opS P (S.ld 3 x21) fun x27 =>
                opS P (S.cl 39 [x26, x27]) fun x28 =>
                opS P (S.st 36 x22 x28) fun x29 =>
                j2 x22
              )
            )
          ) (
            opS P (S.alloc 36) fun x19 =>
            opS P (S.ld 70 x3) fun x20 =>
            opS P (S.ia 70 x20 x17) fun x21 =>
            opS P (S.fa 60 x21 4) fun x22 =>
            opS P (S.ld 36 x22) fun x23 =>
            opS P (S.ld 70 x3) fun x24 =>
            opS P (S.ia 70 x24 x17) fun x25 =>
            opS P (S.fa 60 x25 1) fun x26 =>
            opS P (S.ld 3 x26) fun x27 =>
            opS P (S.cl 39 [x23, x27]) fun x28 =>
            opS P (S.st 36 x19 x28) fun x29 =>
            j2 x19
          )
        )
      ) (
        j0 x16
      )
    ) (.int .i64 (-1)) (.int .i64 0)
  )
instance fnb21 : FnB Try.prog 21 := ⟨Try.call21⟩
theorem e21 : p21 Try.prog = fun K x0 x1 => denF Try.prog Try.f21 [x0, x1] K := by kernel_rfl
theorem c21 {K : Value → World → Prop} {x0 x1 : Value} {w : World} (h : p21 Try.prog K x0 x1 w) : CallsR Try.prog 21 #[x0, x1] K w := by
  rw [e21] at h
  exact denF_sound mixed Try.func21 h

end Go.Gx.S
-- 21
end

section
/- What the functions of this program ask. -/
set_option linter.unusedVariables false
set_option maxRecDepth 100000
namespace Go.Gx.S
open Go Go.Gx Go.Proofs
-- gemel/roles.fair
def p37 (P : Program) (K : Value → World → Prop) (x0 : Value) : World → Prop :=
  opS P (S.mkm 65 none) fun x1 =>
  opS P (S.len x0) fun x2 =>
  opS P (S.binI .gtr x2 (.int .i64 64)) fun x3 =>
  brn x3 (
    K (.int .i64 1)
  ) (
    opS P (S.len x0) fun x4 =>
    jnJ 0 (
      opS P (S.bi .len #[65] 3 [x1]) fun x5 =>
      opS P (S.len x0) fun x6 =>
      opS P (S.binI .lss x5 x6) fun x7 =>
      brn x7 (
        K (.int .i64 5)
      ) (
        K (.int .i64 0)
      )
    ) fun j0 =>
    loopJ 1 (fun j1 x5 =>
      opS P (S.binI .lss x5 x4) fun x6 =>
      brn x6 (
        opS P (S.ia 70 x0 x5) fun x7 =>
        opS P (S.ld 60 x7) fun x8 =>
        opS P (S.alloc 60) fun x9 =>
        opS P (S.st 60 x9 x8) fun x10 =>
        opS P (S.fa 60 x9 0) fun x11 =>
        opS P (S.ld 3 x11) fun x12 =>
        opS P (S.binI .lss x12 (.int .i64 1)) fun x13 =>
        brn x13 (
          K (.int .i64 1)
        ) (
          opS P (S.fa 60 x9 0) fun x14 =>
          opS P (S.ld 3 x14) fun x15 =>
          opS P (S.binI .gtr x15 (.int .i64 65535)) fun x16 =>
          brn x16 (
            K (.int .i64 1)
          ) (
            opS P (S.fa 60 x9 1) fun x17 =>
            opS P (S.ld 3 x17) fun x18 =>
            opS P (S.binI .lss x18 (.int .i64 1)) fun x19 =>
            brn x19 (
              K (.int .i64 1)
            ) (
              opS P (S.fa 60 x9 1) fun x20 =>
              opS P (S.ld 3 x20) fun x21 =>
              opS P (S.binI .gtr x21 (.int .i64 200000000)) fun x22 =>
              brn x22 (
                K (.int .i64 1)
              ) (
                opS P (S.fa 60 x9 0) fun x23 =>
                opS P (S.ld 3 x23) fun x24 =>
                opS P (S.mu 65 x1 x24 (.bool true)) fun x25 =>
                opS P (S.binI .add x5 (.int .i64 1)) fun x26 =>
                j1 x26
              )
            )
          )
        )
      ) (
        j0
      )
    ) (.int .i64 0)
  )
instance fnb37 : FnB Try.prog 37 := ⟨Try.call37⟩
theorem e37 : p37 Try.prog = fun K x0 => denF Try.prog Try.f37 [x0] K := by kernel_rfl
theorem c37 {K : Value → World → Prop} {x0 : Value} {w : World} (h : p37 Try.prog K x0 w) : CallsR Try.prog 37 #[x0] K w := by
  rw [e37] at h
  exact denF_sound mixed Try.func37 h

-- gemel/roles.Select$1
def p38 (P : Program) (K : Value → World → Prop) (x0 : Value) (x1 : Value) : World → Prop :=
  opS P (S.ld 70 x1) fun x2 =>
  opS P (S.ia 70 x2 x0) fun x3 =>
  opS P (S.fa 60 x3 2) fun x4 =>
  opS P (S.ld 4 x4) fun x5 =>
  brn x5 (
    opS P (S.ld 70 x1) fun x6 =>
    opS P (S.ia 70 x6 x0) fun x7 =>
    opS P (S.fa 60 x7 3) fun x8 =>
    opS P (S.ld 4 x8) fun x9 =>
    K x9
  ) (
    K (.bool false)
  )
instance fnb38 : FnB Try.prog 38 := ⟨Try.call38⟩
theorem e38 : p38 Try.prog = fun K x0 x1 => denF Try.prog Try.f38 [x0, x1] K := by kernel_rfl
theorem c38 {K : Value → World → Prop} {x0 x1 : Value} {w : World} (h : p38 Try.prog K x0 x1 w) : CallsR Try.prog 38 #[x0, x1] K w := by
  rw [e38] at h
  exact denF_sound mixed Try.func38 h

end Go.Gx.S
-- 37 38
end

section
/- What the functions of this program ask. -/
set_option linter.unusedVariables false
set_option maxRecDepth 100000
namespace Go.Gx.S
open Go Go.Gx Go.Proofs
-- gemel/bpdu.Right
def p30 (P : Program) (K : Value → World → Prop) (x0 : Value) : World → Prop :=
  opS P (S.box 50 x0) fun x1 =>
  opS P (S.fa 50 x1 0) fun x2 =>
  opS P (S.ld 3 x2) fun x3 =>
  opS P (S.binI .eql x3 (.int .i64 128)) fun x4 =>
  brn x4 (
    opS P (S.ld 50 x1) fun x5 =>
    opS P (S.fa 50 x1 0) fun x6 =>
    opS P (S.ld 3 x6) fun x7 =>
    opS P (S.build 50 [(0, x7)]) fun x8 =>
    opS P (S.binG .eql 50 x5 x8) fun x9 =>
    K x9
  ) (
    opS P (S.binI .eql x3 (.int .i64 0)) fun x5 =>
    brn x5 (
      opS P (S.alloc 4) fun x6 =>
      opS P (S.st 4 x6 (.bool true)) fun x7 =>
      opS P (S.mkf (.func 45) [] [x6]) fun x8 =>
      opS P (S.cl 44 [x1, x8, (.func (.func 46) #[] #[])]) fun x9 =>
      opS P (S.ld 4 x6) fun x10 =>
      K x10
    ) (
      opS P (S.binI .eql x3 (.int .i64 2)) fun x6 =>
      brn x6 (
        opS P (S.alloc 4) fun x7 =>
        opS P (S.st 4 x7 (.bool true)) fun x8 =>
        opS P (S.mkf (.func 45) [] [x7]) fun x9 =>
        opS P (S.cl 44 [x1, x9, (.func (.func 46) #[] #[])]) fun x10 =>
        opS P (S.ld 4 x7) fun x11 =>
        K x11
      ) (
        K (.bool false)
      )
    )
  )
instance fnb30 : FnB Try.prog 30 := ⟨Try.call30⟩
theorem e30 : p30 Try.prog = fun K x0 => denF Try.prog Try.f30 [x0] K := by kernel_rfl
theorem c30 {K : Value → World → Prop} {x0 : Value} {w : World} (h : p30 Try.prog K x0 w) : CallsR Try.prog 30 #[x0] K w := by
  rw [e30] at h
  exact denF_sound mixed Try.func30 h

-- gemel/vector.Add
def p39 (P : Program) (K : Value → World → Prop) (x0 : Value) (x1 : Value) : World → Prop :=
  opS P (S.box 36 x0) fun x2 =>
  opS P (S.alloc 36) fun x3 =>
  opS P (S.fa 36 x2 1) fun x4 =>
  opS P (S.ld 3 x4) fun x5 =>
  opS P (S.cl 49 [x5]) fun x6 =>
  brn x6 (
    opS P (S.cl 49 [x1]) fun x7 =>
    brn x7 (
      opS P (S.fa 36 x2 1) fun x8 =>
      opS P (S.ld 3 x8) fun x9 =>
      opS P (S.binI .add x9 x1) fun x10 =>
      opS P (S.bi .min #[3, 3] 3 [x10, (.int .i64 4294967295)]) fun x11 =>
      opS P (S.fa 36 x2 1) fun x12 =>
      opS P (S.st 3 x12 x11) fun x13 =>
      opS P (S.ld 36 x2) fun x14 =>
      opS P (S.st 36 x3 x14) fun x15 =>
      opS P (S.ld 36 x3) fun x16 =>
      K x16
    ) (
      opS P (S.ld 36 x2) fun x8 =>
      opS P (S.st 36 x3 x8) fun x9 =>
      opS P (S.ld 36 x3) fun x10 =>
      K x10
    )
  ) (
    opS P (S.ld 36 x2) fun x7 =>
    opS P (S.st 36 x3 x7) fun x8 =>
    opS P (S.ld 36 x3) fun x9 =>
    K x9
  )
instance fnb39 : FnB Try.prog 39 := ⟨Try.call39⟩
theorem e39 : p39 Try.prog = fun K x0 x1 => denF Try.prog Try.f39 [x0, x1] K := by kernel_rfl
theorem c39 {K : Value → World → Prop} {x0 x1 : Value} {w : World} (h : p39 Try.prog K x0 x1 w) : CallsR Try.prog 39 #[x0, x1] K w := by
  rw [e39] at h
  exact denF_sound mixed Try.func39 h

-- gemel/roles.Offer
def p41 (P : Program) (K : Value → World → Prop) (x0 : Value) (x1 : Value) (x2 : Value) : World → Prop :=
  opS P (S.box 31 x0) fun x3 =>
  opS P (S.box 36 x1) fun x4 =>
  opS P (S.alloc 36) fun x5 =>
  opS P (S.fa 36 x4 0) fun x6 =>
  opS P (S.ld 31 x6) fun x7 =>
  opS P (S.fa 36 x4 1) fun x8 =>
  opS P (S.ld 3 x8) fun x9 =>
  opS P (S.ld 31 x3) fun x10 =>
  opS P (S.build 36 [(0, x7), (1, x9), (2, x10), (3, x2)]) fun x11 =>
  opS P (S.st 36 x5 x11) fun x12 =>
  opS P (S.ld 36 x5) fun x13 =>
  K x13
instance fnb41 : FnB Try.prog 41 := ⟨Try.call41⟩
theorem e41 : p41 Try.prog = fun K x0 x1 x2 => denF Try.prog Try.f41 [x0, x1, x2] K := by kernel_rfl
theorem c41 {K : Value → World → Prop} {x0 x1 x2 : Value} {w : World} (h : p41 Try.prog K x0 x1 x2 w) : CallsR Try.prog 41 #[x0, x1, x2] K w := by
  rw [e41] at h
  exact denF_sound mixed Try.func41 h

-- gemel/bpdu.walk
def p44 (P : Program) (K : Value → World → Prop) (x0 : Value) (x1 : Value) (x2 : Value) : World → Prop :=
  drw <|
  opS P (S.nc x0) fun x3 =>
  opS P (S.fa 50 x3 2) fun x4 =>
  opS P (S.fa 31 x4 1) fun x5 =>
  opS P (S.nc x0) fun x6 =>
  opS P (S.fa 50 x6 4) fun x7 =>
  opS P (S.fa 31 x7 1) fun x8 =>
  opS P (S.build 100 [(0, x5), (1, x8)]) fun x9 =>
  opS P (S.alloc 100) fun x10 =>
  opS P (S.st 100 x10 x9) fun x11 =>
  opS P (S.cl 53 [x0]) fun x12 =>
  opS P (S.len x12) fun x13 =>
  jnJ 0 (
    K (.tuple #[])
  ) fun j0 =>
  loopJ 1 (fun j1 x14 =>
    opS P (S.binI .lss x14 x13) fun x15 =>
    brn x15 (
      opS P (S.ia 101 x12 x14) fun x16 =>
      opS P (S.ld 90 x16) fun x17 =>
      opS P (S.alloc 90) fun x18 =>
      opS P (S.st 90 x18 x17) fun x19 =>
      opS P (S.fa 90 x18 0) fun x20 =>
      opS P (S.ld 88 x20) fun x21 =>
      opS P (S.binN .eql (S.isNilP x21)) fun x22 =>
      brn x22 (
        opS P (S.fa 90 x18 1) fun x23 =>
        opS P (S.ld 3 x23) fun x24 =>
        opS P (S.ia 100 x10 x24) fun x25 =>
        opS P (S.ld 92 x25) fun x26 =>
        opS P (S.call x2 [x26]) fun x27 =>
        opS P (S.binI .add x14 (.int .i64 1)) fun x28 =>
        j1 x28
      ) (
        opS P (S.ld 90 x18) fun x23 =>
        opS P (S.call x1 [x23]) fun x24 =>
        opS P (S.binI .add x14 (.int .i64 1)) fun x25 =>
        j1 x25
      )
    ) (
      j0
    )
  ) (.int .i64 0)
instance fnb44 : FnB Try.prog 44 := ⟨Try.call44⟩
theorem e44 : p44 Try.prog = fun K x0 x1 x2 => denF Try.prog Try.f44 [x0, x1, x2] K := by kernel_rfl
theorem c44 {K : Value → World → Prop} {x0 x1 x2 : Value} {w : World} (h : p44 Try.prog K x0 x1 x2 w) : CallsR Try.prog 44 #[x0, x1, x2] K w := by
  rw [e44] at h
  exact denF_sound mixed Try.func44 h

-- gemel/bpdu.Right$1
def p45 (P : Program) (K : Value → World → Prop) (x0 : Value) (x1 : Value) : World → Prop :=
  opS P (S.box 90 x0) fun x2 =>
  drw <|
  opS P (S.ld 4 x1) fun x3 =>
  brn x3 (
    opS P (S.fa 90 x2 0) fun x4 =>
    opS P (S.ld 88 x4) fun x5 =>
    opS P (S.nc x5) fun x6 =>
    opS P (S.ld 3 x6) fun x7 =>
    opS P (S.binI .geq x7 (.int .i64 0)) fun x8 =>
    brn x8 (
      opS P (S.fa 90 x2 0) fun x9 =>
      opS P (S.ld 88 x9) fun x10 =>
      opS P (S.nc x10) fun x11 =>
      opS P (S.ld 3 x11) fun x12 =>
      opS P (S.fa 90 x2 1) fun x13 =>
      opS P (S.ld 3 x13) fun x14 =>
      opS P (S.binI .mul (.int .i64 8) x14) fun x15 =>
      opS P (S.binI .shl (.int .i64 1) x15) fun x16 =>
      opS P (S.binI .lss x12 x16) fun x17 =>
      opS P (S.st 4 x1 x17) fun x18 =>
      K (.tuple #[])
    ) (
      opS P (S.st 4 x1 (.bool false)) fun x9 =>
      K (.tuple #[])
    )
  ) (
    opS P (S.st 4 x1 (.bool false)) fun x4 =>
    K (.tuple #[])
  )
instance fnb45 : FnB Try.prog 45 := ⟨Try.call45⟩
theorem e45 : p45 Try.prog = fun K x0 x1 => denF Try.prog Try.f45 [x0, x1] K := by kernel_rfl
theorem c45 {K : Value → World → Prop} {x0 x1 : Value} {w : World} (h : p45 Try.prog K x0 x1 w) : CallsR Try.prog 45 #[x0, x1] K w := by
  rw [e45] at h
  exact denF_sound mixed Try.func45 h

-- gemel/bpdu.Right$2
def p46 (P : Program) (K : Value → World → Prop) (x0 : Value) : World → Prop :=
  K (.tuple #[])
instance fnb46 : FnB Try.prog 46 := ⟨Try.call46⟩
theorem e46 : p46 Try.prog = fun K x0 => denF Try.prog Try.f46 [x0] K := by kernel_rfl
theorem c46 {K : Value → World → Prop} {x0 : Value} {w : World} (h : p46 Try.prog K x0 w) : CallsR Try.prog 46 #[x0] K w := by
  rw [e46] at h
  exact denF_sound mixed Try.func46 h

-- gemel/vector.Of
def p47 (P : Program) (K : Value → World → Prop) (x0 : Value) (x1 : Value) : World → Prop :=
  opS P (S.box 50 x0) fun x2 =>
  opS P (S.alloc 36) fun x3 =>
  opS P (S.ld 50 x2) fun x4 =>
  opS P (S.cl 30 [x4]) fun x5 =>
  opS P (S.un .not x5) fun x6 =>
  brn x6 (
    opS P (S.build 36 []) fun x7 =>
    opS P (S.st 36 x3 x7) fun x8 =>
    opS P (S.ld 36 x3) fun x9 =>
    K (.tuple #[x9, (.int .i64 2)])
  ) (
    opS P (S.fa 50 x2 0) fun x7 =>
    opS P (S.ld 3 x7) fun x8 =>
    opS P (S.binI .eql x8 (.int .i64 128)) fun x9 =>
    brn x9 (
      opS P (S.build 36 []) fun x10 =>
      opS P (S.st 36 x3 x10) fun x11 =>
      opS P (S.ld 36 x3) fun x12 =>
      K (.tuple #[x12, (.int .i64 2)])
    ) (
      opS P (S.binI .lss x1 (.int .i64 1)) fun x10 =>
      brn x10 (
        opS P (S.build 36 []) fun x11 =>
        opS P (S.st 36 x3 x11) fun x12 =>
        opS P (S.ld 36 x3) fun x13 =>
        K (.tuple #[x13, (.int .i64 1)])
      ) (
        opS P (S.binI .gtr x1 (.int .i64 65535)) fun x11 =>
        brn x11 (
          opS P (S.build 36 []) fun x12 =>
          opS P (S.st 36 x3 x12) fun x13 =>
          opS P (S.ld 36 x3) fun x14 =>
          K (.tuple #[x14, (.int .i64 1)])
        ) (
          opS P (S.fa 50 x2 2) fun x12 =>
          opS P (S.ld 31 x12) fun x13 =>
          opS P (S.fa 50 x2 3) fun x14 =>
          opS P (S.ld 3 x14) fun x15 =>
          opS P (S.fa 50 x2 4) fun x16 =>
          opS P (S.ld 31 x16) fun x17 =>
          opS P (S.fa 50 x2 5) fun x18 =>
          opS P (S.ld 3 x18) fun x19 =>
          opS P (S.build 36 [(0, x13), (1, x15), (2, x17), (3, x19), (4, x1)]) fun x20 =>
          opS P (S.st 36 x3 x20) fun x21 =>
          opS P (S.ld 36 x3) fun x22 =>
          K (.tuple #[x22, (.int .i64 0)])
        )
      )
    )
  )
instance fnb47 : FnB Try.prog 47 := ⟨Try.call47⟩
theorem e47 : p47 Try.prog = fun K x0 x1 => denF Try.prog Try.f47 [x0, x1] K := by kernel_rfl
theorem c47 {K : Value → World → Prop} {x0 x1 : Value} {w : World} (h : p47 Try.prog K x0 x1 w) : CallsR Try.prog 47 #[x0, x1] K w := by
  rw [e47] at h
  exact denF_sound mixed Try.func47 h

-- gemel/vector.costs
def p49 (P : Program) (K : Value → World → Prop) (x0 : Value) : World → Prop :=
  opS P (S.binI .geq x0 (.int .i64 0)) fun x1 =>
  brn x1 (
    opS P (S.binI .leq x0 (.int .i64 4294967295)) fun x2 =>
    K x2
  ) (
    K (.bool false)
  )
instance fnb49 : FnB Try.prog 49 := ⟨Try.call49⟩
theorem e49 : p49 Try.prog = fun K x0 => denF Try.prog Try.f49 [x0] K := by kernel_rfl
theorem c49 {K : Value → World → Prop} {x0 : Value} {w : World} (h : p49 Try.prog K x0 w) : CallsR Try.prog 49 #[x0] K w := by
  rw [e49] at h
  exact denF_sound mixed Try.func49 h

-- gemel/bpdu.fields
def p53 (P : Program) (K : Value → World → Prop) (x0 : Value) : World → Prop :=
  drw <|
  opS P (S.nc x0) fun x1 =>
  opS P (S.fa 50 x1 1) fun x2 =>
  opS P (S.build 90 [(0, x2), (1, (.int .i64 1))]) fun x3 =>
  opS P (S.nc x0) fun x4 =>
  opS P (S.fa 50 x4 2) fun x5 =>
  opS P (S.fa 31 x5 0) fun x6 =>
  opS P (S.build 90 [(0, x6), (1, (.int .i64 2))]) fun x7 =>
  opS P (S.build 90 [(0, (.pointer none)), (1, (.int .i64 0))]) fun x8 =>
  opS P (S.nc x0) fun x9 =>
  opS P (S.fa 50 x9 3) fun x10 =>
  opS P (S.build 90 [(0, x10), (1, (.int .i64 4))]) fun x11 =>
  opS P (S.nc x0) fun x12 =>
  opS P (S.fa 50 x12 4) fun x13 =>
  opS P (S.fa 31 x13 0) fun x14 =>
  opS P (S.build 90 [(0, x14), (1, (.int .i64 2))]) fun x15 =>
  opS P (S.build 90 [(0, (.pointer none)), (1, (.int .i64 1))]) fun x16 =>
  opS P (S.nc x0) fun x17 =>
  opS P (S.fa 50 x17 5) fun x18 =>
  opS P (S.build 90 [(0, x18), (1, (.int .i64 2))]) fun x19 =>
  opS P (S.nc x0) fun x20 =>
  opS P (S.fa 50 x20 6) fun x21 =>
  opS P (S.build 90 [(0, x21), (1, (.int .i64 2))]) fun x22 =>
  opS P (S.nc x0) fun x23 =>
  opS P (S.fa 50 x23 7) fun x24 =>
  opS P (S.build 90 [(0, x24), (1, (.int .i64 2))]) fun x25 =>
  opS P (S.nc x0) fun x26 =>
  opS P (S.fa 50 x26 8) fun x27 =>
  opS P (S.build 90 [(0, x27), (1, (.int .i64 2))]) fun x28 =>
  opS P (S.nc x0) fun x29 =>
  opS P (S.fa 50 x29 9) fun x30 =>
  opS P (S.build 90 [(0, x30), (1, (.int .i64 2))]) fun x31 =>
  opS P (S.buildS 101 11 [(0, x3), (1, x7), (2, x8), (3, x11), (4, x15), (5, x16), (6, x19), (7, x22), (8, x25), (9, x28), (10, x31)]) fun x32 =>
  K x32
instance fnb53 : FnB Try.prog 53 := ⟨Try.call53⟩
theorem e53 : p53 Try.prog = fun K x0 => denF Try.prog Try.f53 [x0] K := by kernel_rfl
theorem c53 {K : Value → World → Prop} {x0 : Value} {w : World} (h : p53 Try.prog K x0 w) : CallsR Try.prog 53 #[x0] K w := by
  rw [e53] at h
  exact denF_sound mixed Try.func53 h

end Go.Gx.S
-- 49 39 41 53 44 30 45 46 47
end

section
/- What the functions of this program ask. -/
set_option linter.unusedVariables false
set_option maxRecDepth 100000
namespace Go.Gx.S
open Go Go.Gx Go.Proofs
-- gemel/gemelref05.Compare
def p17 (P : Program) (K : Value → World → Prop) (x0 : Value) (x1 : Value) : World → Prop :=
  opS P (S.box 31 x0) fun x2 =>
  opS P (S.box 31 x1) fun x3 =>
  opS P (S.fa 31 x2 0) fun x4 =>
  opS P (S.ld 3 x4) fun x5 =>
  opS P (S.fa 31 x3 0) fun x6 =>
  opS P (S.ld 3 x6) fun x7 =>
  opS P (S.binI .lss x5 x7) fun x8 =>
  brn x8 (
    K (.int .i64 (-1))
  ) (
    opS P (S.fa 31 x2 0) fun x9 =>
    opS P (S.ld 3 x9) fun x10 =>
    opS P (S.fa 31 x3 0) fun x11 =>
    opS P (S.ld 3 x11) fun x12 =>
    opS P (S.binI .gtr x10 x12) fun x13 =>
    brn x13 (
      K (.int .i64 1)
    ) (
      opS P (S.fa 31 x2 1) fun x14 =>
      opS P (S.ld 29 x14) fun x15 =>
      opS P (S.fa 31 x3 1) fun x16 =>
      opS P (S.ld 29 x16) fun x17 =>
      opS P (S.cl 36 [x15, x17]) fun x18 =>
      K x18
    )
  )
instance fnb17 : FnB Try.prog 17 := ⟨Try.call17⟩
theorem e17 : p17 Try.prog = fun K x0 x1 => denF Try.prog Try.f17 [x0, x1] K := by kernel_rfl
theorem c17 {K : Value → World → Prop} {x0 x1 : Value} {w : World} (h : p17 Try.prog K x0 x1 w) : CallsR Try.prog 17 #[x0, x1] K w := by
  rw [e17] at h
  exact denF_sound mixed Try.func17 h

-- gemel/vector.Compare
def p40 (P : Program) (K : Value → World → Prop) (x0 : Value) (x1 : Value) : World → Prop :=
  opS P (S.box 36 x0) fun x2 =>
  opS P (S.box 36 x1) fun x3 =>
  drw <|
  quietS fun C =>
  qtS P C (S.fa 36 x2 0) fun x4 =>
  qtS P C (S.ld 31 x4) fun x5 =>
  qtS P C (S.fa 36 x3 0) fun x6 =>
  qtS P C (S.ld 31 x6) fun x7 =>
  qtS P C (S.cl 51 [x5, x7]) fun x8 =>
  qtS P C (S.fa 36 x2 1) fun x9 =>
  qtS P C (S.ld 3 x9) fun x10 =>
  qtS P C (S.fa 36 x3 1) fun x11 =>
  qtS P C (S.ld 3 x11) fun x12 =>
  qtS P C (S.cl 52 [x10, x12]) fun x13 =>
  qtS P C (S.fa 36 x2 2) fun x14 =>
  qtS P C (S.ld 31 x14) fun x15 =>
  qtS P C (S.fa 36 x3 2) fun x16 =>
  qtS P C (S.ld 31 x16) fun x17 =>
  qtS P C (S.cl 51 [x15, x17]) fun x18 =>
  qtS P C (S.fa 36 x2 3) fun x19 =>
  qtS P C (S.ld 3 x19) fun x20 =>
  qtS P C (S.fa 36 x3 3) fun x21 =>
  qtS P C (S.ld 3 x21) fun x22 =>
  qtS P C (S.cl 52 [x20, x22]) fun x23 =>
  qtS P C (S.fa 36 x2 4) fun x24 =>
  qtS P C (S.ld 3 x24) fun x25 =>
  qtS P C (S.fa 36 x3 4) fun x26 =>
  qtS P C (S.ld 3 x26) fun x27 =>
  qendS C <|
  opS P (S.cl 52 [x25, x27]) fun x28 =>
  opS P (S.buildS 23 5 [(0, x8), (1, x13), (2, x18), (3, x23), (4, x28)]) fun x29 =>
  opS P (S.cl 50 [x29]) fun x30 =>
  K x30
instance fnb40 : FnB Try.prog 40 := ⟨Try.call40⟩
theorem e40 : p40 Try.prog = fun K x0 x1 => denF Try.prog Try.f40 [x0, x1] K := by kernel_rfl
theorem c40 {K : Value → World → Prop} {x0 x1 : Value} {w : World} (h : p40 Try.prog K x0 x1 w) : CallsR Try.prog 40 #[x0, x1] K w := by
  rw [e40] at h
  exact denF_sound mixed Try.func40 h

-- gemel/bpdu.Compare
def p51 (P : Program) (K : Value → World → Prop) (x0 : Value) (x1 : Value) : World → Prop :=
  opS P (S.box 31 x0) fun x2 =>
  opS P (S.box 31 x1) fun x3 =>
  drw <|
  opS P (S.fa 31 x2 0) fun x4 =>
  opS P (S.ld 3 x4) fun x5 =>
  opS P (S.fa 31 x3 0) fun x6 =>
  opS P (S.ld 3 x6) fun x7 =>
  opS P (S.fa 31 x2 1) fun x8 =>
  opS P (S.fa 31 x3 1) fun x9 =>
  allW (
    opS P (S.cl 52 [x5, x7]) fun x10 =>
    opS P (S.ld 29 x8) fun x11 =>
    opS P (S.ld 29 x9) fun x12 =>
    opS P (S.cl 54 [x11, x12]) fun x13 =>
    opS P (S.buildS 23 2 [(0, x10), (1, x13)]) fun x14 =>
    opS P (S.cl 50 [x14]) fun x15 =>
    K x15
  ) (
    allW (
      opS P (S.ld 29 x8) fun x10 =>
      allW (
        opS P (S.cl 52 [x5, x7]) fun x11 =>
        opS P (S.ld 29 x9) fun x12 =>
        opS P (S.cl 54 [x10, x12]) fun x13 =>
        opS P (S.buildS 23 2 [(0, x11), (1, x13)]) fun x14 =>
        opS P (S.cl 50 [x14]) fun x15 =>
        K x15
      ) (
        opS P (S.ld 29 x9) fun x11 =>
        opS P (S.cl 52 [x5, x7]) fun x12 =>
        opS P (S.cl 54 [x10, x11]) fun x13 =>
        opS P (S.buildS 23 2 [(0, x12), (1, x13)]) fun x14 =>
        opS P (S.cl 50 [x14]) fun x15 =>
        K x15
      )
    ) (
      opS P (S.ld 29 x9) fun x10 =>
      allW (
        opS P (S.cl 52 [x5, x7]) fun x11 =>
        opS P (S.ld 29 x8) fun x12 =>
        opS P (S.cl 54 [x12, x10]) fun x13 =>
        opS P (S.buildS 23 2 [(0, x11), (1, x13)]) fun x14 =>
        opS P (S.cl 50 [x14]) fun x15 =>
        K x15
      ) (
        opS P (S.ld 29 x8) fun x11 =>
        opS P (S.cl 52 [x5, x7]) fun x12 =>
        opS P (S.cl 54 [x11, x10]) fun x13 =>
        opS P (S.buildS 23 2 [(0, x12), (1, x13)]) fun x14 =>
        opS P (S.cl 50 [x14]) fun x15 =>
        K x15
      )
    )
  )
instance fnb51 : FnB Try.prog 51 := ⟨Try.call51⟩
theorem e51 : p51 Try.prog = fun K x0 x1 => denF Try.prog Try.f51 [x0, x1] K := by kernel_rfl
theorem c51 {K : Value → World → Prop} {x0 x1 : Value} {w : World} (h : p51 Try.prog K x0 x1 w) : CallsR Try.prog 51 #[x0, x1] K w := by
  rw [e51] at h
  exact denF_sound mixed Try.func51 h

end Go.Gx.S
-- 51 17 40
end

section
/- What the functions of this program ask. -/
set_option linter.unusedVariables false
set_option maxRecDepth 100000
namespace Go.Gx.S
open Go Go.Gx Go.Proofs
-- gemel/gemelref01.Compare
def p36 (P : Program) (K : Value → World → Prop) (x0 : Value) (x1 : Value) : World → Prop :=
  opS P (S.box 29 x0) fun x2 =>
  opS P (S.box 29 x1) fun x3 =>
  opS P (S.ld 29 x2) fun x4 =>
  opS P (S.cl 48 [x4]) fun x5 =>
  opS P (S.ld 29 x3) fun x6 =>
  opS P (S.cl 48 [x6]) fun x7 =>
  opS P (S.binI .lss x5 x7) fun x8 =>
  brn x8 (
    K (.int .i64 (-1))
  ) (
    opS P (S.binI .gtr x5 x7) fun x9 =>
    brn x9 (
      K (.int .i64 1)
    ) (
      K (.int .i64 0)
    )
  )
instance fnb36 : FnB Try.prog 36 := ⟨Try.call36⟩
theorem e36 : p36 Try.prog = fun K x0 x1 => denF Try.prog Try.f36 [x0, x1] K := by kernel_rfl
theorem c36 {K : Value → World → Prop} {x0 x1 : Value} {w : World} (h : p36 Try.prog K x0 x1 w) : CallsR Try.prog 36 #[x0, x1] K w := by
  rw [e36] at h
  exact denF_sound mixed Try.func36 h

-- gemel/gemelref01.Number
def p48 (P : Program) (K : Value → World → Prop) (x0 : Value) : World → Prop :=
  opS P (S.box 29 x0) fun x1 =>
  jnJ 1 (fun x2 =>
    K x2
  ) fun j0 =>
  loopJ 2 (fun j1 x2 x3 =>
    opS P (S.binI .lss x3 (.int .i64 6)) fun x4 =>
    brn x4 (
      opS P (S.binI .mul x2 (.int .u64 256)) fun x5 =>
      opS P (S.ia 29 x1 x3) fun x6 =>
      opS P (S.ld 5 x6) fun x7 =>
      opS P (S.convI .u64 x7) fun x8 =>
      opS P (S.binI .add x5 x8) fun x9 =>
      opS P (S.binI .add x3 (.int .i64 1)) fun x10 =>
      j1 x9 x10
    ) (
      j0 x2
    )
  ) (.int .u64 0) (.int .i64 0)
instance fnb48 : FnB Try.prog 48 := ⟨Try.call48⟩
theorem e48 : p48 Try.prog = fun K x0 => denF Try.prog Try.f48 [x0] K := by kernel_rfl
theorem c48 {K : Value → World → Prop} {x0 : Value} {w : World} (h : p48 Try.prog K x0 w) : CallsR Try.prog 48 #[x0] K w := by
  rw [e48] at h
  exact denF_sound mixed Try.func48 h

-- cmp.Or[int]
def p50 (P : Program) (K : Value → World → Prop) (x0 : Value) : World → Prop :=
  opS P (S.len x0) fun x1 =>
  jnJ 0 (
    K (.int .i64 0)
  ) fun j0 =>
  loopJ 1 (fun j1 x2 =>
    opS P (S.binI .lss x2 x1) fun x3 =>
    brn x3 (
      opS P (S.ia 23 x0 x2) fun x4 =>
      opS P (S.ld 3 x4) fun x5 =>
      opS P (S.binI .neq x5 (.int .i64 0)) fun x6 =>
      brn x6 (
        K x5
      ) (
        opS P (S.binI .add x2 (.int .i64 1)) fun x7 =>
        j1 x7
      )
    ) (
      j0
    )
  ) (.int .i64 0)
instance fnb50 : FnB Try.prog 50 := ⟨Try.call50⟩
theorem e50 : p50 Try.prog = fun K x0 => denF Try.prog Try.f50 [x0] K := by kernel_rfl
theorem c50 {K : Value → World → Prop} {x0 : Value} {w : World} (h : p50 Try.prog K x0 w) : CallsR Try.prog 50 #[x0] K w := by
  rw [e50] at h
  exact denF_sound mixed Try.func50 h

-- cmp.Compare[int]
def p52 (P : Program) (K : Value → World → Prop) (x0 : Value) (x1 : Value) : World → Prop :=
  opS P (S.cl 55 [x0]) fun x2 =>
  opS P (S.cl 55 [x1]) fun x3 =>
  brn x2 (
    brn x3 (
      K (.int .i64 0)
    ) (
      K (.int .i64 (-1))
    )
  ) (
    brn x3 (
      K (.int .i64 1)
    ) (
      opS P (S.binI .lss x0 x1) fun x4 =>
      brn x4 (
        K (.int .i64 (-1))
      ) (
        opS P (S.binI .gtr x0 x1) fun x5 =>
        brn x5 (
          K (.int .i64 1)
        ) (
          K (.int .i64 0)
        )
      )
    )
  )
instance fnb52 : FnB Try.prog 52 := ⟨Try.call52⟩
theorem e52 : p52 Try.prog = fun K x0 x1 => denF Try.prog Try.f52 [x0, x1] K := by kernel_rfl
theorem c52 {K : Value → World → Prop} {x0 x1 : Value} {w : World} (h : p52 Try.prog K x0 x1 w) : CallsR Try.prog 52 #[x0, x1] K w := by
  rw [e52] at h
  exact denF_sound mixed Try.func52 h

-- gemel/mac.Compare
def p54 (P : Program) (K : Value → World → Prop) (x0 : Value) (x1 : Value) : World → Prop :=
  opS P (S.box 29 x0) fun x2 =>
  opS P (S.box 29 x1) fun x3 =>
  drw <|
  opS P (S.slc 29 x2 none none none) fun x4 =>
  opS P (S.slc 29 x3 none none none) fun x5 =>
  opS P (S.cl 56 [x4, x5]) fun x6 =>
  K x6
instance fnb54 : FnB Try.prog 54 := ⟨Try.call54⟩
theorem e54 : p54 Try.prog = fun K x0 x1 => denF Try.prog Try.f54 [x0, x1] K := by kernel_rfl
theorem c54 {K : Value → World → Prop} {x0 x1 : Value} {w : World} (h : p54 Try.prog K x0 x1 w) : CallsR Try.prog 54 #[x0, x1] K w := by
  rw [e54] at h
  exact denF_sound mixed Try.func54 h

-- cmp.isNaN[int]
def p55 (P : Program) (K : Value → World → Prop) (x0 : Value) : World → Prop :=
  opS P (S.binI .neq x0 x0) fun x1 =>
  K x1
instance fnb55 : FnB Try.prog 55 := ⟨Try.call55⟩
theorem e55 : p55 Try.prog = fun K x0 => denF Try.prog Try.f55 [x0] K := by kernel_rfl
theorem c55 {K : Value → World → Prop} {x0 : Value} {w : World} (h : p55 Try.prog K x0 w) : CallsR Try.prog 55 #[x0] K w := by
  rw [e55] at h
  exact denF_sound mixed Try.func55 h

-- bytes.Compare
def p56 (P : Program) (K : Value → World → Prop) (x0 : Value) (x1 : Value) : World → Prop :=
  opS P (S.cl 57 [x0, x1]) fun x2 =>
  K x2
instance fnb56 : FnB Try.prog 56 := ⟨Try.call56⟩
theorem e56 : p56 Try.prog = fun K x0 x1 => denF Try.prog Try.f56 [x0, x1] K := by kernel_rfl
theorem c56 {K : Value → World → Prop} {x0 x1 : Value} {w : World} (h : p56 Try.prog K x0 x1 w) : CallsR Try.prog 56 #[x0, x1] K w := by
  rw [e56] at h
  exact denF_sound mixed Try.func56 h

end Go.Gx.S
-- 52 55 50 54 56 36 48
end

section
/- Maps: what they hold; looking up, putting, deleting, going through. -/
namespace Go.Gx
open Go Go.Maps
variable {P : Program} {K : Value → World → Prop} {w : World}

/-- keys of a type, as values of a Lean type -/
class KeyC (P : Program) (T : TypeId) (κ : outParam Type) (kc : outParam (κ → Value)) (ok : outParam (κ → Prop)) : Prop where
  law : Keyed P T
  of : ∀ k, ok k → ∃ l, keyOf P T (kc k) = some l
  inj : ∀ a b, kc a = kc b → a = b

section
variable {κ ν : Type} {kc : κ → Value} {vc : ν → Value} {kok : κ → Prop}

structure MHolds (kc : κ → Value) (vc : ν → Value) (kok : κ → Prop) (es : List MapEntry) (clock : Nat) (l : List (κ × ν)) : Prop where
  same : es.map (fun e => (e.key, e.val)) = l.map fun p => (kc p.1, vc p.2)
  nd : (l.map Prod.fst).Nodup
  ok : ∀ p ∈ l, kok p.1
  born : (es.map (·.born)).Nodup
  lt : ∀ e ∈ es, e.born < clock

/-- a map, in the order in which its keys came -/
def MapR (kc : κ → Value) (vc : ν → Value) (kok : κ → Prop) (w : World) (m : Nat) (l : List (κ × ν)) : Prop :=
  ∃ es clock, w.heap[m]? = some (.map es clock) ∧ MHolds kc vc kok es.toList clock l

theorem MapR.fr {fp : Nat → Prop} {w w' : World} {m : Nat} {l : List (κ × ν)} (h : MapR kc vc kok w m l) (hf : Fr fp w w') (hn : ¬ fp m) : MapR kc vc kok w' m l := by
  obtain ⟨es, clock, hb, hh⟩ := h
  exact ⟨es, clock, hf.heap hb hn, hh⟩
theorem MapR.lt {m : Nat} {l : List (κ × ν)} (h : MapR kc vc kok w m l) : m < w.heap.size := by
  obtain ⟨es, clock, hb, hh⟩ := h
  exact lt_of_heap hb
theorem MapR.drew {m : Nat} {l : List (κ × ν)} (h : MapR kc vc kok w m l) : MapR kc vc kok w.drew m l := h

theorem MHolds.len {es : List MapEntry} {clock : Nat} {l : List (κ × ν)} (h : MHolds kc vc kok es clock l) : es.length = l.length := by
  have := congrArg List.length h.same
  simpa using this
theorem MHolds.at {es : List MapEntry} {clock : Nat} {l : List (κ × ν)} (h : MHolds kc vc kok es clock l) {j : Nat} {e : MapEntry} (he : es[j]? = some e) : ∃ p, l[j]? = some p ∧ e.key = kc p.1 ∧ e.val = vc p.2 := by
  have := congrArg (fun l => l[j]?) h.same
  simp only [List.getElem?_map, he, Option.map_some] at this
  cases hl : l[j]? with
  | none => rw [hl] at this; cases this
  | some p =>
    rw [hl, Option.map_some, Option.some.injEq, Prod.mk.injEq] at this
    exact ⟨p, rfl, this.1, this.2⟩
theorem MHolds.mem {es : List MapEntry} {clock : Nat} {l : List (κ × ν)} (h : MHolds kc vc kok es clock l) {e : MapEntry} (he : e ∈ es) : ∃ p ∈ l, e.key = kc p.1 ∧ e.val = vc p.2 := by
  obtain ⟨j, hj⟩ := List.mem_iff_getElem?.1 he
  obtain ⟨p, hp, h1, h2⟩ := h.at hj
  exact ⟨p, List.mem_of_getElem? hp, h1, h2⟩

variable [DecidableEq κ]

/-- what a key has -/
def getL {κ ν : Type} [DecidableEq κ] : List (κ × ν) → κ → Option ν
  | [], _ => none
  | q :: l, k => match @BEq.beq κ instBEqOfDecidableEq k q.1 with
    | true => some q.2
    | false => getL l k

theorem lookup_of_mem : ∀ {l : List (κ × ν)}, (l.map Prod.fst).Nodup → ∀ {p : κ × ν}, p ∈ l → getL l p.1 = some p.2
  | [], _, _, h => by cases h
  | q :: l, hn, p, h => by
    rw [List.map_cons, List.nodup_cons] at hn
    rcases List.mem_cons.1 h with rfl | h
    · simp [getL]
    · have hne : p.1 ≠ q.1 := fun e => hn.1 (e ▸ List.mem_map_of_mem h)
      have : (p.1 == q.1) = false := by simpa using hne
      rw [getL, this]
      exact lookup_of_mem hn.2 h
theorem lookup_none : ∀ {l : List (κ × ν)} {k : κ}, (∀ p ∈ l, p.1 ≠ k) → getL l k = none
  | [], _, _ => rfl
  | q :: l, k, h => by
    have hne : (k == q.1) = false := by simpa using (h q (List.mem_cons_self ..)).symm
    rw [getL, hne]
    exact lookup_none fun p hp => h p (List.mem_cons_of_mem _ hp)
theorem lookup_some_mem : ∀ {l : List (κ × ν)} {k : κ} {v : ν}, getL l k = some v → (k, v) ∈ l
  | [], _, _, h => by cases h
  | q :: l, k, v, h => by
    rw [getL] at h
    split at h
    · rename_i he
      rw [beq_iff_eq] at he
      cases h
      subst he
      exact List.mem_cons_self ..
    · exact List.mem_cons_of_mem _ (lookup_some_mem h)

/-- a value is put in -/
def setL (l : List (κ × ν)) (k : κ) (v : ν) : List (κ × ν) := if (getL l k).isSome then l.map fun p => if p.1 = k then (k, v) else p else l ++ [(k, v)]
def delL (l : List (κ × ν)) (k : κ) : List (κ × ν) := l.filter fun p => decide (p.1 ≠ k)

theorem lookup_setL (l : List (κ × ν)) (k : κ) (v : ν) (k' : κ) : getL (setL l k v) k' = if k' = k then some v else getL l k' := by
  unfold setL
  split
  · rename_i hs
    by_cases e : k' = k
    · subst e
      rw [if_pos rfl]
      obtain ⟨u, hu⟩ := Option.isSome_iff_exists.1 hs
      clear hs
      induction l with
      | nil => cases hu
      | cons q l ih =>
        rw [getL] at hu
        rw [List.map_cons]
        by_cases hq : q.1 = k'
        · rw [if_pos hq]; simp [getL]
        · have : (k' == q.1) = false := by simpa using fun h => hq h.symm
          rw [this] at hu
          rw [if_neg hq, getL, this]
          exact ih hu
    · rw [if_neg e]
      clear hs
      induction l with
      | nil => rfl
      | cons q l ih =>
        rw [List.map_cons]
        by_cases hq : q.1 = k
        · have h1 : (k' == k) = false := by simpa using e
          have h2 : (k' == q.1) = false := by rw [hq]; exact h1
          rw [if_pos hq, getL, h1, getL, h2]
          exact ih
        · rw [if_neg hq, getL, getL]
          cases (k' == q.1)
          · exact ih
          · rfl
  · rename_i hs
    have hn : getL l k = none := by
      cases hl : getL l k with
      | none => rfl
      | some v => rw [hl] at hs; exact absurd rfl hs
    clear hs
    induction l with
    | nil =>
      by_cases e : k' = k
      · subst e; simp [getL]
      · have : (k' == k) = false := by simpa using e
        simp [getL, this, e]
    | cons q l ih =>
      rw [getL] at hn
      rw [List.cons_append, getL, getL]
      cases hq : (k == q.1) with
      | true => rw [hq] at hn; cases hn
      | false =>
        rw [hq] at hn
        cases h1 : (k' == q.1) with
        | true =>
          have : k' ≠ k := fun e => by
            subst e; rw [hq] at h1; cases h1
          rw [if_neg this]
        | false => exact ih hn

theorem lookup_delL (l : List (κ × ν)) (k k' : κ) : getL (delL l k) k' = if k' = k then none else getL l k' := by
  unfold delL
  induction l with
  | nil => simp [getL]
  | cons q l ih =>
    rw [List.filter_cons]
    by_cases hq : q.1 = k
    · rw [if_neg (by simp [hq]), ih]
      by_cases e : k' = k
      · rw [if_pos e, if_pos e]
      · have : (k' == q.1) = false := by rw [hq]; simpa using e
        rw [if_neg e, if_neg e, getL, this]
    · rw [if_pos (by simpa using hq), getL, getL]
      cases h1 : (k' == q.1) with
      | true =>
        have : k' ≠ k := fun e => hq (by rw [← e]; exact (beq_iff_eq.1 h1).symm)
        rw [if_neg this]
      | false => exact ih

theorem setL_keys (l : List (κ × ν)) (k : κ) (v : ν) : (setL l k v).map Prod.fst = if (getL l k).isSome then l.map Prod.fst else l.map Prod.fst ++ [k] := by
  unfold setL
  split
  · rw [List.map_map]
    apply List.map_congr_left
    intro p _
    simp only [Function.comp]
    split
    · rename_i h; exact h.symm
    · rfl
  · simp

theorem not_key {l : List (κ × ν)} {k : κ} (h : getL l k = none) : ∀ p ∈ l, p.1 ≠ k := by
  intro p hp e
  subst e
  induction l with
  | nil => cases hp
  | cons q l ih =>
    rw [getL] at h
    split at h
    · cases h
    · rename_i hq
      rcases List.mem_cons.1 hp with rfl | hp
      · simp at hq
      · exact ih hp h

/-! ### What is found -/

theorem run_getObj {b : Nat} {o : Obj} (h : w.heap[b]? = some o) (ho : ∀ c T fz, o ≠ .cells c T fz) : (getObj b).run P w = .ok o w := by
  cases o with
  | cells c T fz => exact absurd rfl (ho c T fz)
  | _ => simp [getObj, Sem.run, h]
theorem run_getMap {b : Nat} {es : Array MapEntry} {c : Nat} (h : w.heap[b]? = some (.map es c)) : (getObj b).run P w = .ok (.map es c) w := run_getObj h (by intro c T fz e; cases e)

theorem run_find {KT : TypeId} [hK : KeyC P KT κ kc kok] {es : List MapEntry} {clock : Nat} {l : List (κ × ν)} (h : MHolds kc vc kok es clock l) {k : κ} (hk : kok k) :
    (getL l k = none ∧ (Instr.findKey KT (kc k) es).run P w = .ok none w ∧ ∀ p ∈ l, p.1 ≠ k) ∨
    ∃ j p, l[j]? = some p ∧ p.1 = k ∧ getL l k = some p.2 ∧ (Instr.findKey KT (kc k) es).run P w = .ok (some (j, vc p.2)) w := by
  obtain ⟨lx, hlx⟩ := hK.of k hk
  rcases hK.law.find w hlx es (fun e he => by
    obtain ⟨p, hp, h1, h2⟩ := h.mem he
    rw [h1]; exact hK.of _ (h.ok p hp)) with ⟨h1, h2⟩ | ⟨j, e, h1, h2, h3⟩
  · have hne : ∀ p ∈ l, p.1 ≠ k := by
      intro p hp e
      obtain ⟨j, hj⟩ := List.mem_iff_getElem?.1 hp
      have hlt : j < es.length := by rw [h.len]; exact (List.getElem?_eq_some_iff.1 hj).1
      obtain ⟨p', hp', h3, h4⟩ := h.at (List.getElem?_eq_getElem hlt)
      rw [hj] at hp'
      cases hp'
      exact h2 _ (List.getElem_mem hlt) (by rw [h3, e])
    exact .inl ⟨lookup_none hne, h1, hne⟩
  · obtain ⟨p, hp, h4, h5⟩ := h.at h2
    have hpk : p.1 = k := hK.inj _ _ (by rw [← h4, h3])
    refine .inr ⟨j, p, hp, hpk, ?_, by rw [h1, h5]⟩
    rw [← hpk]
    exact lookup_of_mem h.nd (List.mem_of_getElem? hp)

/-- what is told of a key -/
def got (vc : ν → Value) (z : Value) : Option ν → Value
  | some v => vc v
  | none => z

omit [DecidableEq κ] in
theorem run_check {KT : TypeId} [hK : KeyC P KT κ kc kok] {k : κ} (hk : kok k) (em : Bool) : (Instr.checkKey em 10000 KT (kc k)).run P w = .ok () w := by
  obtain ⟨lx, hlx⟩ := hK.of k hk
  exact hK.law.check w em hlx

theorem s_lk {T KT VT : TypeId} {z : Value} [hT : MpT P T KT VT] [hK : KeyC P KT κ kc kok] [hz : ZV P VT z] {m : Nat} {l : List (κ × ν)} {k : κ} {ok : Bool} (h : MapR kc vc kok w m l) (hk : kok k)
    (hh : K (if ok then .tuple #[got vc z (getL l k), .bool (getL l k).isSome] else got vc z (getL l k)) w) : opS P (S.lk T (.map (some m)) (kc k) ok) K w := by
  obtain ⟨es, clock, hb, hh'⟩ := h
  unfold S.lk
  rw [opS_bind]
  unfold Instr.lookup
  rw [Sem.run_bind, run_underlying_of hT.und, Result.andThen_ok]
  simp only []
  rw [Sem.run_bind, run_getMap hb, Result.andThen_ok]
  simp only [pure_bind]
  rw [Sem.run_bind, run_check hk, Result.andThen_ok]
  rcases run_find (P := P) (w := w) (KT := KT) hh' hk with ⟨h1, h2, _⟩ | ⟨j, p, h1, h2, h3, h4⟩
  · rw [h1] at hh
    simp only [Sem.run_bind, h2, hz.zero w, Result.andThen_ok, Sem.run_pure]
    cases ok <;> exact hh
  · rw [h3] at hh
    simp only [Sem.run_bind, h4, Result.andThen_ok, Sem.run_pure]
    cases ok <;> exact hh

/-! ### What is put in -/

theorem modify_map (es : Array MapEntry) (j : Nat) (f : MapEntry → MapEntry) : (es.modify j f).toList = es.toList.mapIdx fun i e => if i = j then f e else e := by
  apply List.ext_getElem?
  intro i
  rw [List.getElem?_mapIdx, Array.getElem?_toList, Array.getElem?_toList, Array.getElem?_modify]
  by_cases h : j = i
  · subst h; simp
  · have : ¬ i = j := fun e => h e.symm
    simp [h, this]

theorem MHolds.put {es : Array MapEntry} {clock : Nat} {l : List (κ × ν)} (h : MHolds kc vc kok es.toList clock l) {k : κ} {v : ν} {j : Nat} {p : κ × ν} (hj : l[j]? = some p) (hp : p.1 = k) :
    MHolds kc vc kok (es.modify j fun e => { e with key := kc k, val := vc v }).toList clock (setL l k v) := by
  have hl : getL l k = some p.2 := by rw [← hp]; exact lookup_of_mem h.nd (List.mem_of_getElem? hj)
  have hjl := (List.getElem?_eq_some_iff.1 hj).1
  have hset : setL l k v = l.mapIdx fun i q => if i = j then (k, v) else q := by
    unfold setL
    rw [if_pos (by rw [hl]; rfl)]
    apply List.ext_getElem?
    intro i
    rw [List.getElem?_map, List.getElem?_mapIdx]
    cases hq : l[i]? with
    | none => rfl
    | some q =>
      simp only [Option.map_some, Option.some.injEq]
      by_cases e : i = j
      · subst e
        rw [hj] at hq; cases hq
        rw [if_pos hp, if_pos rfl]
      · rw [if_neg e, if_neg]
        intro hqk
        have hi := (List.getElem?_eq_some_iff.1 hq).1
        have h1 : (l.map Prod.fst)[i]'(by simpa using hi) = (l.map Prod.fst)[j]'(by simpa using hjl) := by
          have a1 := (List.getElem?_eq_some_iff.1 hq).2
          have a2 := (List.getElem?_eq_some_iff.1 hj).2
          simp only [List.getElem_map]
          rw [a1, a2, hqk, hp]
        exact e ((List.getElem_inj h.nd).1 h1)
  refine ⟨?_, ?_, ?_, ?_, ?_⟩
  · rw [modify_map, hset]
    apply List.ext_getElem?
    intro i
    have := congrArg (fun l => l[i]?) h.same
    simp only [List.getElem?_map, List.getElem?_mapIdx] at this ⊢
    cases h1 : es.toList[i]? <;> cases h2 : l[i]? <;> rw [h1, h2] at this
    · rfl
    · cases this
    · cases this
    · simp only [Option.map_some, Option.some.injEq] at this ⊢
      split
      · rfl
      · exact this
  · rw [setL_keys, if_pos (by rw [hl]; rfl)]; exact h.nd
  · intro q hq
    rw [hset, List.mem_mapIdx] at hq
    obtain ⟨i, hi, rfl⟩ := hq
    split
    · rw [← hp]; exact h.ok p (List.mem_of_getElem? hj)
    · exact h.ok _ (List.getElem_mem hi)
  · rw [modify_map]
    have : (es.toList.mapIdx fun i e => if i = j then ({ e with key := kc k, val := vc v } : MapEntry) else e).map (·.born) = es.toList.map (·.born) := by
      apply List.ext_getElem?
      intro i
      simp only [List.getElem?_map, List.getElem?_mapIdx]
      cases es.toList[i]? with
      | none => rfl
      | some e => simp only [Option.map_some, Option.some.injEq]; split <;> rfl
    rw [this]; exact h.born
  · intro e he
    rw [modify_map, List.mem_mapIdx] at he
    obtain ⟨i, hi, rfl⟩ := he
    have := h.lt _ (List.getElem_mem hi)
    split <;> exact this

theorem MHolds.add {es : Array MapEntry} {clock : Nat} {l : List (κ × ν)} (h : MHolds kc vc kok es.toList clock l) {k : κ} {v : ν} (hk : kok k) (hn : ∀ p ∈ l, p.1 ≠ k) (hl : getL l k = none) :
    MHolds kc vc kok (es.push { key := kc k, val := vc v, born := clock }).toList (clock + 1) (setL l k v) := by
  have hset : setL l k v = l ++ [(k, v)] := by unfold setL; rw [if_neg (by rw [hl]; simp)]
  rw [hset, Array.toList_push]
  refine ⟨by simp [h.same], ?_, ?_, ?_, ?_⟩
  · rw [List.map_append, List.nodup_append]
    refine ⟨h.nd, by simp, ?_⟩
    intro a ha b hb
    simp at hb
    subst hb
    obtain ⟨p, hp, rfl⟩ := List.mem_map.1 ha
    exact hn p hp
  · intro p hp
    rcases List.mem_append.1 hp with hp | hp
    · exact h.ok p hp
    · simp at hp; subst hp; exact hk
  · rw [List.map_append, List.nodup_append]
    refine ⟨h.born, by simp, ?_⟩
    intro a ha b hb
    simp at hb
    subst hb
    obtain ⟨e, he, rfl⟩ := List.mem_map.1 ha
    have := h.lt e he
    omega
  · intro e he
    rcases List.mem_append.1 he with he | he
    · have := h.lt e he; omega
    · simp at he; subst he; simp

theorem s_mu {T KT VT : TypeId} [hT : MpT P T KT VT] [hK : KeyC P KT κ kc kok] {m : Nat} {l : List (κ × ν)} {k : κ} {v : ν} (h : MapR kc vc kok w m l) (hk : kok k)
    (hh : ∀ w', MapR kc vc kok w' m (setL l k v) → Fr (fun b => b = m) w w' → K undef w') : opS P (S.mu T (.map (some m)) (kc k) (vc v)) K w := by
  obtain ⟨es, clock, hb, hh'⟩ := h
  have key : ∃ es' clock', (Instr.mapUpdate T (.map (some m)) (kc k) (vc v)).run P w = .ok () (upd w m (.map es' clock')) ∧ MHolds kc vc kok es'.toList clock' (setL l k v) := by
    unfold Instr.mapUpdate
    rw [Sem.run_bind, run_underlying_of hT.und, Result.andThen_ok]
    simp only []
    rw [Sem.run_bind, run_getMap hb, Result.andThen_ok]
    simp only []
    rw [Sem.run_bind, run_check hk, Result.andThen_ok]
    rcases run_find (P := P) (w := w) (KT := KT) hh' hk with ⟨h1, h2, h3⟩ | ⟨j, p, h1, h2, h3, h4⟩
    · rw [Sem.run_bind, h2, Result.andThen_ok]
      simp only []
      exact ⟨_, _, run_setObj hb (by intro c T fz e; cases e), hh'.add hk h3 h1⟩
    · rw [Sem.run_bind, h4, Result.andThen_ok]
      simp only []
      have hje : ∃ e, es[j]? = some e ∧ e.key = kc k := by
        have hlt : j < es.size := by
          have := (List.getElem?_eq_some_iff.1 h1).1
          rw [← hh'.len, Array.length_toList] at this; exact this
        refine ⟨es[j], Array.getElem?_eq_getElem hlt, ?_⟩
        obtain ⟨q, hq, hk1, _⟩ := hh'.at (j := j) (e := es[j]) (by rw [Array.getElem?_toList]; exact Array.getElem?_eq_getElem hlt)
        rw [h1] at hq; cases hq
        rw [hk1, h2]
      obtain ⟨e, he, hke⟩ := hje
      obtain ⟨lx, hlx⟩ := hK.of k hk
      have hst := hK.law.stays w hlx
      rw [he]
      simp only [Option.map_some, Option.getD_some, hke]
      rw [Sem.run_bind, hst, Result.andThen_ok]
      exact ⟨_, _, run_setObj hb (by intro c T fz e; cases e), hh'.put h1 h2⟩
  obtain ⟨es', clock', hr, hM⟩ := key
  unfold S.mu opS
  rw [Sem.run_bind, hr, Result.andThen_ok]
  exact hh _ ⟨es', clock', heap_upd_same (by rw [hb]; rfl), hM⟩ (Fr.upd' hb rfl _ rfl rfl)

/-! ### What is taken out -/

omit [DecidableEq κ] in
theorem map_eraseIdx' {α β : Type} (f : α → β) : ∀ (l : List α) (i : Nat), (l.eraseIdx i).map f = (l.map f).eraseIdx i
  | [], _ => rfl
  | _ :: _, 0 => rfl
  | a :: l, i + 1 => by simp [map_eraseIdx' f l i]

theorem MHolds.del {es : Array MapEntry} {clock : Nat} {l : List (κ × ν)} (h : MHolds kc vc kok es.toList clock l) {k : κ} {j : Nat} {p : κ × ν} (hj : l[j]? = some p) (hp : p.1 = k) :
    MHolds kc vc kok (es.eraseIdxIfInBounds j).toList clock (delL l k) := by
  have hjl := (List.getElem?_eq_some_iff.1 hj).1
  have hje : j < es.size := by rw [← Array.length_toList, h.len]; exact hjl
  have hd : delL l k = l.eraseIdx j := by
    unfold delL
    have hnd := h.nd
    clear h hje hjl
    induction l generalizing j with
    | nil => cases hj
    | cons q l ih =>
      rw [List.map_cons, List.nodup_cons] at hnd
      cases j with
      | zero =>
        cases hj
        rw [List.filter_cons, if_neg (by simp [hp]), List.eraseIdx_cons_zero]
        apply List.filter_eq_self.2
        intro a ha
        simp only [decide_eq_true_eq]
        intro e
        exact hnd.1 (by rw [hp, ← e]; exact List.mem_map_of_mem ha)
      | succ j =>
        rw [List.getElem?_cons_succ] at hj
        have hne : q.1 ≠ k := fun e => hnd.1 (by rw [e, ← hp]; exact List.mem_map_of_mem (List.mem_of_getElem? hj))
        rw [List.filter_cons, if_pos (by simpa using hne), List.eraseIdx_cons_succ, ih hj hnd.2]
  have he : (es.eraseIdxIfInBounds j).toList = es.toList.eraseIdx j := by
    unfold Array.eraseIdxIfInBounds
    rw [dif_pos hje, Array.toList_eraseIdx]
  rw [hd, he]
  have sub := List.eraseIdx_sublist l j
  have sub2 := List.eraseIdx_sublist es.toList j
  refine ⟨?_, ?_, fun q hq => h.ok q (sub.subset hq), ?_, fun e hm => h.lt e (sub2.subset hm)⟩
  · rw [map_eraseIdx', map_eraseIdx', h.same]
  · exact h.nd.sublist (sub.map _)
  · exact h.born.sublist (sub2.map _)

theorem delL_none {l : List (κ × ν)} {k : κ} (h : ∀ p ∈ l, p.1 ≠ k) : delL l k = l :=
  List.filter_eq_self.2 fun p hp => by simpa using h p hp

theorem s_del {T KT VT KT' ty : TypeId} [hT : MpT P T KT VT] [hK : KeyC P KT κ kc kok] {m : Nat} {l : List (κ × ν)} {k : κ} (h : MapR kc vc kok w m l) (hk : kok k)
    (hh : ∀ w', MapR kc vc kok w' m (delL l k) → Fr (fun b => b = m) w w' → K (.tuple #[]) w') : opS P (S.bi .delete #[T, KT'] ty [.map (some m), kc k]) K w := by
  obtain ⟨es, clock, hb, hh'⟩ := h
  have key : ∃ es' clock', (Builtin.delete_ #[T, KT'] ty #[.map (some m), kc k]).run P w = .ok (.tuple #[]) (upd w m (.map es' clock')) ∧ MHolds kc vc kok es'.toList clock' (delL l k) := by
    unfold Builtin.delete_
    simp only [List.getElem?_toArray, List.getElem?_cons_zero, List.getElem?_cons_succ]
    rw [Sem.run_bind, run_underlying_of hT.und, Result.andThen_ok]
    simp only []
    rw [Sem.run_bind, run_getMap hb, Result.andThen_ok]
    simp only []
    rw [Sem.run_bind, run_check hk, Result.andThen_ok]
    rcases run_find (P := P) (w := w) (KT := KT) hh' hk with ⟨h1, h2, h3⟩ | ⟨j, p, h1, h2, h3, h4⟩
    · rw [Sem.run_bind, h2, Result.andThen_ok]
      simp only []
      rw [Sem.run_bind, run_setObj hb (by intro c T fz e; cases e), Result.andThen_ok]
      exact ⟨_, _, rfl, by rw [delL_none h3]; exact hh'⟩
    · rw [Sem.run_bind, h4, Result.andThen_ok]
      simp only []
      rw [Sem.run_bind, run_setObj hb (by intro c T fz e; cases e), Result.andThen_ok]
      exact ⟨_, _, rfl, hh'.del h1 h2⟩
  obtain ⟨es', clock', hr, hM⟩ := key
  show opS P (do pure (Next.value (← Builtin.delete_ #[T, KT'] ty #[.map (some m), kc k]))) K w
  rw [opS_bind, hr]
  exact hh _ ⟨es', clock', heap_upd_same (by rw [hb]; rfl), hM⟩ (Fr.upd' hb rfl _ rfl rfl)

omit [DecidableEq κ] in
theorem s_mkm {T : TypeId} (hh : ∀ w', MapR kc vc kok w' w.heap.size ([] : List (κ × ν)) → Fr none_ w w' → w'.heap.size = w.heap.size + 1 → K (.map (some w.heap.size)) w') : opS P (S.mkm T none) K w := by
  have : (Instr.makeMap T none).run P w = .ok (.map (some w.heap.size)) (w.alloc (.map #[] 0)) := rfl
  unfold S.mkm
  rw [opS_bind, this]
  exact hh _ ⟨#[], 0, heap_alloc_new _ _, rfl, List.nodup_nil, by simp, List.nodup_nil, by simp⟩ (Fr.alloc _ _ rfl) (size_alloc _ _)

/-! ### What is gone through -/

/-- an iterator over a map: what is left -/
def IterR (kc : κ → Value) (vc : ν → Value) (kok : κ → Prop) (w : World) (it m : Nat) (l todo : List (κ × ν)) : Prop :=
  it ≠ m ∧ ∃ es clock seen, w.heap[m]? = some (.map es clock) ∧ MHolds kc vc kok es.toList clock l ∧ w.heap[it]? = some (.mapIter (some m) clock seen clock) ∧
    (leftOf es seen).toList.map (fun e => (e.key, e.val)) = todo.map fun p => (kc p.1, vc p.2)

omit [DecidableEq κ] in
theorem IterR.map {it m : Nat} {l todo : List (κ × ν)} (h : IterR kc vc kok w it m l todo) : MapR kc vc kok w m l := by
  obtain ⟨_, es, clock, seen, h1, h2, _⟩ := h
  exact ⟨es, clock, h1, h2⟩
omit [DecidableEq κ] in
theorem IterR.fr {fp : Nat → Prop} {w w' : World} {it m : Nat} {l todo : List (κ × ν)} (h : IterR kc vc kok w it m l todo) (hf : Fr fp w w') (h1 : ¬ fp it) (h2 : ¬ fp m) : IterR kc vc kok w' it m l todo := by
  obtain ⟨hne, es, clock, seen, a1, a2, a3, a4⟩ := h
  exact ⟨hne, es, clock, seen, hf.heap a1 h2, a2, hf.heap a3 h1, a4⟩
omit [DecidableEq κ] in
theorem IterR.ne {it m : Nat} {l todo : List (κ × ν)} (h : IterR kc vc kok w it m l todo) : it ≠ m := h.1
omit [DecidableEq κ] in
theorem IterR.lt {it m : Nat} {l todo : List (κ × ν)} (h : IterR kc vc kok w it m l todo) : it < w.heap.size := by
  obtain ⟨hne, es, clock, seen, a1, a2, a3, a4⟩ := h
  exact lt_of_heap a3

omit [DecidableEq κ] in
theorem s_rng {T KT VT : TypeId} [hT : MpT P T KT VT] {m : Nat} {l : List (κ × ν)} (h : MapR kc vc kok w m l)
    (hh : ∀ w', IterR kc vc kok w' w.heap.size m l l → Fr none_ w w' → w'.heap.size = w.heap.size + 1 → K (pt w.heap.size 0) w') : opS P (S.rng T (.map (some m))) K w := by
  obtain ⟨es, clock, hb, hM⟩ := h
  have hr : (Instr.range T (.map (some m))).run P w = .ok (pt w.heap.size 0) (w.alloc (.mapIter (some m) clock #[] clock)) := by
    unfold Instr.range
    rw [Sem.run_bind, run_underlying_of hT.und, Result.andThen_ok]
    simp only []
    rw [Sem.run_bind, run_getMap hb, Result.andThen_ok]
    rfl
  unfold S.rng
  rw [opS_bind, hr]
  have hlt := lt_of_heap hb
  refine hh _ ⟨by omega, es, clock, #[], ?_, hM, heap_alloc_new _ _, ?_⟩ (Fr.alloc _ _ rfl) (size_alloc _ _)
  · rw [heap_alloc_lt hlt]; exact hb
  · rw [← hM.same]
    have : leftOf es #[] = es := by
      unfold leftOf
      simp
    rw [this]

omit [DecidableEq κ] in
theorem filter_seen {l : List MapEntry} {seen : Array Nat} {e : MapEntry} (hn : (l.map (·.born)).Nodup) : ∀ {i : Nat}, (l.filter fun x => !seen.contains x.born)[i]? = some e →
    (l.filter fun x => !(seen.push e.born).contains x.born) = (l.filter fun x => !seen.contains x.born).eraseIdx i := by
  induction l with
  | nil => intro i h; cases h
  | cons q l ih =>
    intro i h
    rw [List.map_cons, List.nodup_cons] at hn
    by_cases hq : q.born ∈ seen
    · rw [List.filter_cons, if_neg (by simp [hq])] at h
      rw [List.filter_cons, if_neg (by simp [hq]), List.filter_cons, if_neg (by simp [hq])]
      exact ih hn.2 h
    · rw [List.filter_cons, if_pos (by simp [hq])] at h
      cases i with
      | zero =>
        cases h
        rw [List.filter_cons, if_neg (by simp), List.filter_cons, if_pos (by simp [hq]), List.eraseIdx_cons_zero]
        apply List.filter_congr
        intro x hx
        have : x.born ≠ e.born := fun h2 => hn.1 (by rw [← h2]; exact List.mem_map_of_mem hx)
        simp [this]
      | succ i =>
        rw [List.getElem?_cons_succ] at h
        have hmem : e ∈ l := (List.mem_filter.1 (List.mem_of_getElem? h)).1
        have hne : q.born ≠ e.born := fun he => hn.1 (by rw [he]; exact List.mem_map_of_mem hmem)
        rw [List.filter_cons, if_pos (by simp [hq, hne]), ih hn.2 h, List.filter_cons, if_pos (by simp [hq]), List.eraseIdx_cons_succ]

omit [DecidableEq κ] in
/-- a step: nothing is left, or one that is left comes out -/
theorem s_nxt {ty it m : Nat} {l todo : List (κ × ν)} (h : IterR kc vc kok w it m l todo) (h0 : todo = [] → K (.tuple #[.bool false]) w)
    (h1 : ∀ i p w', todo[i]? = some p → IterR kc vc kok w' it m l (todo.eraseIdx i) → Fr (fun b => b = it) w w' → w'.heap.size = w.heap.size →
      (∀ w2, Fr (fun b => b ≠ it ∧ b ≠ m) w' w2 → (Instr.entry (pt it 0)).run P w2 = .ok (.tuple #[kc p.1, vc p.2]) w2) → K (.tuple #[.bool true, kc p.1, vc p.2]) w') :
    opS P (S.nxt (pt it 0) false ty) K w := by
  obtain ⟨hne, es, clock, seen, a1, a2, a3, a4⟩ := h
  unfold S.nxt
  rw [opS_bind]
  rcases run_next_at (P := P) w ty it m clock clock seen es clock a3 a1 (fun x hx => a2.lt x hx) (Nat.le_refl _) with ⟨g1, g2⟩ | ⟨e, he, w1, hw1, hr⟩
  · rw [show (pt it 0) = .pointer (some ⟨it, 0, none⟩) from rfl, g2]
    refine h0 ?_
    have : (leftOf es seen).toList = [] := List.eq_nil_of_length_eq_zero (by rw [Array.length_toList]; exact g1)
    rw [this] at a4
    exact List.map_eq_nil_iff.1 a4.symm
  · rw [show (pt it 0) = .pointer (some ⟨it, 0, none⟩) from rfl, hr]
    obtain ⟨i, hi⟩ := List.mem_iff_getElem?.1 he
    have hp : ∃ p, todo[i]? = some p ∧ e.key = kc p.1 ∧ e.val = vc p.2 := by
      have := congrArg (fun l => l[i]?) a4
      simp only [List.getElem?_map, hi, Option.map_some] at this
      cases hl : todo[i]? with
      | none => rw [hl] at this; cases this
      | some p =>
        rw [hl, Option.map_some, Option.some.injEq, Prod.mk.injEq] at this
        exact ⟨p, rfl, this.1, this.2⟩
    obtain ⟨p, hp, hk, hv⟩ := hp
    have hheap : w1.heap = w.heap := by rcases hw1 with rfl | rfl <;> rfl
    have hset : ChangeMaps.setBlock w1 it (.mapIter (some m) clock (seen.push e.born) clock) = upd w1 it (.mapIter (some m) clock (seen.push e.born) clock) := rfl
    rw [hset, hk, hv]
    have b1 : (upd w1 it (.mapIter (some m) clock (seen.push e.born) clock)).heap[m]? = some (.map es clock) := by rw [heap_upd_ne hne, hheap]; exact a1
    have b3 : (upd w1 it (.mapIter (some m) clock (seen.push e.born) clock)).heap[it]? = some (.mapIter (some m) clock (seen.push e.born) clock) := heap_upd_same (by rw [hheap, a3]; rfl)
    have hem : e ∈ es.toList := by
      unfold leftOf at he
      rw [Array.toList_filter] at he
      exact (List.mem_filter.1 he).1
    refine h1 i p _ hp ⟨hne, es, clock, seen.push e.born, b1, a2, b3, ?_⟩ ?_ ?_ ?_
    · have : (leftOf es (seen.push e.born)).toList = (leftOf es seen).toList.eraseIdx i := by
        unfold leftOf at hi ⊢
        rw [Array.toList_filter] at hi ⊢
        rw [Array.toList_filter]
        exact filter_seen a2.born hi
      rw [this, map_eraseIdx', map_eraseIdx', a4]
    · have hF : Fr (fun b => b = it) w w1 := by
        rcases hw1 with rfl | rfl
        · exact Fr.refl _ _
        · exact Fr.drew _
      exact hF.trans (Fr.upd' (x := .mapIter (some m) clock seen clock) (by rw [hheap]; exact a3) rfl _ rfl rfl)
    · rw [size_upd, hheap]
    · intro w2 hF
      have := run_entry_at (P := P) w2 it m clock seen es clock e (hF.heap b3 (fun h => h.1 rfl)) (hF.heap b1 (fun h => h.2 rfl)) hem a2.born
      rw [← hk, ← hv]
      exact this

theorem s_ent {it : Nat} {v : Value} (h : (Instr.entry (pt it 0)).run P w = .ok v w) (hh : K v w) : opS P (S.ent (pt it 0)) K w := by
  unfold S.ent
  rw [opS_bind, h]
  exact hh

end
end Go.Gx
end

section
/- Bytes, texts of bytes, frames. -/
namespace Go.Gx
open Go
variable {P : Program} {K : Value → World → Prop} {w : World}

/-! ### Bytes -/

def cell1 (n : Int) : List Value := [u8 n]
/-- bytes that can be read -/
def ByR (w : World) (v : Value) (bs : List Int) : Prop := RdE 1 w v (bs.map cell1) ∧ ∀ b ∈ bs, isB b
theorem ByR.fr {fp : Nat → Prop} {w w' : World} {v : Value} {bs : List Int} (h : ByR w v bs) (hf : Fr fp w w') (hn : ∀ b, blkS v = some b → ¬ fp b) : ByR w' v bs := ⟨h.1.fr hf hn, h.2⟩
theorem ByR.form {v : Value} {bs : List Int} (h : ByR w v bs) : ∃ a c, v = .slice a bs.length c := by
  obtain ⟨a, c, rfl⟩ := h.1.form
  exact ⟨a, c, by simp⟩
theorem ByR.nil (w : World) (a : Option Addr) (c : Nat) : ByR w (.slice a 0 c) [] := ⟨⟨.inl ⟨⟨_, _, rfl⟩, rfl, rfl⟩, by simp⟩, by simp⟩
theorem flat_cell1 (bs : List Int) : (bs.map cell1).flatten = bs.map u8 := by
  induction bs with
  | nil => rfl
  | cons b bs ih => simp [cell1, ih]
theorem flat_cell1_one (bs : List Int) : (bs.map cell1).flatten.all S.oneCell = true := by
  rw [flat_cell1, List.all_map, List.all_eq_true]
  intro x _
  rfl

/-- bytes as_ a text -/
def strOf (bs : List Int) : ByteArray := ⟨(bs.map fun n => UInt8.ofNat n.toNat).toArray⟩

theorem byte_inj {a b : Int} (ha : isB a) (hb : isB b) (h : UInt8.ofNat a.toNat = UInt8.ofNat b.toNat) : a = b := by
  have := congrArg UInt8.toNat h
  simp only [UInt8.toNat_ofNat'] at this
  unfold isB at ha hb
  omega

theorem strOf_inj : ∀ {a b : List Int}, (∀ x ∈ a, isB x) → (∀ x ∈ b, isB x) → ((strOf a).data.toList = (strOf b).data.toList ↔ a = b)
  | [], [], _, _ => by simp [strOf]
  | [], b :: bs, _, _ => by simp [strOf]
  | a :: as_, [], _, _ => by simp [strOf]
  | a :: as_, b :: bs, ha, hb => by
    have ih := @strOf_inj as_ bs (fun x hx => ha x (List.mem_cons_of_mem _ hx)) (fun x hx => hb x (List.mem_cons_of_mem _ hx))
    simp only [strOf] at ih ⊢
    simp only [List.map_cons, List.cons.injEq]
    constructor
    · rintro ⟨h1, h2⟩
      exact ⟨byte_inj (ha a (List.mem_cons_self ..)) (hb b (List.mem_cons_self ..)) h1, ih.1 h2⟩
    · rintro ⟨rfl, rfl⟩
      exact ⟨rfl, rfl⟩

class StrT (P : Program) (T : TypeId) : Prop where
  und : P.underlying T = some .string
class ByT (P : Program) (T : TypeId) : Prop where
  und : ∃ e, P.underlying T = some (.slice e) ∧ P.underlying e = some (.int .u8)

theorem push_strOf (bs cs : List Int) : cs.foldl (fun (s : ByteArray) n => s.push (UInt8.ofNat n.toNat)) (strOf bs) = strOf (bs ++ cs) := by
  induction cs generalizing bs with
  | nil => simp
  | cons c cs ih =>
    rw [List.foldl_cons]
    have : (strOf bs).push (UInt8.ofNat c.toNat) = strOf (bs ++ [c]) := by
      simp [strOf, ByteArray.push]
    rw [this, ih]
    simp

theorem run_b2s {v : Value} {bs : List Int} (h : ByR w v bs) : (Conv.bytesToString v).run P w = .ok (.string (strOf bs)) w := by
  obtain ⟨a, c, rfl⟩ := h.form
  have hf : (Builtin.firstCells 1 bs.length (.slice a bs.length c)).run P w = .ok (bs.map u8).toArray w := by
    have h1 := h.1.1
    rw [flat_cell1, List.length_map] at h1
    exact run_firstCells h1
  cases a with
  | none =>
    have hn : bs = [] := by
      rcases h.1.1 with ⟨_, h2, _⟩ | ⟨b, o, c', cs, T, fz, hv, _⟩
      · exact List.map_eq_nil_iff.1 (List.eq_nil_of_length_eq_zero h2)
      · cases hv
    subst hn
    rfl
  | some a =>
    unfold Conv.bytesToString
    have hl : (loadCells a bs.length).run P w = .ok (bs.map u8).toArray w := by
      have e : Builtin.firstCells 1 bs.length (.slice (some a) bs.length c) = loadCells a (bs.length * 1) := rfl
      rw [e, Nat.mul_one] at hf
      exact hf
    simp only []
    rw [Sem.run_bind, hl, Result.andThen_ok]
    have key : ∀ (F : Value → ByteArray → Sem (ForInStep ByteArray)), (∀ n r, F (u8 n) r = pure (ForInStep.yield (r.push (UInt8.ofNat n.toNat)))) →
        ∀ (cs ds : List Int), (forIn (cs.map u8) (strOf ds) F).run P w = .ok (strOf (ds ++ cs)) w := by
      intro F hF cs
      induction cs with
      | nil => intro ds; simp
      | cons c cs ih =>
        intro ds
        rw [List.map_cons, List.forIn_cons, hF]
        simp only [pure_bind]
        have : (strOf ds).push (UInt8.ofNat c.toNat) = strOf (ds ++ [c]) := by simp [strOf, ByteArray.push]
        rw [this]
        have := ih (ds ++ [c])
        rw [List.append_assoc] at this
        exact this
    rw [← Array.forIn_toList, Sem.run_bind]
    have e0 : ByteArray.empty = strOf [] := rfl
    rw [e0, key _ (fun n r => rfl) bs []]
    rfl

theorem s_b2s {T S' : TypeId} [hT : ByT P T] [hS : StrT P S'] {v : Value} {bs : List Int} (h : ByR w v bs) : opS P (S.conv T S' v) K w = K (.string (strOf bs)) w := by
  unfold S.conv
  rw [opS_bind]
  obtain ⟨e, h1, h2⟩ := hT.und
  have hr : (convert T S' v).run P w = .ok (.string (strOf bs)) w := by
    have hb := run_b2s (P := P) h
    obtain ⟨a, c, rfl⟩ := h.form
    unfold convert
    rw [Sem.run_bind, run_underlying_of h1, Result.andThen_ok, Sem.run_bind, run_underlying_of hS.und, Result.andThen_ok]
    simp only []
    rw [Sem.run_bind, run_underlying_of h2, Result.andThen_ok]
    exact hb
  rw [hr]

theorem s_eqS {a b : List Int} (ha : ∀ x ∈ a, isB x) (hb : ∀ x ∈ b, isB x) : opS P (S.binS .eql (.string (strOf a)) (.string (strOf b))) K w = K (.bool (decide (a = b))) w := by
  unfold S.binS
  simp only []
  rw [opS_bind]
  have : (Op.stringOp .eql (strOf a) (strOf b)).run P w = .ok (.bool (decide (a = b))) w := by
    unfold Op.stringOp
    simp only [Sem.run_pure]
    congr 2
    have e : ∀ x : List Int, (strOf x).toList = (strOf x).data.toList := fun x => by
      exact ByteArray.toList_eq _
    rw [e, e]
    have := strOf_inj ha hb
    by_cases h : a = b
    · subst h; simp
    · rw [decide_eq_false h]
      simpa using fun h2 => h (this.1 h2)
  rw [this]

/-! ### Frames -/

@[ext] structure Frm where
  dst : Mac
  src : Mac
  tagged : Bool
  vlan : Int
  prio : Int
  type : Int
  body : Value

def Frm.cells (f : Frm) : List Value :=
  [u8 f.dst.b0, u8 f.dst.b1, u8 f.dst.b2, u8 f.dst.b3, u8 f.dst.b4, u8 f.dst.b5, u8 f.src.b0, u8 f.src.b1, u8 f.src.b2, u8 f.src.b3, u8 f.src.b4, u8 f.src.b5, .bool f.tagged, i64 f.vlan, i64 f.prio, i64 f.type, f.body]
/-- a frame's numbers are of their kinds -/
def Frm.ok (f : Frm) : Prop := f.dst.ok ∧ f.src.ok ∧ isI f.vlan ∧ isI f.prio ∧ isI f.type
/-- a frame that can be read, and the bytes of its body -/
def FrmR (w : World) (f : Frm) (bs : List Int) : Prop := f.ok ∧ ByR w f.body bs
theorem FrmR.fr {fp : Nat → Prop} {w w' : World} {f : Frm} {bs : List Int} (h : FrmR w f bs) (hf : Fr fp w w') (hn : ∀ b, blkS f.body = some b → ¬ fp b) : FrmR w' f bs := ⟨h.1, h.2.fr hf hn⟩
theorem FrmR.fr0 {w w' : World} {f : Frm} {bs : List Int} (h : FrmR w f bs) (hf : Fr none_ w w') : FrmR w' f bs := h.fr hf fun _ _ h => h

def zMac : Mac := ⟨0, 0, 0, 0, 0, 0⟩
def zFrm : Frm := ⟨zMac, zMac, false, 0, 0, 0, .slice none 0 0⟩
theorem zFrmR (w : World) : FrmR w zFrm [] := ⟨⟨by simp [zFrm, zMac, Mac.ok, isB], by simp [zFrm, zMac, Mac.ok, isB], isI_iff.2 (by simp [zFrm]), isI_iff.2 (by simp [zFrm]), isI_iff.2 (by simp [zFrm])⟩, ByR.nil _ _ _⟩

/-- may it be? n: how long its body is -/
def Frm.right (f : Frm) (n : Nat) : Bool :=
  decide (1536 ≤ f.type ∧ f.type ≤ 65535 ∧ f.type ≠ 33024 ∧ n ≤ 1500) && (if f.tagged then decide (0 ≤ f.vlan ∧ f.vlan ≤ 4094 ∧ 0 ≤ f.prio ∧ f.prio ≤ 7) else decide (f.vlan = 0 ∧ f.prio = 0))

def Frm.tag (f : Frm) (v p : Int) : Frm := { f with tagged := true, vlan := v, prio := p }
def Frm.untag (f : Frm) : Frm := { f with tagged := false, vlan := 0, prio := 0 }

theorem Frm.len (f : Frm) : f.cells.length = 17 := id rfl
theorem Frm.g12 (f : Frm) : f.cells[12]? = some (.bool f.tagged) := id rfl
theorem Frm.g13 (f : Frm) : f.cells[13]? = some (i64 f.vlan) := id rfl
theorem Frm.g14 (f : Frm) : f.cells[14]? = some (i64 f.prio) := id rfl
theorem Frm.g15 (f : Frm) : f.cells[15]? = some (i64 f.type) := id rfl
theorem Frm.g16 (f : Frm) : f.cells[16]? = some f.body := id rfl
theorem Frm.d0 (f : Frm) : (f.cells.drop 0).take 6 = f.dst.cells := id rfl
theorem Frm.d6 (f : Frm) : (f.cells.drop 6).take 6 = f.src.cells := id rfl
theorem Frm.dw (f : Frm) : (f.cells.drop 0).take 17 = f.cells := id rfl
theorem Frm.s12 (f : Frm) (b : Bool) : splice f.cells 12 [.bool b] = { f with tagged := b }.cells := id rfl
theorem Frm.s13 (f : Frm) (n : Int) : splice f.cells 13 [i64 n] = { f with vlan := n }.cells := id rfl
theorem Frm.s14 (f : Frm) (n : Int) : splice f.cells 14 [i64 n] = { f with prio := n }.cells := id rfl
theorem Frm.s15 (f : Frm) (n : Int) : splice f.cells 15 [i64 n] = { f with type := n }.cells := id rfl
theorem Frm.s16 (f : Frm) (v : Value) : splice f.cells 16 [v] = { f with body := v }.cells := id rfl
theorem Frm.s0 (f : Frm) (m : Mac) : splice f.cells 0 m.cells = { f with dst := m }.cells := id rfl
theorem Frm.s6 (f : Frm) (m : Mac) : splice f.cells 6 m.cells = { f with src := m }.cells := id rfl
theorem Frm.sw (f g : Frm) : splice f.cells 0 g.cells = g.cells := id rfl
theorem Frm.one (f : Frm) (h : S.oneCell f.body = true) : f.cells.all S.oneCell = true := by
  simp only [Frm.cells, List.all_cons, one_int, one_bool, h, List.all_nil, Bool.and_self]
theorem Mac.one (m : Mac) : m.cells.all S.oneCell = true := id rfl
theorem Mac.len (m : Mac) : m.cells.length = 6 := id rfl
theorem ByR.one {v : Value} {bs : List Int} (h : ByR w v bs) : S.oneCell v = true := h.1.one
theorem FrmR.one {f : Frm} {bs : List Int} (h : FrmR w f bs) : f.cells.all S.oneCell = true := Frm.one _ h.2.one
attribute [push_cast] Frm.len Frm.g12 Frm.g13 Frm.g14 Frm.g15 Frm.g16 Frm.d0 Frm.d6 Frm.dw Frm.s12 Frm.s13 Frm.s14 Frm.s15 Frm.s16 Frm.s0 Frm.s6 Frm.sw Mac.one Mac.len

/-- what comes behind is small: it may stand in each way -/
theorem jn_1 {k : Value → World → Prop} {m : (Value → World → Prop) → World → Prop} : jnJ 1 k m = m k := jnJ_eq 1 k m
theorem jn_0 {k : World → Prop} {m : (World → Prop) → World → Prop} : jnJ 0 k m = m k := jnJ_eq 0 k m

end Go.Gx
end

section
/- What is asked of the program as a whole. -/
set_option maxRecDepth 100000
namespace Go.Gx.S
open Go Go.Gx Go.Proofs

theorem laidOut : laidOutB Try.prog = true := by kernel_rfl
theorem ctInt : Try.prog.cellsOf 3 = 1 := by kernel_rfl
theorem ctBool : Try.prog.cellsOf 4 = 1 := by kernel_rfl
theorem uInt : Try.prog.underlying 3 = some (.int .i64) := Try.underlying3
theorem uBool : Try.prog.underlying 4 = some .bool := Try.underlying4
theorem own : ownKnob Try.prog.godebug = none := by kernel_rfl

end Go.Gx.S
end

section
/- Addresses, bytes and texts among the program's types. -/
set_option maxRecDepth 100000
namespace Go.Gx.S
open Go Go.Gx Go.Proofs

theorem ctByte : Try.prog.cellsOf 5 = 1 := by kernel_rfl
theorem ctMac : Try.prog.cellsOf 29 = 6 := by kernel_rfl
instance : MacT Try.prog 29 5 := ⟨Try.underlying29, Try.underlying5, ctByte, ctMac⟩
instance : StrT Try.prog 9 := ⟨Try.underlying9⟩
instance : ByT Try.prog 104 := ⟨⟨_, Try.underlying104, Try.underlying5⟩⟩

end Go.Gx.S
end

section
/- Tables of VLANs: what they come to, in plain Lean. -/
namespace Go.Gx
open Go

/-- members, in the order in which they came, and the native VLANs of the ports -/
structure VT where
  tab : List ((Int × Int) × Bool)
  nat : List Int

namespace VT
def port (t : VT) (p : Int) : Prop := 0 ≤ p ∧ p < t.nat.length
instance (t : VT) (p : Int) : Decidable (t.port p) := by unfold port; infer_instance
def right (t : VT) (v p : Int) : Prop := 1 ≤ v ∧ v ≤ 4094 ∧ t.port p
instance (t : VT) (v p : Int) : Decidable (t.right v p) := by unfold right; infer_instance
structure ok (t : VT) : Prop where
  len : t.nat.length ≤ 64
  key : ∀ x ∈ t.tab, t.right x.1.1 x.1.2
  nat : ∀ n ∈ t.nat, 0 ≤ n ∧ n ≤ 4094
  nd : (t.tab.map Prod.fst).Nodup

def new (n : Nat) : VT := ⟨[], List.replicate n 0⟩
def add (t : VT) (v p : Int) (b : Bool) : VT × Int := if t.right v p then ({ t with tab := setL t.tab (v, p) b }, 0) else (t, 1)
def remove (t : VT) (v p : Int) : VT × Int := if t.right v p then (if (getL t.tab (v, p)).isSome then ({ t with tab := delL t.tab (v, p) }, 0) else (t, 4)) else (t, 1)
def native (t : VT) (p v : Int) : VT × Int := if t.port p ∧ 0 ≤ v ∧ v ≤ 4094 then ({ t with nat := t.nat.set p.toNat v }, 0) else (t, 1)
def is (t : VT) (v p : Int) : Bool := (getL t.tab (v, p)).isSome
def members (t : VT) (v : Int) : List Int := ((List.range t.nat.length).map Int.ofNat).filter fun p => t.is v p
def inn (t : VT) (p : Int) (f : Frm) (n : Nat) : Int × Int :=
  if t.port p ∧ f.right n = true then
    let v := if f.vlan = 0 then t.nat.getD p.toNat 0 else f.vlan
    if t.is v p then (v, 0) else (0, 4)
  else (0, 1)
def out (t : VT) (v p : Int) (f : Frm) (n : Nat) : Frm × Int :=
  if t.right v p ∧ f.right n = true then
    match getL t.tab (v, p) with
    | none => (zFrm, 4)
    | some true => (f.tag v f.prio, 0)
    | some false => (f.untag, 0)
  else (zFrm, 1)

theorem ok_new {n : Nat} (h : n ≤ 64) : (new n).ok := ⟨by simpa [new] using h, by simp [new], by simp [new], by simp [new]⟩

theorem setL_mem {κ ν : Type} [DecidableEq κ] {l : List (κ × ν)} {k : κ} {v : ν} {x : κ × ν} (h : x ∈ setL l k v) : x = (k, v) ∨ x ∈ l := by
  unfold setL at h
  split at h
  · rw [List.mem_map] at h
    obtain ⟨p, hp, rfl⟩ := h
    split
    · exact .inl rfl
    · exact .inr hp
  · rcases List.mem_append.1 h with h | h
    · exact .inr h
    · simp at h; exact .inl h

theorem setL_nodup {κ ν : Type} [DecidableEq κ] {l : List (κ × ν)} {k : κ} {v : ν} (h : (l.map Prod.fst).Nodup) : ((setL l k v).map Prod.fst).Nodup := by
  rw [setL_keys]
  split
  · exact h
  · rename_i hn
    rw [List.nodup_append]
    refine ⟨h, by simp, ?_⟩
    intro a ha b hb
    simp at hb
    subst hb
    obtain ⟨p, hp, rfl⟩ := List.mem_map.1 ha
    refine not_key ?_ p hp
    cases hl : getL l b with
    | none => rfl
    | some v => rw [hl] at hn; exact absurd rfl hn

theorem delL_sub {κ ν : Type} [DecidableEq κ] (l : List (κ × ν)) (k : κ) : (delL l k).Sublist l := List.filter_sublist

theorem ok_add {t : VT} (h : t.ok) (v p : Int) (b : Bool) : (t.add v p b).1.ok := by
  unfold add
  split
  · rename_i hr
    refine ⟨h.len, fun x hx => ?_, h.nat, setL_nodup h.nd⟩
    rcases setL_mem hx with rfl | hx
    · exact hr
    · exact h.key x hx
  · exact h
theorem ok_remove {t : VT} (h : t.ok) (v p : Int) : (t.remove v p).1.ok := by
  unfold remove
  split
  · split
    · exact ⟨h.len, fun x hx => h.key x ((delL_sub _ _).subset hx), h.nat, h.nd.sublist ((delL_sub _ _).map _)⟩
    · exact h
  · exact h
theorem ok_native {t : VT} (h : t.ok) (p v : Int) : (t.native p v).1.ok := by
  unfold native
  split
  · rename_i hr
    refine ⟨by simpa using h.len, fun x hx => ?_, fun n hn => ?_, h.nd⟩
    · have := h.key x hx
      unfold right port at this ⊢
      simpa using this
    · rcases List.mem_or_eq_of_mem_set hn with hn | rfl
      · exact h.nat n hn
      · exact ⟨hr.2.1, hr.2.2⟩
  · exact h
theorem is_right {t : VT} (h : t.ok) {v p : Int} (hi : t.is v p = true) : t.right v p := by
  obtain ⟨b, hb⟩ := Option.isSome_iff_exists.1 hi
  exact h.key _ (lookup_some_mem hb)

theorem tag_right {f : Frm} {n : Nat} (h : f.right n = true) {v : Int} (h1 : 1 ≤ v) (h2 : v ≤ 4094) : (f.tag v f.prio).right n = true := by
  unfold Frm.right Frm.tag at *
  simp only [Bool.and_eq_true, decide_eq_true_eq, if_true] at h ⊢
  obtain ⟨h3, h4⟩ := h
  refine ⟨h3, ?_⟩
  split at h4 <;> simp only [decide_eq_true_eq] at h4 <;> omega

/-! ### Where a key stands -/

theorem get_at {κ ν : Type} [DecidableEq κ] {l : List (κ × ν)} {k : κ} {v : ν} (h : getL l k = some v) : ∃ j : Nat, l[j]? = some (k, v) := by
  obtain ⟨j, hj⟩ := List.mem_iff_getElem?.1 (lookup_some_mem h)
  exact ⟨j, hj⟩

theorem nodup_at {κ ν : Type} {l : List (κ × ν)} (hn : (l.map Prod.fst).Nodup) {i j : Nat} {p q : κ × ν} (hi : l[i]? = some p) (hj : l[j]? = some q) (h : p.1 = q.1) : i = j := by
  have hi' := (List.getElem?_eq_some_iff.1 hi)
  have hj' := (List.getElem?_eq_some_iff.1 hj)
  obtain ⟨h1, h2⟩ := hi'
  obtain ⟨h3, h4⟩ := hj'
  have : (l.map Prod.fst)[i]'(by simpa using h1) = (l.map Prod.fst)[j]'(by simpa using h3) := by
    simp only [List.getElem_map]
    rw [h2, h4, h]
  exact (List.getElem_inj hn).1 this

theorem setL_at {κ ν : Type} [DecidableEq κ] {l : List (κ × ν)} (hn : (l.map Prod.fst).Nodup) {j : Nat} {k : κ} {u : ν} (hj : l[j]? = some (k, u)) (v : ν) : setL l k v = l.set j (k, v) := by
  unfold setL
  rw [if_pos (by rw [lookup_of_mem hn (List.mem_of_getElem? hj)]; rfl)]
  apply List.ext_getElem?
  intro i
  rw [List.getElem?_map, List.getElem?_set]
  have hlt := (List.getElem?_eq_some_iff.1 hj).1
  by_cases e : j = i
  · subst e
    rw [if_pos rfl, if_pos hlt, hj]
    simp
  · rw [if_neg e]
    cases hq : l[i]? with
    | none => rfl
    | some q =>
      rw [Option.map_some, if_neg]
      intro hqk
      exact e (nodup_at hn hj hq hqk.symm)

theorem setL_new {κ ν : Type} [DecidableEq κ] {l : List (κ × ν)} {k : κ} (h : getL l k = none) (v : ν) : setL l k v = l ++ [(k, v)] := by
  unfold setL
  rw [if_neg (by rw [h]; simp)]

theorem delL_at {κ ν : Type} [DecidableEq κ] {l : List (κ × ν)} (hn : (l.map Prod.fst).Nodup) {j : Nat} {k : κ} {u : ν} (hj : l[j]? = some (k, u)) : delL l k = l.take j ++ l.drop (j + 1) := by
  unfold delL
  induction l generalizing j with
  | nil => cases hj
  | cons q l ih =>
    rw [List.map_cons, List.nodup_cons] at hn
    cases j with
    | zero =>
      cases hj
      rw [List.filter_cons, if_neg (by simp), List.take_zero, List.nil_append, List.drop_succ_cons, List.drop_zero]
      apply List.filter_eq_self.2
      intro a ha
      simp only [decide_eq_true_eq]
      intro e
      exact hn.1 (List.mem_map.2 ⟨a, ha, e⟩)
    | succ j =>
      rw [List.getElem?_cons_succ] at hj
      have hne : q.1 ≠ k := fun e => hn.1 (by rw [e]; exact List.mem_map_of_mem (f := Prod.fst) (List.mem_of_getElem? hj))
      rw [List.filter_cons, if_pos (by simpa using hne), List.take_succ_cons, List.drop_succ_cons, List.cons_append, ih hn.2 hj]

theorem nodup_short : ∀ (n : Nat) (l : List Nat), l.Nodup → (∀ x ∈ l, x < n) → l.length ≤ n
  | 0, [], _, _ => Nat.le_refl _
  | 0, x :: l, _, h => by have := h x (List.mem_cons_self ..); omega
  | n + 1, l, hn, h => by
    have ih := nodup_short n (l.filter fun x => decide (x ≠ n)) (hn.filter _) (fun x hx => by
      have h1 := h x (List.mem_filter.1 hx).1
      have h2 : x ≠ n := by simpa using (List.mem_filter.1 hx).2
      omega)
    have key : ∀ l : List Nat, l.Nodup → l.length ≤ (l.filter fun x => decide (x ≠ n)).length + 1 := by
      intro l hn
      induction l with
      | nil => simp
      | cons a l ih =>
        rw [List.nodup_cons] at hn
        rw [List.filter_cons]
        by_cases e : a = n
        · subst e
          rw [if_neg (by simp)]
          have : l.filter (fun x => decide (x ≠ a)) = l := List.filter_eq_self.2 fun x hx => by
            simp only [decide_eq_true_eq]
            intro e
            exact hn.1 (e ▸ hx)
          rw [this]; simp
        · rw [if_pos (by simpa using e)]
          have := ih hn.2
          simp only [List.length_cons]; omega
    have := key l hn
    omega

theorem small {t : VT} (h : t.ok) : t.tab.length ≤ 262144 := by
  have h1 := h.len
  have := nodup_short (4095 * 64) ((t.tab.map Prod.fst).map fun k => k.1.toNat * 64 + k.2.toNat) (by
    refine List.Pairwise.map (R := fun a b : Int × Int => a.1.toNat * 64 + a.2.toNat ≠ b.1.toNat * 64 + b.2.toNat) _ ?_ (List.Pairwise.imp_of_mem ?_ h.nd)
    · exact fun a b (h : a.1.toNat * 64 + a.2.toNat ≠ b.1.toNat * 64 + b.2.toNat) => h
    · intro a b ha hb hab he
      obtain ⟨x, hx, rfl⟩ := List.mem_map.1 ha
      obtain ⟨y, hy, rfl⟩ := List.mem_map.1 hb
      have a1 := h.key x hx
      have a2 := h.key y hy
      unfold right port at a1 a2
      apply hab
      apply Prod.ext <;> omega) (by
    intro n hn
    obtain ⟨k, hk, rfl⟩ := List.mem_map.1 hn
    obtain ⟨x, hx, rfl⟩ := List.mem_map.1 hk
    have a1 := h.key x hx
    unfold right port at a1
    omega)
  simp at this
  omega

end VT
end Go.Gx
end

section
/- Loops with more values, slices of one cell an element. -/
namespace Go.Gx
open Go
variable {P : Program} {K : Value → World → Prop} {w : World}

theorem loop2 {B : (Value → Value → World → Prop) → Value → Value → World → Prop} (I : Nat → Value → Value → World → Prop) (h : ∀ n v u w X, I n v u w → (∀ m v' u' w', m < n → I m v' u' w' → X v' u' w') → B X v u w) (n : Nat) {v u : Value} (h0 : I n v u w) : loopJ 2 B v u w := by
  intro X hX
  have key : ∀ n v u w, (∃ m, m ≤ n ∧ I m v u w) → X v u w := by
    intro n
    induction n with
    | zero =>
      rintro v u w ⟨m, hm, hi⟩
      obtain rfl : m = 0 := by omega
      exact hX v u w (h 0 v u w X hi fun m v' u' w' hm _ => by omega)
    | succ n ih =>
      rintro v u w ⟨m, hm, hi⟩
      exact hX v u w (h m v u w X hi fun k v' u' w' hk hi' => ih v' u' w' ⟨k, by omega, hi'⟩)
  exact key n v u w ⟨n, Nat.le_refl _, h0⟩

theorem loop3 {B : (Value → Value → Value → World → Prop) → Value → Value → Value → World → Prop} (I : Nat → Value → Value → Value → World → Prop) (h : ∀ n v u x w X, I n v u x w → (∀ m v' u' x' w', m < n → I m v' u' x' w' → X v' u' x' w') → B X v u x w) (n : Nat) {v u x : Value} (h0 : I n v u x w) : loopJ 3 B v u x w := by
  intro X hX
  have key : ∀ n v u x w, (∃ m, m ≤ n ∧ I m v u x w) → X v u x w := by
    intro n
    induction n with
    | zero =>
      rintro v u x w ⟨m, hm, hi⟩
      obtain rfl : m = 0 := by omega
      exact hX v u x w (h 0 v u x w X hi fun m v' u' x' w' hm _ => by omega)
    | succ n ih =>
      rintro v u x w ⟨m, hm, hi⟩
      exact hX v u x w (h m v u x w X hi fun k v' u' x' w' hk hi' => ih v' u' x' w' ⟨k, by omega, hi'⟩)
  exact key n v u x w ⟨n, Nat.le_refl _, h0⟩

theorem jn2 {k : Value → Value → World → Prop} {m : (Value → Value → World → Prop) → World → Prop} (Q : Value → Value → World → Prop) (h1 : ∀ v u w', Q v u w' → k v u w') (h2 : ∀ j : Value → Value → World → Prop, (∀ v u w', Q v u w' → j v u w') → m j w) : jnJ 2 k m w := (congrFun (jnJ_eq 2 k m) w).symm ▸ h2 k h1
theorem jn3 {k : Value → Value → Value → World → Prop} {m : (Value → Value → Value → World → Prop) → World → Prop} (Q : Value → Value → Value → World → Prop) (h1 : ∀ v u x w', Q v u x w' → k v u x w') (h2 : ∀ j : Value → Value → Value → World → Prop, (∀ v u x w', Q v u x w' → j v u x w') → m j w) : jnJ 3 k m w := (congrFun (jnJ_eq 3 k m) w).symm ▸ h2 k h1

theorem s_bs1c {T E : TypeId} {ag : Bool} {z : Value} [hT : SlT P T E] [hs : Sz P E 1 ag] [hz : ZV P E z] {x : Value} (hx : S.oneCell x = true) (hzn : z.cells.size = 1)
    (h : ∀ v' w', OwnE E 1 w' v' [[x]] → Fr none_ w w' → New w v' → K v' w') : opS P (S.buildS T 1 [(0, x)]) K w := by
  have hc : x.cells = #[x] := by cases x <;> first | rfl | cases hx
  rw [opS_buildS1 (n := 1) _ (by rw [hc]; rfl) hzn (by decide) (by decide), hc]
  refine h _ _ ⟨.inr ⟨w.heap.size, 0, 1, #[x], rfl, heap_alloc_new _ _, by simp, by simp, by simp⟩, by simp⟩ (Fr.alloc _ _ rfl) fun b hb => ?_
  cases hb; exact Nat.le_refl _

/-- what is known of a world is all that counts -/
theorem at_w (Q : World → Prop) {G : World → Prop} {W : World} (hQ : Q W) (h : ∀ W, Q W → G W) : G W := h W hQ

/-- whole numbers as elements -/
def cellI (n : Int) : List Value := [i64 n]
theorem flat_cellI (l : List Int) : (l.map cellI).flatten = l.map i64 := by
  induction l with
  | nil => rfl
  | cons b bs ih => simp [cellI, ih]
theorem flat_cellI_one (l : List Int) : (l.map cellI).flatten.all S.oneCell = true := by
  rw [flat_cellI, List.all_map, List.all_eq_true]
  intro x _
  rfl

/-- the empty slice -/
theorem own_nil (E sz : Nat) (w : World) : OwnE E sz w (.slice none 0 0) [] := ⟨.inl ⟨rfl, rfl, rfl⟩, by simp⟩

/-- 'append(v, x)': x has one cell -/
theorem s_app1 {T T2 T3 E by_ : TypeId} {ag : Bool} {z : Value} [hT : SlT P T E] [hT2 : SlT P T2 E] [hT3 : SlT P T3 E] [hs : Sz P E 1 ag] [hb : By P E by_] [hz : ZV P E z] {ty : TypeId} {v : Value} {es : List (List Value)} {x : Value}
    (hx : S.oneCell x = true) (hzn : z.cells.size = 1) (hby : 0 < by_) (hv : OwnE E 1 w v es) (hroom : (2 * (es.length + 1) + 192) * by_ ≤ 2 ^ 48)
    (h : ∀ v' w', OwnE E 1 w' v' (es ++ [[x]]) → (blkS v' = blkS v ∨ New w v') → Fr (fun b => blkS v = some b) w w' → K v' w') :
    opS P (S.buildS T3 1 [(0, x)]) (fun y => opS P (S.bi .append #[T, T2] ty [v, y]) K) w := by
  refine s_bs1c hx hzn fun y w1 hy hF1 hN => ?_
  have hv1 := hv.fr hF1 (fun _ _ h => h)
  refine s_app hzn hby hv1 hy.rd (by simp [hx]) (by simpa using hroom) fun v' w' h1 h2 h3 => h v' w' h1 ?_ (Fr.trans (hF1.mono fun _ _ h => h.elim) h3)
  rcases h2 with h2 | h2
  · exact .inl h2
  · exact .inr fun b hb => Nat.le_trans hF1.size (h2 b hb)

theorem splice_get {l vs : List Value} {o : Nat} (h : o + vs.length ≤ l.length) (j : Nat) : (splice l o vs)[j]? = if j < o then l[j]? else if j < o + vs.length then vs[j - o]? else l[j]? := by
  unfold splice
  have ht : (l.take o).length = o := by rw [List.length_take]; omega
  by_cases h1 : j < o
  · rw [if_pos h1, List.append_assoc, List.getElem?_append_left (by omega), List.getElem?_take_of_lt h1]
  · rw [if_neg h1]
    by_cases h2 : j < o + vs.length
    · rw [if_pos h2, List.append_assoc, List.getElem?_append_right (by omega), ht, List.getElem?_append_left (by omega)]
    · rw [if_neg h2, List.getElem?_append_right (by rw [List.length_append]; omega), List.length_append, ht, List.getElem?_drop]
      congr 1
      omega

/-- one cell of an element -/
theorem splice_field {l e : List Value} {p f : Nat} {v : Value} (h : p + e.length ≤ l.length) (he : (l.drop p).take e.length = e) (hf : f < e.length) : splice l (p + f) [v] = splice l p (e.set f v) := by
  apply List.ext_getElem?
  intro j
  rw [splice_get (by simp; omega), splice_get (by simp; omega)]
  simp only [List.length_singleton, List.length_set]
  by_cases h1 : j < p
  · rw [if_pos (by omega), if_pos h1]
  · rw [if_neg h1]
    by_cases h2 : j < p + e.length
    · rw [if_pos h2, List.getElem?_set]
      have hj : l[j]? = e[j - p]? := by
        have : ((l.drop p).take e.length)[j - p]? = e[j - p]? := by rw [he]
        rw [List.getElem?_take_of_lt (by omega), List.getElem?_drop] at this
        rw [← this]; congr 1; omega
      by_cases h3 : j < p + f
      · rw [if_pos h3, if_neg (by omega), hj]
      · rw [if_neg h3]
        by_cases h4 : j = p + f
        · subst h4
          rw [if_pos (by omega), if_pos (by omega), if_pos hf]
          simp
        · rw [if_neg (by omega), if_neg (by omega), hj]
    · rw [if_neg (by omega), if_neg (by omega), if_neg h2]

/-- one cell of an element is written -/
theorem OwnE.putF {E sz : Nat} {b o c i f : Nat} {es : List (List Value)} (h : OwnE E sz w (.slice (some ⟨b, o, none⟩) es.length c) es) (hi : i < es.length) (hf : f < sz) (v : Value) :
    okAt w.heap[b]? (o + i * sz + f) 1 = true ∧ OwnE E sz (wr w b (o + i * sz + f) [v]) (.slice (some ⟨b, o, none⟩) es.length c) (es.set i (es[i].set f v)) := by
  have hlen := h.2 _ (List.getElem_mem hi)
  obtain ⟨h1, h2⟩ := h.put (i := i) (e := es[i].set f v) (by rw [List.length_set, hlen]) hi
  obtain ⟨g1, g2⟩ := h
  rcases g1 with ⟨g1, _⟩ | ⟨b', o', c', cs, hv, hb, hc, ho, hl⟩
  · cases g1
  · simp only [Value.slice.injEq, Option.some.injEq, Addr.mk.injEq] at hv
    obtain ⟨⟨rfl, rfl, _⟩, _, rfl⟩ := hv
    have hm : i * sz + sz ≤ es.length * sz := by rw [← Nat.succ_mul]; exact Nat.mul_le_mul_right _ hi
    have hm2 : es.length * sz ≤ c * sz := Nat.mul_le_mul_right _ hc
    have hel : (cs.toList.drop (o + i * sz)).take es[i].length = es[i] := by
      have := flatten_elem g2 hi 0 sz (by omega)
      rw [hl, Nat.add_zero, List.drop_zero, List.drop_take, List.drop_drop, List.take_take, Nat.min_eq_left (by omega)] at this
      rw [hlen, this, List.take_of_length_le (by omega)]
    refine ⟨?_, ?_⟩
    · rw [hb]
      show (decide (o + i * sz + f + 1 ≤ cs.size) && _) = true
      simp only [Bool.and_eq_true, decide_eq_true_eq, List.all_eq_true]
      exact ⟨by omega, fun x _ => by simp⟩
    · have hw : wr w b (o + i * sz + f) [v] = wr w b (o + i * sz) (es[i].set f v) := by
        unfold wr
        rw [hb]
        simp only []
        have hle : o + i * sz + es[i].length ≤ cs.toList.length := by have e2 : cs.toList.length = cs.size := Array.length_toList; omega
        rw [splice_field hle hel (by omega)]
      rw [hw]
      exact h2

end Go.Gx
end

section
/- Lists that rise. -/
namespace Go.Gx
open Go

theorem eq_of_rising {α : Type} {r : α → α → Prop} (hirr : ∀ a, ¬ r a a) (has : ∀ a b, r a b → ¬ r b a) : ∀ {l k : List α}, l.Pairwise r → k.Pairwise r → (∀ x, x ∈ l ↔ x ∈ k) → l = k
  | [], [], _, _, _ => rfl
  | [], b :: k, _, _, h => absurd ((h b).2 (List.mem_cons_self ..)) (by simp)
  | a :: l, [], _, _, h => absurd ((h a).1 (List.mem_cons_self ..)) (by simp)
  | a :: l, b :: k, h1, h2, h => by
    rw [List.pairwise_cons] at h1 h2
    have hab : a = b := by
      rcases List.mem_cons.1 ((h a).1 (List.mem_cons_self ..)) with e | e
      · exact e
      · rcases List.mem_cons.1 ((h b).2 (List.mem_cons_self ..)) with e2 | e2
        · exact e2.symm
        · exact absurd (h1.1 b e2) (has _ _ (h2.1 a e))
    subst hab
    congr 1
    refine eq_of_rising hirr has h1.2 h2.2 fun x => ⟨fun hx => ?_, fun hx => ?_⟩
    · rcases List.mem_cons.1 ((h x).1 (List.mem_cons_of_mem _ hx)) with e | e
      · subst e; exact absurd (h1.1 x hx) (hirr x)
      · exact e
    · rcases List.mem_cons.1 ((h x).2 (List.mem_cons_of_mem _ hx)) with e | e
      · subst e; exact absurd (h2.1 x hx) (hirr x)
      · exact e

theorem sorted_get {d : List Int} (h : d.Pairwise (· ≤ ·)) {i j : Nat} (hij : i ≤ j) (hj : j < d.length) : d.toArray[i]! ≤ d.toArray[j]! := by
  have hi : i < d.length := by omega
  have e1 : d.toArray[i]! = d[i] := by simp [hi]
  have e2 : d.toArray[j]! = d[j] := by simp [hj]
  rw [e1, e2]
  rcases Nat.eq_or_lt_of_le hij with e | e
  · subst e; exact Int.le_refl _
  · exact List.pairwise_iff_getElem.1 h i j hi hj e

theorem compact_rise {d : List Int} (h : d.Pairwise (· ≤ ·)) : (Lib.compact d).Pairwise (· < ·) := by
  unfold Lib.compact Lib.compactUpTo
  rw [List.pairwise_map]
  have h1 : ((List.range d.length).filter (Lib.keeps d.toArray)).Pairwise (· < ·) := List.pairwise_lt_range.filter _
  refine List.Pairwise.imp_of_mem ?_ h1
  intro a b ha hb hab
  rw [List.mem_filter, List.mem_range] at ha hb
  have hk := hb.2
  simp only [Lib.keeps, decide_eq_true_eq] at hk
  have hne := hk.resolve_left (by omega)
  have g1 := sorted_get h (show a ≤ b - 1 by omega) (by omega)
  have g2 := sorted_get h (show b - 1 ≤ b by omega) hb.1
  omega

theorem compact_mem {d : List Int} {x : Int} : x ∈ Lib.compact d ↔ x ∈ d := by
  unfold Lib.compact Lib.compactUpTo
  rw [List.mem_map]
  constructor
  · rintro ⟨i, hi, rfl⟩
    rw [List.mem_filter, List.mem_range] at hi
    have : d.toArray[i]! = d[i]'hi.1 := by simp [hi.1]
    rw [this]
    exact List.getElem_mem _
  · intro hx
    obtain ⟨i, hi, rfl⟩ := List.getElem_of_mem hx
    have key : ∀ n (hn : n < d.length), ∃ j, j ∈ (List.range d.length).filter (Lib.keeps d.toArray) ∧ d.toArray[j]! = d[n] := by
      intro n
      induction n with
      | zero =>
        intro hn
        refine ⟨0, ?_, by simp [hn]⟩
        rw [List.mem_filter, List.mem_range]
        exact ⟨hn, by simp [Lib.keeps]⟩
      | succ n ih =>
        intro hn
        have e1 : d.toArray[n + 1]! = d[n + 1] := by simp [hn]
        have e0 : d.toArray[n]! = d[n] := by simp [Nat.lt_of_succ_lt hn]
        by_cases e : d[n + 1] = d[n]
        · obtain ⟨j, hj, hje⟩ := ih (by omega)
          exact ⟨j, hj, by rw [hje, e]⟩
        · refine ⟨n + 1, ?_, e1⟩
          rw [List.mem_filter, List.mem_range]
          refine ⟨hn, ?_⟩
          simp only [Lib.keeps, decide_eq_true_eq, Nat.add_sub_cancel]
          right
          rw [e1, e0]
          exact e
    exact key i hi

theorem sorted_ints (d : List Int) : (d.mergeSort fun x y => decide (x ≤ y)).Pairwise (· ≤ ·) := by
  have := List.pairwise_mergeSort (le := fun x y : Int => decide (x ≤ y)) (by intro a b c h1 h2; simp at *; omega) (by intro a b; simp; omega) d
  exact this.imp fun h => by simpa using h

/-- sorted, and each kept once -/
theorem uniq_eq {d k : List Int} (hk : k.Pairwise (· < ·)) (h : ∀ x, x ∈ d ↔ x ∈ k) : Lib.compact (d.mergeSort fun x y => decide (x ≤ y)) = k := by
  refine eq_of_rising (r := (· < ·)) (fun a => by omega) (fun a b h => by omega) (compact_rise (sorted_ints d)) hk fun x => ?_
  rw [compact_mem, List.mem_mergeSort]
  exact h x

end Go.Gx
end

section
/- Bytes that are compared; entries in order; what changes make of them. -/
namespace Go.Gx
open Go
variable {P : Program} {K : Value → World → Prop} {w : World}

/-! ### A function without a body -/

theorem run_extern {f : FuncId} {fn : Func} {e : Array Value → Sem Value} (hf : P.funcs[f]? = some fn) (hn : (fn.name == "runtime.NumGoroutine") = false) (hb : fn.body.isNone = true) (h1 : Extern.findNext fn = none) (h2 : Extern.find fn = some e) (args : Array Value) :
    (callFunc f args).run P w = (do pure (Next.value (← e args)) : Sem Next).run P w := by
  unfold callFunc
  have hp : (program).run P w = .ok P w := rfl
  rw [Sem.run_bind, hp, Result.andThen_ok]
  simp only [hf, hn, hb, h1, h2, Bool.false_eq_true, if_false, if_true]
  rw [Sem.run_bind]
  have hm : (mark (.extern f)).run P w = .ok () w := rfl
  rw [hm, Result.andThen_ok]

theorem s_extern {f : FuncId} {fn : Func} {e : Array Value → Sem Value} (hf : P.funcs[f]? = some fn) (hn : (fn.name == "runtime.NumGoroutine") = false) (hb : fn.body.isNone = true) (h1 : Extern.findNext fn = none) (h2 : Extern.find fn = some e) {args : List Value} {v : Value}
    (hr : (e args.toArray).run P w = .ok v w) (h : K v w) : opS P (S.cl f args) K w := by
  have hx : (S.cl f args).run P w = .ok (.value v) w := by
    have : (S.cl f args).run P w = (callFunc f (#[] ++ args.toArray ++ #[])).run P w := rfl
    rw [this]
    have e2 : (#[] ++ args.toArray ++ #[] : Array Value) = args.toArray := by simp
    rw [e2, run_extern hf hn hb h1 h2, Sem.run_bind, hr]
    rfl
  rw [opS_value hx]
  exact h

theorem run_loadBytes {b : Nat} {c : Array Value} {T : TypeId} {fz : Nat × Nat} (h : w.heap[b]? = some (.cells c T fz)) : ∀ (bs : List Int) (o : Nat) (pre : List Int), o + bs.length ≤ c.size → (c.toList.drop o).take bs.length = bs.map u8 →
    (Extern.Bytes.loadBytes ⟨b, o, none⟩ bs.length (strOf pre)).run P w = .ok (strOf (pre ++ bs)) w
  | [], o, pre, _, _ => by simp [Extern.Bytes.loadBytes]
  | x :: bs, o, pre, hle, he => by
    simp only [List.length_cons] at hle he ⊢
    have hlt : o < c.size := by omega
    have hcl : c.toList.length = c.size := Array.length_toList
    rw [List.drop_eq_getElem_cons (by omega), List.take_succ_cons, List.map_cons, List.cons.injEq] at he
    have hc : w.cell? ⟨b, o, none⟩ = some (u8 x) := by
      rw [cell_rd, rd, h]
      show c[o]? = _
      rw [Array.getElem?_eq_getElem hlt, ← he.1]
      simp
    unfold Extern.Bytes.loadBytes
    rw [Sem.run_bind, run_load, hc]
    simp only [Result.andThen_ok]
    have e1 : (strOf pre).push x.toNat.toUInt8 = strOf (pre ++ [x]) := by simp [strOf, ByteArray.push]
    rw [add_none, e1, run_loadBytes h bs (o + 1) (pre ++ [x]) (by omega) he.2, List.append_assoc]
    rfl

theorem run_bytesOf {v : Value} {bs : List Int} (h : ByR w v bs) : (Extern.Bytes.bytesOf v).run P w = .ok (strOf bs) w := by
  have h1 := h.1.1
  rw [flat_cell1, List.length_map] at h1
  rcases h1 with ⟨⟨a, c, rfl⟩, h2, _⟩ | ⟨b, o, c, cs, T, fz, rfl, hb, hc, ho, hl⟩
  · obtain rfl := List.eq_nil_of_length_eq_zero h2
    cases a <;> rfl
  · have := run_loadBytes (P := P) hb bs o [] (by omega) (by rw [hl, Nat.mul_one])
    exact this

/-! ### Addresses as numbers -/

def macN (m : Mac) : Int := ((((m.b0 * 256 + m.b1) * 256 + m.b2) * 256 + m.b3) * 256 + m.b4) * 256 + m.b5
def macL (m : Mac) : List Int := [m.b0, m.b1, m.b2, m.b3, m.b4, m.b5]
def cmpI (a b : Int) : Int := if a < b then -1 else if b < a then 1 else 0
def cmpM (a b : Mac) : Int := cmpI (macN a) (macN b)

theorem macL_ok {m : Mac} (h : m.ok) : ∀ x ∈ macL m, isB x := by
  obtain ⟨h0, h1, h2, h3, h4, h5⟩ := h
  intro x hx
  simp only [macL, List.mem_cons, List.not_mem_nil, or_false] at hx
  rcases hx with rfl | rfl | rfl | rfl | rfl | rfl <;> assumption

theorem macN_inj {a b : Mac} (ha : a.ok) (hb : b.ok) (h : macN a = macN b) : a = b := by
  obtain ⟨a0, a1, a2, a3, a4, a5⟩ := ha
  obtain ⟨b0, b1, b2, b3, b4, b5⟩ := hb
  unfold macN at h
  unfold isB at *
  apply Mac.ext <;> omega
theorem macN_range {a : Mac} (ha : a.ok) : 0 ≤ macN a ∧ macN a < 281474976710656 := by
  obtain ⟨a0, a1, a2, a3, a4, a5⟩ := ha
  unfold macN
  unfold isB at *
  omega

theorem strOf_size (l : List Int) : (strOf l).size = l.length := by simp [strOf, ByteArray.size]
theorem strOf_get (l : List Int) (i : Nat) (h : i < l.length) : (strOf l)[i]! = UInt8.ofNat (l[i]).toNat := by
  have h2 : i < (strOf l).size := by rw [strOf_size]; exact h
  rw [getElem!_pos _ i h2]
  show (strOf l).data[i] = _
  simp [strOf]

theorem byte_lt {a b : Int} (ha : isB a) (hb : isB b) : UInt8.ofNat a.toNat < UInt8.ofNat b.toNat ↔ a < b := by
  rw [UInt8.lt_iff_toNat_lt]
  simp only [UInt8.toNat_ofNat']
  unfold isB at ha hb
  omega
theorem byte_eq {a b : Int} (ha : isB a) (hb : isB b) : UInt8.ofNat a.toNat = UInt8.ofNat b.toNat ↔ a = b := ⟨byte_inj ha hb, fun h => by rw [h]⟩

theorem cmp_mac {a b : Mac} (ha : a.ok) (hb : b.ok) : Extern.BytealgCompare.cmp (strOf (macL a)) (strOf (macL b)) = cmpM a b := by
  unfold Extern.BytealgCompare.cmp
  have sa : (strOf (macL a)).size = 6 := by rw [strOf_size]; rfl
  have sb : (strOf (macL b)).size = 6 := by rw [strOf_size]; rfl
  rw [sa, sb]
  have gA : ∀ i (h : i < 6), (strOf (macL a))[i]! = UInt8.ofNat ((macL a)[i]'h).toNat := fun i h => strOf_get (macL a) i h
  have gB : ∀ i (h : i < 6), (strOf (macL b))[i]! = UInt8.ofNat ((macL b)[i]'h).toNat := fun i h => strOf_get (macL b) i h
  clear sa sb
  generalize strOf (macL a) = A at *
  generalize strOf (macL b) = B at *
  obtain ⟨a0, a1, a2, a3, a4, a5⟩ := ha
  obtain ⟨b0, b1, b2, b3, b4, b5⟩ := hb
  have hr : List.range (min 6 6) = [0, 1, 2, 3, 4, 5] := rfl
  rw [hr]
  have A0 : A[0]! = UInt8.ofNat a.b0.toNat := gA 0 (by decide)
  have A1 : A[1]! = UInt8.ofNat a.b1.toNat := gA 1 (by decide)
  have A2 : A[2]! = UInt8.ofNat a.b2.toNat := gA 2 (by decide)
  have A3 : A[3]! = UInt8.ofNat a.b3.toNat := gA 3 (by decide)
  have A4 : A[4]! = UInt8.ofNat a.b4.toNat := gA 4 (by decide)
  have A5 : A[5]! = UInt8.ofNat a.b5.toNat := gA 5 (by decide)
  have B0 : B[0]! = UInt8.ofNat b.b0.toNat := gB 0 (by decide)
  have B1 : B[1]! = UInt8.ofNat b.b1.toNat := gB 1 (by decide)
  have B2 : B[2]! = UInt8.ofNat b.b2.toNat := gB 2 (by decide)
  have B3 : B[3]! = UInt8.ofNat b.b3.toNat := gB 3 (by decide)
  have B4 : B[4]! = UInt8.ofNat b.b4.toNat := gB 4 (by decide)
  have B5 : B[5]! = UInt8.ofNat b.b5.toNat := gB 5 (by decide)
  clear gA gB
  simp only [List.find?_cons, List.find?_nil, A0, A1, A2, A3, A4, A5, B0, B1, B2, B3, B4, B5]
  have hne : ∀ x y : Int, isB x → isB y → (UInt8.ofNat x.toNat != UInt8.ofNat y.toNat) = decide (x ≠ y) := by
    intro x y hx hy
    rw [Bool.eq_iff_iff, bne_iff_ne, decide_eq_true_iff, ne_eq, byte_eq hx hy]
  rw [hne _ _ a0 b0, hne _ _ a1 b1, hne _ _ a2 b2, hne _ _ a3 b3, hne _ _ a4 b4, hne _ _ a5 b5]
  unfold cmpM cmpI macN
  have fin : ∀ (x y : Int) (X Y : UInt8), isB x → isB y → X = UInt8.ofNat x.toNat → Y = UInt8.ofNat y.toNat → (if X < Y then (-1 : Int) else 1) = if x < y then -1 else 1 := by
    intro x y X Y hx hy e1 e2
    rw [e1, e2]
    by_cases hxy : x < y
    · rw [if_pos ((byte_lt hx hy).2 hxy), if_pos hxy]
    · rw [if_neg (fun h => hxy ((byte_lt hx hy).1 h)), if_neg hxy]
  by_cases h0 : a.b0 = b.b0
  case neg =>
    simp only [h0, ne_eq, not_false_eq_true, decide_true]
    rw [fin a.b0 b.b0 _ _ a0 b0 A0 B0]
    unfold isB at *
    split <;> split <;> (try split) <;> omega
  by_cases h1 : a.b1 = b.b1
  case neg =>
    simp only [h0, h1, ne_eq, not_true_eq_false, not_false_eq_true, decide_true, decide_false]
    rw [fin a.b1 b.b1 _ _ a1 b1 A1 B1]
    unfold isB at *
    split <;> split <;> (try split) <;> omega
  by_cases h2 : a.b2 = b.b2
  case neg =>
    simp only [h0, h1, h2, ne_eq, not_true_eq_false, not_false_eq_true, decide_true, decide_false]
    rw [fin a.b2 b.b2 _ _ a2 b2 A2 B2]
    unfold isB at *
    split <;> split <;> (try split) <;> omega
  by_cases h3 : a.b3 = b.b3
  case neg =>
    simp only [h0, h1, h2, h3, ne_eq, not_true_eq_false, not_false_eq_true, decide_true, decide_false]
    rw [fin a.b3 b.b3 _ _ a3 b3 A3 B3]
    unfold isB at *
    split <;> split <;> (try split) <;> omega
  by_cases h4 : a.b4 = b.b4
  case neg =>
    simp only [h0, h1, h2, h3, h4, ne_eq, not_true_eq_false, not_false_eq_true, decide_true, decide_false]
    rw [fin a.b4 b.b4 _ _ a4 b4 A4 B4]
    unfold isB at *
    split <;> split <;> (try split) <;> omega
  by_cases h5 : a.b5 = b.b5
  case neg =>
    simp only [h0, h1, h2, h3, h4, h5, ne_eq, not_true_eq_false, not_false_eq_true, decide_true, decide_false]
    rw [fin a.b5 b.b5 _ _ a5 b5 A5 B5]
    unfold isB at *
    split <;> split <;> (try split) <;> omega
  simp [h0, h1, h2, h3, h4, h5]

/-- two slices of bytes that are compared -/
theorem s_bytecmp {f : FuncId} {fn : Func} (hf : P.funcs[f]? = some fn) (hn : (fn.name == "runtime.NumGoroutine") = false) (hb : fn.body.isNone = true) (h1 : Extern.findNext fn = none) (h2 : Extern.find fn = some Extern.BytealgCompare.compare) {a b : Value} {x y : List Int}
    (ha : ByR w a x) (hb2 : ByR w b y) (h : K (.int .i64 (Extern.BytealgCompare.cmp (strOf x) (strOf y))) w) : opS P (S.cl f [a, b]) K w := by
  refine s_extern hf hn hb h1 h2 (v := .int .i64 (Extern.BytealgCompare.cmp (strOf x) (strOf y))) ?_ h
  show (do pure (goInt (Extern.BytealgCompare.cmp (← Extern.Bytes.bytesOf a) (← Extern.Bytes.bytesOf b))) : Sem Value).run P w = _
  rw [Sem.run_bind, run_bytesOf ha, Result.andThen_ok, Sem.run_bind, run_bytesOf hb2, Result.andThen_ok]
  rfl

end Go.Gx
end

section
/- Rows that are sorted. -/
namespace Go.Gx
open Go Go.Sort
variable {P : Program} {K : Value → World → Prop} {w : World}

theorem putCells_splice {α : Type} [Inhabited α] (enc : α → Value) (o : Nat) (zs : List α) (cs : Array Value) (h : o + zs.length ≤ cs.size) :
    (putCells enc o zs.toArray cs).toList = splice cs.toList o (zs.map enc) := by
  apply List.ext_getElem?
  intro j
  have hcl : cs.toList.length = cs.size := Array.length_toList
  have hs := splice_get (l := cs.toList) (vs := zs.map enc) (o := o) (by rw [List.length_map]; omega) j
  rw [hs, List.length_map]
  unfold putCells
  simp only [Array.toList_mapIdx, List.getElem?_mapIdx, List.size_toArray]
  by_cases h1 : j < o
  · rw [if_pos h1]
    cases cs.toList[j]? with
    | none => rfl
    | some v => simp only [Option.map_some]; rw [if_neg (by omega)]
  · by_cases h2 : j < o + zs.length
    · rw [if_neg h1, if_pos h2]
      have hj : j < cs.toList.length := by omega
      rw [List.getElem?_eq_getElem hj]
      simp only [Option.map_some]
      rw [if_pos (by omega), List.getElem?_map]
      have hj2 : j - o < zs.length := by omega
      rw [List.getElem?_eq_getElem hj2]
      simp [hj2]
    · rw [if_neg h1, if_neg h2]
      cases cs.toList[j]? with
      | none => rfl
      | some v => simp only [Option.map_some]; rw [if_neg (by omega)]

/-- a row that is its holder's own, in the sort's words -/
theorem holds_row {α : Type} [Inhabited α] {enc : α → Value} {b o N : Nat} {cs : Array Value} {E : TypeId} {zs : List α} (hb : w.heap[b]? = some (.cells cs E (0, 0))) (hN : N = zs.length) (ho : o + N ≤ cs.size) (hl : zs.map enc = (cs.toList.drop o).take N) :
    Holds enc w b o zs.toArray := by
  intro j hj
  simp only [List.size_toArray] at hj
  have hcl : cs.toList.length = cs.size := Array.length_toList
  constructor
  · rw [cell_rd]
    unfold rd
    rw [hb]
    show cs[o + j]? = _
    have := congrArg (fun l => l[j]?) hl
    simp only [List.getElem?_map, List.getElem?_take, List.getElem?_drop] at this
    rw [if_pos (by omega), List.getElem?_eq_getElem hj, Array.getElem?_toList] at this
    rw [← this]
    simp [hj]
  · rw [frozen_eq]
    simp [hb]

theorem putRow_heap {α : Type} [Inhabited α] {enc : α → Value} {b o n : Nat} {os : Array Obj} {cs : Array Value} {E : TypeId} {zs : List α} (hb : w.heap[b]? = some (.cells cs E (0, 0))) (ho : o + zs.length ≤ cs.size) :
    (grow (putRow enc (Sort.ahead w n) b o zs.toArray) os).heap[b]? = some (.cells (splice cs.toList o (zs.map enc)).toArray E (0, 0)) := by
  have hlt := lt_of_heap hb
  have e1 : (grow (putRow enc (Sort.ahead w n) b o zs.toArray) os).heap[b]? = (putRow enc (Sort.ahead w n) b o zs.toArray).heap[b]? := by
    show ((putRow enc (Sort.ahead w n) b o zs.toArray).heap ++ os)[b]? = _
    rw [Array.getElem?_append_left]
    show b < (w.heap.modify b _).size
    rw [Array.size_modify]; exact hlt
  rw [e1]
  show (w.heap.modify b (onCells (putCells enc o zs.toArray)))[b]? = _
  rw [Array.getElem?_modify, if_pos rfl, hb]
  show some (Obj.cells (putCells enc o zs.toArray cs) E (0, 0)) = _
  congr 2
  rw [← putCells_splice enc o zs cs ho, Array.toArray_toList]

theorem putRow_fr {α : Type} [Inhabited α] {enc : α → Value} {b o n : Nat} {os : Array Obj} {d : Array α} : Fr (fun x => x = b) w (grow (putRow enc (Sort.ahead w n) b o d) os) := by
  have hs : (putRow enc (Sort.ahead w n) b o d).heap.size = w.heap.size := by
    show (w.heap.modify b _).size = _
    rw [Array.size_modify]
  refine ⟨?_, fun x hx hn => ?_, fun a ha => ?_, rfl, rfl, rfl⟩
  · show w.heap.size ≤ ((putRow enc (Sort.ahead w n) b o d).heap ++ os).size
    rw [Array.size_append, hs]; omega
  · show ((putRow enc (Sort.ahead w n) b o d).heap ++ os)[x]? = _
    rw [Array.getElem?_append_left (by rw [hs]; exact hx)]
    show (w.heap.modify b _)[x]? = _
    rw [Array.getElem?_modify, if_neg (fun e => hn e.symm)]
  · have e1 : (grow (putRow enc (Sort.ahead w n) b o d) os).frozen? a = (putRow enc (Sort.ahead w n) b o d).frozen? a := by
      rw [frozen_eq, frozen_eq]
      show (match ((putRow enc (Sort.ahead w n) b o d).heap ++ os)[a.block]? with | some (.cells _ _ fz) => (decide (fz.1 ≤ a.off) && decide (a.off < fz.2)) | _ => false) = _
      rw [Array.getElem?_append_left (by rw [hs]; exact ha)]
      rfl
    rw [e1]
    exact frozen?_mapBlock _ _ _ _

/-- one cell an element: what is asked, and what there is behind it -/
theorem own_holds {α : Type} [Inhabited α] {enc : α → Value} {E : TypeId} {b o c : Nat} {zs : List α} (h : OwnE E 1 w (.slice (some ⟨b, o, none⟩) zs.length c) (zs.map fun z => [enc z])) : Holds enc w b o zs.toArray ∧ b < w.heap.size := by
  obtain ⟨h1, _⟩ := h
  rw [List.length_map] at h1
  rcases h1 with ⟨h1, _⟩ | ⟨b', o', c', cs, hv, hb, hc, ho, hl⟩
  · cases h1
  · simp only [Value.slice.injEq, Option.some.injEq, Addr.mk.injEq, and_true, true_and] at hv
    obtain ⟨⟨rfl, rfl⟩, rfl⟩ := hv
    refine ⟨holds_row hb rfl (by omega) ?_, lt_of_heap hb⟩
    rw [Nat.mul_one] at hl
    rw [← hl]
    clear hl ho hc hb
    induction zs with
    | nil => rfl
    | cons z zs ih => simp [ih]

theorem own_sorted {α : Type} [Inhabited α] {enc : α → Value} {E : TypeId} {b o c n : Nat} {os : Array Obj} {zs ys : List α} (h : OwnE E 1 w (.slice (some ⟨b, o, none⟩) zs.length c) (zs.map fun z => [enc z])) (hl : ys.length = zs.length) :
    OwnE E 1 (grow (putRow enc (Sort.ahead w n) b o ys.toArray) os) (.slice (some ⟨b, o, none⟩) ys.length c) (ys.map fun z => [enc z]) := by
  obtain ⟨h1, _⟩ := h
  rw [List.length_map] at h1
  rcases h1 with ⟨h1, _⟩ | ⟨b', o', c', cs, hv, hb, hc, ho, _⟩
  · cases h1
  · simp only [Value.slice.injEq, Option.some.injEq, Addr.mk.injEq, and_true, true_and] at hv
    obtain ⟨⟨rfl, rfl⟩, rfl⟩ := hv
    have hcl : cs.toList.length = cs.size := Array.length_toList
    refine ⟨?_, by simp⟩
    rw [List.length_map]
    refine .inr ⟨b, o, c, _, rfl, putRow_heap hb (by omega), by omega, ?_, ?_⟩
    · rw [List.size_toArray, splice_length (by rw [List.length_map]; omega)]; omega
    · have hf : (ys.map fun z => [enc z]).flatten = ys.map enc := by
        clear hl
        induction ys with
        | nil => rfl
        | cons z zs ih => simp [ih]
      have := splice_window (l := cs.toList) (k := ys.map enc) (o := o) (a := 0) (by omega)
      rw [Nat.add_zero, Nat.zero_add, List.length_map] at this
      rw [hf]
      show _ = List.take _ (List.drop o (splice cs.toList o (ys.map enc)))
      rw [Nat.mul_one, this]; simp

end Go.Gx
end

section
/- Rows of structs that are sorted by a function. -/
namespace Go.Gx
open Go Go.Sort Go.Proofs
variable {P : Program} {K : Value → World → Prop} {w : World}

/-- draws, and new blocks: nothing else -/
def Gr (w w' : World) : Prop := ∃ q os, w' = grow (w.drewN q) os
theorem Gr.refl (w : World) : Gr w w := ⟨0, #[], by rw [grow_empty]; rfl⟩
theorem Gr.step_alloc {w w' : World} (h : Gr w w') (o : Obj) : Gr w (w'.alloc o) := by
  obtain ⟨q, os, rfl⟩ := h
  exact ⟨q, os ++ #[o], by rw [alloc_eq_grow, grow_grow]⟩
theorem Gr.step_drew {w w' : World} (h : Gr w w') : Gr w w'.drew := by
  obtain ⟨q, os, rfl⟩ := h
  exact ⟨q + 1, os, by rw [drew_grow]; rfl⟩
theorem Gr.trans {w w' w'' : World} (h : Gr w w') (h' : Gr w' w'') : Gr w w'' := by
  obtain ⟨q, os, rfl⟩ := h
  obtain ⟨q', os', rfl⟩ := h'
  refine ⟨q + q', os ++ os', ?_⟩
  show grow ((grow (w.drewN q) os).drewN q') os' = _
  rw [← grow_grow]
  have : (grow (w.drewN q) os).drewN q' = grow (w.drewN (q + q')) os := by
    unfold grow World.drewN
    simp [Nat.add_assoc]
  rw [this]
theorem Gr.heap {w w' : World} (h : Gr w w') {b : Nat} {o : Obj} (hb : w.heap[b]? = some o) : w'.heap[b]? = some o := by
  obtain ⟨q, os, rfl⟩ := h
  show (w.heap ++ os)[b]? = _
  rw [Array.getElem?_append_left (lt_of_heap hb)]
  exact hb
theorem Gr.fr {w w' : World} (h : Gr w w') : Fr none_ w w' := by
  obtain ⟨q, os, rfl⟩ := h
  refine ⟨?_, fun x hx hn => ?_, fun a ha => ?_, rfl, rfl, rfl⟩
  · show w.heap.size ≤ (w.heap ++ os).size
    rw [Array.size_append]; omega
  · show (w.heap ++ os)[x]? = _
    rw [Array.getElem?_append_left hx]
  · rw [frozen_eq, frozen_eq]
    show (match (w.heap ++ os)[a.block]? with | some (.cells _ _ fz) => (decide (fz.1 ≤ a.off) && decide (a.off < fz.2)) | _ => false) = _
    rw [Array.getElem?_append_left ha]
    rfl

theorem flatten_at {k : Nat} (hk0 : 0 < k) : ∀ {l : List (List Value)} (_ : ∀ x ∈ l, x.length = k) (t : Nat), l.flatten[t]? = (l[t / k]?).bind fun x => x[t % k]?
  | [], _, t => by simp
  | x :: l, h, t => by
    rw [List.flatten_cons]
    have hx := h x (List.mem_cons_self ..)
    by_cases ht : t < k
    · rw [List.getElem?_append_left (by omega), Nat.div_eq_of_lt ht, Nat.mod_eq_of_lt ht]
      rfl
    · rw [List.getElem?_append_right (by omega), hx, flatten_at hk0 (fun y hy => h y (List.mem_cons_of_mem _ hy)) (t - k)]
      have e1 : t / k = (t - k) / k + 1 := by
        have := Nat.add_div_right (t - k) hk0
        rw [Nat.sub_add_cancel (by omega)] at this
        omega
      have e2 : (t - k) % k = t % k := by
        have := Nat.add_mod_right (t - k) k
        rw [Nat.sub_add_cancel (by omega)] at this
        exact this.symm
      rw [e1, e2, List.getElem?_cons_succ]

theorem flatK_list {α : Type} [Inhabited α] {enc : α → List Value} {k : Nat} (hk0 : 0 < k) (hk : ∀ x, (enc x).length = k) (d : Array α) : (flatK enc k d).toList = (d.toList.map enc).flatten := by
  apply List.ext_getElem?
  intro t
  rw [flatten_at hk0 (fun x hx => by obtain ⟨y, _, rfl⟩ := List.mem_map.1 hx; exact hk y)]
  by_cases ht : t < d.size * k
  · have hs : t < (flatK enc k d).toList.length := by rw [Array.length_toList, size_flatK]; exact ht
    have hq : t / k < d.size := Nat.div_lt_of_lt_mul (by rw [Nat.mul_comm]; exact ht)
    have hr : t % k < k := Nat.mod_lt _ hk0
    rw [Array.getElem?_toList, List.getElem?_map, Array.getElem?_toList]
    have h1 := get_flatK enc k d t ht
    have hs' : t < (flatK enc k d).size := by rw [size_flatK]; exact ht
    rw [getElem!_pos _ t hs', getElem!_pos d (t / k) hq] at h1
    rw [Array.getElem?_eq_getElem hs', h1, Array.getElem?_eq_getElem hq]
    simp only [Option.map_some, Option.bind_some]
    rw [List.getElem?_eq_getElem (by rw [hk]; exact hr), getElem!_pos _ (t % k) (by rw [hk]; exact hr)]
  · have h1 : (flatK enc k d).toList[t]? = none := by rw [List.getElem?_eq_none]; rw [Array.length_toList, size_flatK]; omega
    have hq : d.size ≤ t / k := (Nat.le_div_iff_mul_le hk0).2 (by omega)
    rw [h1, List.getElem?_map, Array.getElem?_toList, Array.getElem?_eq_none hq]
    rfl

theorem ownK_holds {α : Type} [Inhabited α] {enc : α → List Value} {k : Nat} (hk0 : 0 < k) (hk : ∀ x, (enc x).length = k) {E b o c : Nat} {zs : List α} (h : OwnE E k w (.slice (some ⟨b, o, none⟩) zs.length c) (zs.map enc)) :
    HoldsK enc k w b o zs.toArray ∧ b < w.heap.size := by
  obtain ⟨h1, _⟩ := h
  rw [List.length_map] at h1
  rcases h1 with ⟨h1, _⟩ | ⟨b', o', c', cs, hv, hb, hc, ho, hl⟩
  · cases h1
  · simp only [Value.slice.injEq, Option.some.injEq, Addr.mk.injEq, and_true, true_and] at hv
    obtain ⟨⟨rfl, rfl⟩, rfl⟩ := hv
    have hle : zs.length * k ≤ c * k := Nat.mul_le_mul_right _ hc
    have hfl := flatK_list hk0 hk zs.toArray
    have hlen : zs.length * k = (flatK enc k zs.toArray).toList.length := by simp
    have := holds_row (enc := id) (o := o) (N := zs.length * k) (zs := (flatK enc k zs.toArray).toList) hb hlen (by omega) (by rw [List.map_id, hfl]; exact hl)
    rw [Array.toArray_toList] at this
    exact ⟨this, lt_of_heap hb⟩

theorem ownK_sorted {α : Type} [Inhabited α] {enc : α → List Value} {k : Nat} (hk0 : 0 < k) (hk : ∀ x, (enc x).length = k) {E b o c n : Nat} {os : Array Obj} {zs ys : List α} (h : OwnE E k w (.slice (some ⟨b, o, none⟩) zs.length c) (zs.map enc)) (hl : ys.length = zs.length) :
    OwnE E k (sortWorldK enc k w b o n ys.toArray os) (.slice (some ⟨b, o, none⟩) zs.length c) (ys.map enc) ∧ Fr (fun x => x = b) w (sortWorldK enc k w b o n ys.toArray os) := by
  refine ⟨?_, putRow_fr⟩
  obtain ⟨h1, _⟩ := h
  rw [List.length_map] at h1
  rcases h1 with ⟨h1, _⟩ | ⟨b', o', c', cs, hv, hb, hc, ho, _⟩
  · cases h1
  · simp only [Value.slice.injEq, Option.some.injEq, Addr.mk.injEq, and_true, true_and] at hv
    obtain ⟨⟨rfl, rfl⟩, rfl⟩ := hv
    have hcl : cs.toList.length = cs.size := Array.length_toList
    have hle : zs.length * k ≤ c * k := Nat.mul_le_mul_right _ hc
    have hfl := flatK_list hk0 hk ys.toArray
    have hlen : (flatK enc k ys.toArray).toList.length = zs.length * k := by rw [Array.length_toList, size_flatK, List.size_toArray, hl]
    refine ⟨?_, fun e he => by obtain ⟨y, _, rfl⟩ := List.mem_map.1 he; exact hk y⟩
    rw [List.length_map, hl]
    have hp := putRow_heap (enc := id) (o := o) (n := n) (os := os) (zs := (flatK enc k ys.toArray).toList) hb (by omega)
    rw [Array.toArray_toList, List.map_id] at hp
    refine .inr ⟨b, o, c, _, rfl, hp, hc, ?_, ?_⟩
    · rw [List.size_toArray, splice_length (by omega)]; omega
    · have := splice_window (l := cs.toList) (k := (flatK enc k ys.toArray).toList) (o := o) (a := 0) (by omega)
      rw [Nat.add_zero, Nat.zero_add, hlen] at this
      show _ = List.take _ (List.drop o (splice cs.toList o _))
      rw [this, hfl]; simp

/-- **slices.SortFunc, of structs** -/
theorem sortK_spec {ρ : Shelf.Ren} (L : SlLaysF0.n6 P ρ) {α : Type} [Inhabited α] {E k : Nat} {enc : α → List Value} (hk0 : 0 < k) (hk : ∀ x, (enc x).length = k) (h1 : ∀ x, ∀ v ∈ enc x, v.oneCell' = true)
    (aE : ∀ w, (isAgg (ρ.t 24)).run P w = .ok true w) (zE : ∀ w, (Go.sizeOf (ρ.t 24)).run P w = .ok k w) (cf : α → α → Int) (hO : SWO (ltOf cf)) (g : Nat) (cb : Array Value) (eg : ∀ args w, (callFunc g args).run P w = .ok (.enter g args) w)
    (hcmp : ∀ x y W, CallsR P g (#[.agg (enc x).toArray, .agg (enc y).toArray] ++ cb) (fun v w' => v = .int .i64 (cf x y) ∧ Gr W w') W)
    {v : Value} {zs : List α} (hv : OwnE E k w v (zs.map enc)) (hl : zs.length < 2 ^ 60)
    (h : ∀ (ys : List α) w', ys.Perm zs → ys.Pairwise (fun x y => ¬ cf y x < 0) → OwnE E k w' v (ys.map enc) → Fr (fun b => blkS v = some b) w w' → K (.tuple #[]) w') : CallsR P (ρ.f 6) #[v, .func (.func g) #[] cb] K w := by
  cases hb : blkS v with
  | none =>
    have he : v = .slice none 0 0 ∧ zs = [] := by
      obtain ⟨g1, _⟩ := hv
      rcases g1 with ⟨g1, g2, _⟩ | ⟨b, o, c, cs, g1, _⟩
      · exact ⟨g1, by rw [List.length_map] at g2; exact List.eq_nil_of_length_eq_zero g2⟩
      · rw [g1] at hb; cases hb
    obtain ⟨rfl, rfl⟩ := he
    refine Calls.mono (AnyF.slices_SortFunc_none L none 0 _ w) ?_
    rintro e w' ⟨rfl, rfl⟩
    exact ⟨_, rfl, h [] _ (List.Perm.refl _) List.Pairwise.nil hv (Fr.refl _ _)⟩
  | some b =>
    have he : ∃ o c, v = .slice (some ⟨b, o, none⟩) zs.length c := by
      obtain ⟨g1, _⟩ := hv
      rcases g1 with ⟨g1, g2, _⟩ | ⟨b', o, c, cs, g1, _⟩
      · rw [g1] at hb; cases hb
      · rw [g1] at hb; cases hb; rw [List.length_map] at g1; exact ⟨o, c, g1⟩
    obtain ⟨o, c, rfl⟩ := he
    obtain ⟨g1, g2⟩ := ownK_holds hk0 hk hv
    have hc : CmpLays P g cb enc k cf b o zs.toArray.size w := fun m os dk _ x y => Calls.mono (hcmp x y _) fun e w' ⟨v, he, hv, q, os', hg⟩ => ⟨by rw [he, hv], q, os', hg⟩
    refine Calls.mono (AnyQ.slices_SortFunc L k aE zE enc hk h1 cf hO g cb b o c zs.toArray w eg hc g1 g2 (by rw [List.size_toArray]; omega)) ?_
    rintro e w' ⟨rfl, d', n, os, ⟨hp1, _, hp2⟩, hs, rfl⟩
    have hsz : d'.size = zs.length := by rw [hp1, List.size_toArray]
    have e1 : (d'.extract 0 zs.toArray.size).toList = d'.toList := by
      rw [List.size_toArray, ← hsz]; simp
    have e2 : (zs.toArray.extract 0 zs.toArray.size).toList = zs := by simp
    rw [e1, e2] at hp2
    have hlen : d'.toList.length = zs.length := by rw [Array.length_toList, hsz]
    obtain ⟨o1, f1⟩ := ownK_sorted hk0 hk (n := n) (os := os) hv hlen
    rw [Array.toArray_toList] at o1 f1
    refine ⟨_, rfl, h d'.toList _ hp2 ?_ o1 (f1.mono fun x _ e => by rw [e]; rfl)⟩
    rw [List.pairwise_iff_getElem]
    intro i j hi hj hij
    have := hs i j (Nat.zero_le _) hij (by rw [List.size_toArray]; omega)
    unfold ltOf at this
    have hi' : i < d'.size := by omega
    have hj' : j < d'.size := by omega
    rw [getElem!_pos d' i hi', getElem!_pos d' j hj'] at this
    simpa using this

end Go.Gx
end
