/- Own texts, put together. -/
import Derived.Test.YtbaebhhengcdcaaGreatDoorC1
import Derived.Maps.RangeRun
import Derived.Maps.Keyed
import Derived.DeepKeys4
import Derived.Laws.Strings
import Derived.Lib.SlicesCompact
import Derived.Sort.Row
import Derived.Sort.Grow
import Derived.Shelf.SlSortCmp.WholeK
import Derived.Shelf.SlSortCmp.NoneTotal
section
/- What the functions of this program ask. -/
set_option linter.unusedVariables false
set_option maxRecDepth 100000
namespace Go.Gx.S
open Go Go.Gx Go.Proofs
-- (*gemel/chassis.Chassis).learned
def p76 (P : Program) (K : Value → World → Prop) (x0 : Value) : World → Prop :=
  opS P (S.alloc 109) fun x1 =>
  opS P (S.nc x0) fun x2 =>
  opS P (S.fa 102 x2 4) fun x3 =>
  opS P (S.ld 46 x3) fun x4 =>
  opS P (S.cl 154 [x4]) fun x5 =>
  opS P (S.alloc 43) fun x6 =>
  opS P (S.st 43 x6 x5) fun x7 =>
  opS P (S.ia 43 x6 (.int .i64 0)) fun x8 =>
  opS P (S.ld 3 x8) fun x9 =>
  opS P (S.ia 43 x6 (.int .i64 1)) fun x10 =>
  opS P (S.ld 3 x10) fun x11 =>
  opS P (S.build 109 [(0, x9), (1, x11)]) fun x12 =>
  opS P (S.st 109 x1 x12) fun x13 =>
  opS P (S.ld 109 x1) fun x14 =>
  K x14
instance fnb76 : FnB Tryz.prog 76 := ⟨Tryz.call76⟩
theorem e76 : p76 Tryz.prog = fun K x0 => denF Tryz.prog Tryz.f76 [x0] K := by kernel_rfl
theorem c76 {K : Value → World → Prop} {x0 : Value} {w : World} (h : p76 Tryz.prog K x0 w) : CallsR Tryz.prog 76 #[x0] K w := by
  rw [e76] at h
  exact denF_sound mixed Tryz.func76 h

-- (*gemel/chassis.Chassis).sent
def p78 (P : Program) (K : Value → World → Prop) (x0 : Value) (x1 : Value) (x2 : Value) : World → Prop :=
  opS P (S.len x1) fun x3 =>
  jnJ 1 (fun x4 =>
    drw <|
    opS P (S.nc x0) fun x5 =>
    opS P (S.fa 102 x5 8) fun x6 =>
    opS P (S.ia 43 x6 (.int .i64 1)) fun x7 =>
    opS P (S.ld 3 x7) fun x8 =>
    opS P (S.len x4) fun x9 =>
    opS P (S.binI .add x8 x9) fun x10 =>
    opS P (S.nc x0) fun x11 =>
    opS P (S.fa 102 x11 8) fun x12 =>
    opS P (S.ia 43 x12 (.int .i64 1)) fun x13 =>
    opS P (S.st 3 x13 x10) fun x14 =>
    K x4
  ) fun j0 =>
  loopJ 2 (fun j1 x4 x5 =>
    opS P (S.binI .lss x5 x3) fun x6 =>
    brn x6 (
      opS P (S.ia 67 x1 x5) fun x7 =>
      opS P (S.ld 86 x7) fun x8 =>
      opS P (S.alloc 86) fun x9 =>
      opS P (S.st 86 x9 x8) fun x10 =>
      opS P (S.fa 86 x9 0) fun x11 =>
      opS P (S.ld 3 x11) fun x12 =>
      opS P (S.cl 16 [x0, x12]) fun x13 =>
      brn x13 (
        opS P (S.fa 86 x9 0) fun x14 =>
        opS P (S.ld 3 x14) fun x15 =>
        opS P (S.call x2 [x15]) fun x16 =>
        brn x16 (
          opS P (S.ld 86 x9) fun x17 =>
          opS P (S.buildS 67 1 [(0, x17)]) fun x18 =>
          opS P (S.bi .append #[67, 67] 67 [x4, x18]) fun x19 =>
          opS P (S.binI .add x5 (.int .i64 1)) fun x20 =>
          j1 x19 x20
        ) (
          opS P (S.binI .add x5 (.int .i64 1)) fun x17 =>
          j1 x4 x17
        )
      ) (
        opS P (S.binI .add x5 (.int .i64 1)) fun x14 =>
        j1 x4 x14
      )
    ) (
      j0 x4
    )
  ) (.slice none 0 0) (.int .i64 0)
instance fnb78 : FnB Tryz.prog 78 := ⟨Tryz.call78⟩
theorem e78 : p78 Tryz.prog = fun K x0 x1 x2 => denF Tryz.prog Tryz.f78 [x0, x1, x2] K := by kernel_rfl
theorem c78 {K : Value → World → Prop} {x0 x1 x2 : Value} {w : World} (h : p78 Tryz.prog K x0 x1 x2 w) : CallsR Tryz.prog 78 #[x0, x1, x2] K w := by
  rw [e78] at h
  exact denF_sound mixed Tryz.func78 h

end Go.Gx.S
-- 78 76
end

section
/- What the functions of this program ask. -/
set_option linter.unusedVariables false
set_option maxRecDepth 100000
namespace Go.Gx.S
open Go Go.Gx Go.Proofs
-- gemel/chassis.New
def p10 (P : Program) (K : Value → World → Prop) (x0 : Value) (x1 : Value) : World → Prop :=
  opS P (S.box 24 x0) fun x2 =>
  opS P (S.fa 24 x2 2) fun x3 =>
  opS P (S.ld 22 x3) fun x4 =>
  opS P (S.len x4) fun x5 =>
  opS P (S.binI .lss x5 (.int .i64 1)) fun x6 =>
  brn x6 (
    K (.tuple #[(.pointer none), (.int .i64 1)])
  ) (
    opS P (S.fa 24 x2 2) fun x7 =>
    opS P (S.ld 22 x7) fun x8 =>
    opS P (S.len x8) fun x9 =>
    opS P (S.binI .gtr x9 (.int .i64 63)) fun x10 =>
    brn x10 (
      K (.tuple #[(.pointer none), (.int .i64 1)])
    ) (
      opS P (S.fa 24 x2 2) fun x11 =>
      opS P (S.ld 22 x11) fun x12 =>
      opS P (S.cl 35 [x12, (.func (.func 34) #[] #[])]) fun x13 =>
      brn x13 (
        K (.tuple #[(.pointer none), (.int .i64 1)])
      ) (
        opS P (S.fa 24 x2 0) fun x14 =>
        opS P (S.ld 3 x14) fun x15 =>
        opS P (S.fa 24 x2 1) fun x16 =>
        opS P (S.ld 3 x16) fun x17 =>
        opS P (S.cl 36 [x15, x17, x1]) fun x18 =>
        opS P (S.ext x18 0) fun x19 =>
        opS P (S.ext x18 1) fun x20 =>
        opS P (S.binI .neq x20 (.int .i64 0)) fun x21 =>
        brn x21 (
          K (.tuple #[(.pointer none), x20])
        ) (
          opS P (S.fa 24 x2 2) fun x22 =>
          opS P (S.ld 22 x22) fun x23 =>
          opS P (S.len x23) fun x24 =>
          opS P (S.fa 24 x2 3) fun x25 =>
          opS P (S.ld 3 x25) fun x26 =>
          opS P (S.cl 37 [x24, x26]) fun x27 =>
          opS P (S.ext x27 0) fun x28 =>
          opS P (S.ext x27 1) fun x29 =>
          opS P (S.binI .neq x29 (.int .i64 0)) fun x30 =>
          brn x30 (
            K (.tuple #[(.pointer none), x29])
          ) (
            opS P (S.fa 24 x2 2) fun x31 =>
            opS P (S.ld 22 x31) fun x32 =>
            opS P (S.len x32) fun x33 =>
            opS P (S.cl 38 [x33]) fun x34 =>
            opS P (S.ext x34 0) fun x35 =>
            opS P (S.ext x34 1) fun x36 =>
            opS P (S.buildS 22 1 [(0, (.int .i64 (-1)))]) fun x37 =>
            opS P (S.fa 24 x2 2) fun x38 =>
            opS P (S.ld 22 x38) fun x39 =>
            opS P (S.bi .append #[22, 22] 22 [x37, x39]) fun x40 =>
            opS P (S.fa 24 x2 0) fun x41 =>
            opS P (S.ld 3 x41) fun x42 =>
            opS P (S.mkm 99 none) fun x43 =>
            opS P (S.build 102 [(0, x35), (1, x42), (2, x40), (3, x43), (4, x28), (5, x19)]) fun x44 =>
            opS P (S.box 102 x44) fun x45 =>
            K (.tuple #[x45, (.int .i64 0)])
          )
        )
      )
    )
  )
instance fnb10 : FnB Tryz.prog 10 := ⟨Tryz.call10⟩
theorem e10 : p10 Tryz.prog = fun K x0 x1 => denF Tryz.prog Tryz.f10 [x0, x1] K := by kernel_rfl
theorem c10 {K : Value → World → Prop} {x0 x1 : Value} {w : World} (h : p10 Tryz.prog K x0 x1 w) : CallsR Tryz.prog 10 #[x0, x1] K w := by
  rw [e10] at h
  exact denF_sound mixed Tryz.func10 h

-- gemel/gemelref23.New
def p11 (P : Program) (K : Value → World → Prop) (x0 : Value) (x1 : Value) : World → Prop :=
  opS P (S.box 24 x0) fun x2 =>
  opS P (S.fa 24 x2 0) fun x3 =>
  opS P (S.ld 3 x3) fun x4 =>
  opS P (S.fa 24 x2 1) fun x5 =>
  opS P (S.ld 3 x5) fun x6 =>
  opS P (S.cl 39 [x4, x6, x1]) fun x7 =>
  opS P (S.ext x7 0) fun x8 =>
  opS P (S.ext x7 1) fun x9 =>
  opS P (S.binI .neq x9 (.int .i64 0)) fun x10 =>
  brn x10 (
    K (.tuple #[(.pointer none), (.int .i64 1)])
  ) (
    opS P (S.fa 24 x2 2) fun x11 =>
    opS P (S.ld 22 x11) fun x12 =>
    opS P (S.len x12) fun x13 =>
    opS P (S.binI .lss x13 (.int .i64 1)) fun x14 =>
    brn x14 (
      K (.tuple #[(.pointer none), (.int .i64 1)])
    ) (
      opS P (S.fa 24 x2 2) fun x15 =>
      opS P (S.ld 22 x15) fun x16 =>
      opS P (S.len x16) fun x17 =>
      opS P (S.binI .gtr x17 (.int .i64 63)) fun x18 =>
      brn x18 (
        K (.tuple #[(.pointer none), (.int .i64 1)])
      ) (
        jnJ 0 (
          opS P (S.fa 24 x2 2) fun x19 =>
          opS P (S.ld 22 x19) fun x20 =>
          opS P (S.len x20) fun x21 =>
          opS P (S.fa 24 x2 3) fun x22 =>
          opS P (S.ld 3 x22) fun x23 =>
          opS P (S.cl 40 [x21, x23]) fun x24 =>
          opS P (S.ext x24 0) fun x25 =>
          opS P (S.ext x24 1) fun x26 =>
          opS P (S.binI .neq x26 (.int .i64 0)) fun x27 =>
          brn x27 (
            K (.tuple #[(.pointer none), (.int .i64 1)])
          ) (
            opS P (S.buildS 22 0 []) fun x28 =>
            opS P (S.fa 24 x2 2) fun x29 =>
            opS P (S.ld 22 x29) fun x30 =>
            opS P (S.bi .append #[22, 22] 22 [x28, x30]) fun x31 =>
            opS P (S.fa 24 x2 2) fun x32 =>
            opS P (S.st 22 x32 x31) fun x33 =>
            opS P (S.fa 24 x2 2) fun x34 =>
            opS P (S.ld 22 x34) fun x35 =>
            opS P (S.len x35) fun x36 =>
            opS P (S.cl 41 [x36]) fun x37 =>
            opS P (S.ext x37 0) fun x38 =>
            opS P (S.ext x37 1) fun x39 =>
            drw <|
            opS P (S.fa 24 x2 2) fun x40 =>
            opS P (S.ld 22 x40) fun x41 =>
            opS P (S.len x41) fun x42 =>
            opS P (S.binI .add x42 (.int .i64 1)) fun x43 =>
            allW (
              opS P (S.ld 24 x2) fun x44 =>
              opS P (S.mks 41 x43 x43) fun x45 =>
              opS P (S.build 45 [(0, x44), (1, x25), (2, x8), (3, x38), (4, x45)]) fun x46 =>
              opS P (S.box 45 x46) fun x47 =>
              K (.tuple #[x47, (.int .i64 0)])
            ) (
              opS P (S.mks 41 x43 x43) fun x44 =>
              opS P (S.ld 24 x2) fun x45 =>
              opS P (S.build 45 [(0, x45), (1, x25), (2, x8), (3, x38), (4, x44)]) fun x46 =>
              opS P (S.box 45 x46) fun x47 =>
              K (.tuple #[x47, (.int .i64 0)])
            )
          )
        ) fun j0 =>
        loopJ 1 (fun j1 x19 =>
          opS P (S.fa 24 x2 2) fun x20 =>
          opS P (S.ld 22 x20) fun x21 =>
          opS P (S.len x21) fun x22 =>
          opS P (S.binI .lss x19 x22) fun x23 =>
          brn x23 (
            opS P (S.fa 24 x2 2) fun x24 =>
            opS P (S.ld 22 x24) fun x25 =>
            opS P (S.ia 22 x25 x19) fun x26 =>
            opS P (S.ld 3 x26) fun x27 =>
            opS P (S.binI .lss x27 (.int .i64 0)) fun x28 =>
            brn x28 (
              K (.tuple #[(.pointer none), (.int .i64 1)])
            ) (
              opS P (S.fa 24 x2 2) fun x29 =>
              opS P (S.ld 22 x29) fun x30 =>
              opS P (S.ia 22 x30 x19) fun x31 =>
              opS P (S.ld 3 x31) fun x32 =>
              opS P (S.binI .gtr x32 (.int .i64 2)) fun x33 =>
              brn x33 (
                K (.tuple #[(.pointer none), (.int .i64 1)])
              ) (
                opS P (S.binI .add x19 (.int .i64 1)) fun x34 =>
                j1 x34
              )
            )
          ) (
            j0
          )
        ) (.int .i64 0)
      )
    )
  )
instance fnb11 : FnB Tryz.prog 11 := ⟨Tryz.call11⟩
theorem e11 : p11 Tryz.prog = fun K x0 x1 => denF Tryz.prog Tryz.f11 [x0, x1] K := by kernel_rfl
theorem c11 {K : Value → World → Prop} {x0 x1 : Value} {w : World} (h : p11 Tryz.prog K x0 x1 w) : CallsR Tryz.prog 11 #[x0, x1] K w := by
  rw [e11] at h
  exact denF_sound mixed Tryz.func11 h

-- gemel/chassis.New$1
def p34 (P : Program) (K : Value → World → Prop) (x0 : Value) : World → Prop :=
  opS P (S.binI .lss x0 (.int .i64 0)) fun x1 =>
  brn x1 (
    K (.bool true)
  ) (
    opS P (S.binI .gtr x0 (.int .i64 2)) fun x2 =>
    K x2
  )
instance fnb34 : FnB Tryz.prog 34 := ⟨Tryz.call34⟩
theorem e34 : p34 Tryz.prog = fun K x0 => denF Tryz.prog Tryz.f34 [x0] K := by kernel_rfl
theorem c34 {K : Value → World → Prop} {x0 : Value} {w : World} (h : p34 Tryz.prog K x0 w) : CallsR Tryz.prog 34 #[x0] K w := by
  rw [e34] at h
  exact denF_sound mixed Tryz.func34 h

-- slices.ContainsFunc[[]int,int]
def p35 (P : Program) (K : Value → World → Prop) (x0 : Value) (x1 : Value) : World → Prop :=
  opS P (S.cl 97 [x0, x1]) fun x2 =>
  opS P (S.binI .geq x2 (.int .i64 0)) fun x3 =>
  K x3
instance fnb35 : FnB Tryz.prog 35 := ⟨Tryz.call35⟩
theorem e35 : p35 Tryz.prog = fun K x0 x1 => denF Tryz.prog Tryz.f35 [x0, x1] K := by kernel_rfl
theorem c35 {K : Value → World → Prop} {x0 x1 : Value} {w : World} (h : p35 Tryz.prog K x0 x1 w) : CallsR Tryz.prog 35 #[x0, x1] K w := by
  rw [e35] at h
  exact denF_sound mixed Tryz.func35 h

-- slices.IndexFunc[[]int,int]
def p97 (P : Program) (K : Value → World → Prop) (x0 : Value) (x1 : Value) : World → Prop :=
  opS P (S.len x0) fun x2 =>
  jnJ 0 (
    K (.int .i64 (-1))
  ) fun j0 =>
  loopJ 1 (fun j1 x3 =>
    opS P (S.binI .lss x3 x2) fun x4 =>
    brn x4 (
      opS P (S.ia 22 x0 x3) fun x5 =>
      opS P (S.ld 3 x5) fun x6 =>
      opS P (S.call x1 [x6]) fun x7 =>
      brn x7 (
        K x3
      ) (
        opS P (S.binI .add x3 (.int .i64 1)) fun x8 =>
        j1 x8
      )
    ) (
      j0
    )
  ) (.int .i64 0)
instance fnb97 : FnB Tryz.prog 97 := ⟨Tryz.call97⟩
theorem e97 : p97 Tryz.prog = fun K x0 x1 => denF Tryz.prog Tryz.f97 [x0, x1] K := by kernel_rfl
theorem c97 {K : Value → World → Prop} {x0 x1 : Value} {w : World} (h : p97 Tryz.prog K x0 x1 w) : CallsR Tryz.prog 97 #[x0, x1] K w := by
  rw [e97] at h
  exact denF_sound mixed Tryz.func97 h

end Go.Gx.S
-- 10 34 35 97 11
end

section
/- What the functions of this program ask. -/
set_option linter.unusedVariables false
set_option maxRecDepth 100000
namespace Go.Gx.S
open Go Go.Gx Go.Proofs
-- (*gemel/gemelref23.Chassis).Link
def p54 (P : Program) (K : Value → World → Prop) (x0 : Value) (x1 : Value) (x2 : Value) : World → Prop :=
  opS P (S.cl 82 [x0, x1]) fun x3 =>
  opS P (S.un .not x3) fun x4 =>
  brn x4 (
    K (.int .i64 1)
  ) (
    opS P (S.cl 83 [x0, x1]) fun x5 =>
    opS P (S.un .not x5) fun x6 =>
    brn x6 (
      K (.int .i64 4)
    ) (
      opS P (S.nc x0) fun x7 =>
      opS P (S.fa 45 x7 4) fun x8 =>
      opS P (S.ld 41 x8) fun x9 =>
      opS P (S.ia 41 x9 x1) fun x10 =>
      opS P (S.st 4 x10 x2) fun x11 =>
      opS P (S.nc x0) fun x12 =>
      opS P (S.fa 45 x12 0) fun x13 =>
      opS P (S.fa 24 x13 2) fun x14 =>
      opS P (S.ld 22 x14) fun x15 =>
      opS P (S.binI .sub x1 (.int .i64 1)) fun x16 =>
      opS P (S.ia 22 x15 x16) fun x17 =>
      opS P (S.ld 3 x17) fun x18 =>
      opS P (S.binI .eql x18 (.int .i64 2)) fun x19 =>
      brn x19 (
        opS P (S.nc x0) fun x20 =>
        opS P (S.fa 45 x20 3) fun x21 =>
        opS P (S.ld 40 x21) fun x22 =>
        opS P (S.cl 108 [x22, x1, x2]) fun x23 =>
        opS P (S.ext x23 0) fun x24 =>
        opS P (S.ext x23 1) fun x25 =>
        opS P (S.cl 86 [x0, x24]) fun x26 =>
        K (.int .i64 0)
      ) (
        K (.int .i64 0)
      )
    )
  )
instance fnb54 : FnB Tryz.prog 54 := ⟨Tryz.call54⟩
theorem e54 : p54 Tryz.prog = fun K x0 x1 x2 => denF Tryz.prog Tryz.f54 [x0, x1, x2] K := by kernel_rfl
theorem c54 {K : Value → World → Prop} {x0 x1 x2 : Value} {w : World} (h : p54 Tryz.prog K x0 x1 x2 w) : CallsR Tryz.prog 54 #[x0, x1, x2] K w := by
  rw [e54] at h
  exact denF_sound mixed Tryz.func54 h

-- (*gemel/gemelref23.Chassis).has
def p82 (P : Program) (K : Value → World → Prop) (x0 : Value) (x1 : Value) : World → Prop :=
  opS P (S.binI .geq x1 (.int .i64 1)) fun x2 =>
  brn x2 (
    opS P (S.nc x0) fun x3 =>
    opS P (S.fa 45 x3 0) fun x4 =>
    opS P (S.fa 24 x4 2) fun x5 =>
    opS P (S.ld 22 x5) fun x6 =>
    opS P (S.len x6) fun x7 =>
    opS P (S.binI .leq x1 x7) fun x8 =>
    K x8
  ) (
    K (.bool false)
  )
instance fnb82 : FnB Tryz.prog 82 := ⟨Tryz.call82⟩
theorem e82 : p82 Tryz.prog = fun K x0 x1 => denF Tryz.prog Tryz.f82 [x0, x1] K := by kernel_rfl
theorem c82 {K : Value → World → Prop} {x0 x1 : Value} {w : World} (h : p82 Tryz.prog K x0 x1 w) : CallsR Tryz.prog 82 #[x0, x1] K w := by
  rw [e82] at h
  exact denF_sound mixed Tryz.func82 h

-- (*gemel/gemelref23.Chassis).mine
def p83 (P : Program) (K : Value → World → Prop) (x0 : Value) (x1 : Value) : World → Prop :=
  drw <|
  opS P (S.nc x0) fun x2 =>
  opS P (S.fa 45 x2 0) fun x3 =>
  opS P (S.fa 24 x3 2) fun x4 =>
  opS P (S.ld 22 x4) fun x5 =>
  opS P (S.binI .sub x1 (.int .i64 1)) fun x6 =>
  opS P (S.ia 22 x5 x6) fun x7 =>
  opS P (S.ld 3 x7) fun x8 =>
  opS P (S.nc x0) fun x9 =>
  opS P (S.fa 45 x9 0) fun x10 =>
  opS P (S.fa 24 x10 0) fun x11 =>
  opS P (S.ld 3 x11) fun x12 =>
  opS P (S.binI .eql x8 x12) fun x13 =>
  brn x13 (
    K (.bool true)
  ) (
    opS P (S.nc x0) fun x14 =>
    opS P (S.fa 45 x14 0) fun x15 =>
    opS P (S.fa 24 x15 2) fun x16 =>
    opS P (S.ld 22 x16) fun x17 =>
    opS P (S.binI .sub x1 (.int .i64 1)) fun x18 =>
    opS P (S.ia 22 x17 x18) fun x19 =>
    opS P (S.ld 3 x19) fun x20 =>
    opS P (S.binI .eql x20 (.int .i64 2)) fun x21 =>
    K x21
  )
instance fnb83 : FnB Tryz.prog 83 := ⟨Tryz.call83⟩
theorem e83 : p83 Tryz.prog = fun K x0 x1 => denF Tryz.prog Tryz.f83 [x0, x1] K := by kernel_rfl
theorem c83 {K : Value → World → Prop} {x0 x1 : Value} {w : World} (h : p83 Tryz.prog K x0 x1 w) : CallsR Tryz.prog 83 #[x0, x1] K w := by
  rw [e83] at h
  exact denF_sound mixed Tryz.func83 h

-- (*gemel/gemelref23.Chassis).tell
def p86 (P : Program) (K : Value → World → Prop) (x0 : Value) (x1 : Value) : World → Prop :=
  jnJ 0 (
    K (.tuple #[])
  ) fun j0 =>
  loopJ 1 (fun j1 x2 =>
    opS P (S.len x1) fun x3 =>
    opS P (S.binI .lss x2 x3) fun x4 =>
    brn x4 (
      opS P (S.nc x0) fun x5 =>
      opS P (S.fa 45 x5 5) fun x6 =>
      opS P (S.ld 42 x6) fun x7 =>
      opS P (S.binN .neq (S.isNilP x7)) fun x8 =>
      brn x8 (
        drw <|
        opS P (S.nc x0) fun x9 =>
        opS P (S.fa 45 x9 5) fun x10 =>
        opS P (S.ld 42 x10) fun x11 =>
        opS P (S.ia 135 x1 x2) fun x12 =>
        opS P (S.ld 56 x12) fun x13 =>
        opS P (S.cl 166 [x11, x13]) fun x14 =>
        opS P (S.binI .add x2 (.int .i64 1)) fun x15 =>
        j1 x15
      ) (
        j0
      )
    ) (
      j0
    )
  ) (.int .i64 0)
instance fnb86 : FnB Tryz.prog 86 := ⟨Tryz.call86⟩
theorem e86 : p86 Tryz.prog = fun K x0 x1 => denF Tryz.prog Tryz.f86 [x0, x1] K := by kernel_rfl
theorem c86 {K : Value → World → Prop} {x0 x1 : Value} {w : World} (h : p86 Tryz.prog K x0 x1 w) : CallsR Tryz.prog 86 #[x0, x1] K w := by
  rw [e86] at h
  exact denF_sound mixed Tryz.func86 h

end Go.Gx.S
-- 82 83 86 54
end

section
/- What the functions of this program ask. -/
set_option linter.unusedVariables false
set_option maxRecDepth 100000
namespace Go.Gx.S
open Go Go.Gx Go.Proofs
-- (*gemel/chassis.Chassis).Session
def p12 (P : Program) (K : Value → World → Prop) (x0 : Value) : World → Prop :=
  opS P (S.nc x0) fun x1 =>
  opS P (S.fa 102 x1 5) fun x2 =>
  opS P (S.ld 33 x2) fun x3 =>
  K x3
instance fnb12 : FnB Tryz.prog 12 := ⟨Tryz.call12⟩
theorem e12 : p12 Tryz.prog = fun K x0 => denF Tryz.prog Tryz.f12 [x0] K := by kernel_rfl
theorem c12 {K : Value → World → Prop} {x0 : Value} {w : World} (h : p12 Tryz.prog K x0 w) : CallsR Tryz.prog 12 #[x0] K w := by
  rw [e12] at h
  exact denF_sound mixed Tryz.func12 h

-- (*gemel/chassis.Chassis).Bridge
def p14 (P : Program) (K : Value → World → Prop) (x0 : Value) : World → Prop :=
  opS P (S.nc x0) fun x1 =>
  opS P (S.fa 102 x1 4) fun x2 =>
  opS P (S.ld 46 x2) fun x3 =>
  K x3
instance fnb14 : FnB Tryz.prog 14 := ⟨Tryz.call14⟩
theorem e14 : p14 Tryz.prog = fun K x0 => denF Tryz.prog Tryz.f14 [x0] K := by kernel_rfl
theorem c14 {K : Value → World → Prop} {x0 : Value} {w : World} (h : p14 Tryz.prog K x0 w) : CallsR Tryz.prog 14 #[x0] K w := by
  rw [e14] at h
  exact denF_sound mixed Tryz.func14 h

-- (*gemel/chassis.Chassis).Serves
def p16 (P : Program) (K : Value → World → Prop) (x0 : Value) (x1 : Value) : World → Prop :=
  opS P (S.cl 43 [x0, x1]) fun x2 =>
  opS P (S.un .not x2) fun x3 =>
  brn x3 (
    K (.bool false)
  ) (
    opS P (S.nc x0) fun x4 =>
    opS P (S.fa 102 x4 2) fun x5 =>
    opS P (S.ld 22 x5) fun x6 =>
    opS P (S.ia 22 x6 x1) fun x7 =>
    opS P (S.ld 3 x7) fun x8 =>
    opS P (S.binI .eql x8 (.int .i64 2)) fun x9 =>
    brn x9 (
      jnJ 1 (fun x10 =>
        K x10
      ) fun j0 =>
      opS P (S.nc x0) fun x10 =>
      opS P (S.fa 102 x10 7) fun x11 =>
      opS P (S.ld 4 x11) fun x12 =>
      brn x12 (
        opS P (S.nc x0) fun x13 =>
        opS P (S.fa 102 x13 0) fun x14 =>
        opS P (S.ld 96 x14) fun x15 =>
        opS P (S.cl 44 [x15, x1]) fun x16 =>
        j0 x16
      ) (
        j0 (.bool false)
      )
    ) (
      opS P (S.nc x0) fun x10 =>
      opS P (S.fa 102 x10 3) fun x11 =>
      opS P (S.ld 99 x11) fun x12 =>
      opS P (S.lk 99 x12 x1 false) fun x13 =>
      K x13
    )
  )
instance fnb16 : FnB Tryz.prog 16 := ⟨Tryz.call16⟩
theorem e16 : p16 Tryz.prog = fun K x0 x1 => denF Tryz.prog Tryz.f16 [x0, x1] K := by kernel_rfl
theorem c16 {K : Value → World → Prop} {x0 x1 : Value} {w : World} (h : p16 Tryz.prog K x0 x1 w) : CallsR Tryz.prog 16 #[x0, x1] K w := by
  rw [e16] at h
  exact denF_sound mixed Tryz.func16 h

-- (*gemel/chassis.Chassis).Waits
def p17 (P : Program) (K : Value → World → Prop) (x0 : Value) : World → Prop :=
  opS P (S.nc x0) fun x1 =>
  opS P (S.fa 102 x1 6) fun x2 =>
  opS P (S.ld 100 x2) fun x3 =>
  opS P (S.binN .eql (S.isNilP x3)) fun x4 =>
  brn x4 (
    K (.int .i64 0)
  ) (
    opS P (S.nc x0) fun x5 =>
    opS P (S.fa 102 x5 6) fun x6 =>
    opS P (S.ld 100 x6) fun x7 =>
    opS P (S.cl 45 [x7]) fun x8 =>
    K x8
  )
instance fnb17 : FnB Tryz.prog 17 := ⟨Tryz.call17⟩
theorem e17 : p17 Tryz.prog = fun K x0 => denF Tryz.prog Tryz.f17 [x0] K := by kernel_rfl
theorem c17 {K : Value → World → Prop} {x0 : Value} {w : World} (h : p17 Tryz.prog K x0 w) : CallsR Tryz.prog 17 #[x0] K w := by
  rw [e17] at h
  exact denF_sound mixed Tryz.func17 h

-- (*gemel/chassis.Chassis).Link
def p26 (P : Program) (K : Value → World → Prop) (x0 : Value) (x1 : Value) (x2 : Value) : World → Prop :=
  opS P (S.cl 73 [x0, x1]) fun x3 =>
  opS P (S.un .not x3) fun x4 =>
  brn x4 (
    K (.int .i64 1)
  ) (
    opS P (S.cl 43 [x0, x1]) fun x5 =>
    opS P (S.un .not x5) fun x6 =>
    brn x6 (
      K (.int .i64 4)
    ) (
      opS P (S.nc x0) fun x7 =>
      opS P (S.fa 102 x7 3) fun x8 =>
      opS P (S.ld 99 x8) fun x9 =>
      opS P (S.mu 99 x9 x1 x2) fun x10 =>
      opS P (S.nc x0) fun x11 =>
      opS P (S.fa 102 x11 2) fun x12 =>
      opS P (S.ld 22 x12) fun x13 =>
      opS P (S.ia 22 x13 x1) fun x14 =>
      opS P (S.ld 3 x14) fun x15 =>
      opS P (S.binI .eql x15 (.int .i64 2)) fun x16 =>
      brn x16 (
        opS P (S.nc x0) fun x17 =>
        opS P (S.fa 102 x17 0) fun x18 =>
        opS P (S.ld 96 x18) fun x19 =>
        opS P (S.cl 74 [x19, x1, x2]) fun x20 =>
        opS P (S.ext x20 0) fun x21 =>
        opS P (S.ext x20 1) fun x22 =>
        opS P (S.cl 75 [x0, x21]) fun x23 =>
        K (.int .i64 0)
      ) (
        K (.int .i64 0)
      )
    )
  )
instance fnb26 : FnB Tryz.prog 26 := ⟨Tryz.call26⟩
theorem e26 : p26 Tryz.prog = fun K x0 x1 x2 => denF Tryz.prog Tryz.f26 [x0, x1, x2] K := by kernel_rfl
theorem c26 {K : Value → World → Prop} {x0 x1 x2 : Value} {w : World} (h : p26 Tryz.prog K x0 x1 x2 w) : CallsR Tryz.prog 26 #[x0, x1, x2] K w := by
  rw [e26] at h
  exact denF_sound mixed Tryz.func26 h

-- (*gemel/chassis.Chassis).mine
def p43 (P : Program) (K : Value → World → Prop) (x0 : Value) (x1 : Value) : World → Prop :=
  drw <|
  opS P (S.cl 73 [x0, x1]) fun x2 =>
  brn x2 (
    opS P (S.nc x0) fun x3 =>
    opS P (S.fa 102 x3 2) fun x4 =>
    opS P (S.ld 22 x4) fun x5 =>
    opS P (S.ia 22 x5 x1) fun x6 =>
    opS P (S.ld 3 x6) fun x7 =>
    opS P (S.nc x0) fun x8 =>
    opS P (S.fa 102 x8 1) fun x9 =>
    opS P (S.ld 3 x9) fun x10 =>
    opS P (S.binI .eql x7 x10) fun x11 =>
    brn x11 (
      K (.bool true)
    ) (
      opS P (S.nc x0) fun x12 =>
      opS P (S.fa 102 x12 2) fun x13 =>
      opS P (S.ld 22 x13) fun x14 =>
      opS P (S.ia 22 x14 x1) fun x15 =>
      opS P (S.ld 3 x15) fun x16 =>
      opS P (S.binI .eql x16 (.int .i64 2)) fun x17 =>
      K x17
    )
  ) (
    K (.bool false)
  )
instance fnb43 : FnB Tryz.prog 43 := ⟨Tryz.call43⟩
theorem e43 : p43 Tryz.prog = fun K x0 x1 => denF Tryz.prog Tryz.f43 [x0, x1] K := by kernel_rfl
theorem c43 {K : Value → World → Prop} {x0 x1 : Value} {w : World} (h : p43 Tryz.prog K x0 x1 w) : CallsR Tryz.prog 43 #[x0, x1] K w := by
  rw [e43] at h
  exact denF_sound mixed Tryz.func43 h

-- (*gemel/chassis.Chassis).has
def p73 (P : Program) (K : Value → World → Prop) (x0 : Value) (x1 : Value) : World → Prop :=
  opS P (S.binI .geq x1 (.int .i64 1)) fun x2 =>
  brn x2 (
    opS P (S.nc x0) fun x3 =>
    opS P (S.fa 102 x3 2) fun x4 =>
    opS P (S.ld 22 x4) fun x5 =>
    opS P (S.len x5) fun x6 =>
    opS P (S.binI .lss x1 x6) fun x7 =>
    K x7
  ) (
    K (.bool false)
  )
instance fnb73 : FnB Tryz.prog 73 := ⟨Tryz.call73⟩
theorem e73 : p73 Tryz.prog = fun K x0 x1 => denF Tryz.prog Tryz.f73 [x0, x1] K := by kernel_rfl
theorem c73 {K : Value → World → Prop} {x0 x1 : Value} {w : World} (h : p73 Tryz.prog K x0 x1 w) : CallsR Tryz.prog 73 #[x0, x1] K w := by
  rw [e73] at h
  exact denF_sound mixed Tryz.func73 h

-- (*gemel/chassis.Chassis).tell
def p75 (P : Program) (K : Value → World → Prop) (x0 : Value) (x1 : Value) : World → Prop :=
  opS P (S.len x1) fun x2 =>
  jnJ 0 (
    K (.tuple #[])
  ) fun j0 =>
  loopJ 1 (fun j1 x3 =>
    opS P (S.binI .lss x3 x2) fun x4 =>
    brn x4 (
      opS P (S.ia 135 x1 x3) fun x5 =>
      opS P (S.ld 56 x5) fun x6 =>
      opS P (S.alloc 56) fun x7 =>
      opS P (S.st 56 x7 x6) fun x8 =>
      opS P (S.nc x0) fun x9 =>
      opS P (S.fa 102 x9 6) fun x10 =>
      opS P (S.ld 100 x10) fun x11 =>
      opS P (S.binN .neq (S.isNilP x11)) fun x12 =>
      brn x12 (
        drw <|
        opS P (S.nc x0) fun x13 =>
        opS P (S.fa 102 x13 6) fun x14 =>
        opS P (S.ld 100 x14) fun x15 =>
        opS P (S.ld 56 x7) fun x16 =>
        opS P (S.cl 153 [x15, x16]) fun x17 =>
        opS P (S.binI .add x3 (.int .i64 1)) fun x18 =>
        j1 x18
      ) (
        opS P (S.binI .add x3 (.int .i64 1)) fun x13 =>
        j1 x13
      )
    ) (
      j0
    )
  ) (.int .i64 0)
instance fnb75 : FnB Tryz.prog 75 := ⟨Tryz.call75⟩
theorem e75 : p75 Tryz.prog = fun K x0 x1 => denF Tryz.prog Tryz.f75 [x0, x1] K := by kernel_rfl
theorem c75 {K : Value → World → Prop} {x0 x1 : Value} {w : World} (h : p75 Tryz.prog K x0 x1 w) : CallsR Tryz.prog 75 #[x0, x1] K w := by
  rw [e75] at h
  exact denF_sound mixed Tryz.func75 h

-- (*gemel/chassis.Chassis).first
def p93 (P : Program) (K : Value → World → Prop) (x0 : Value) : World → Prop :=
  opS P (S.nc x0) fun x1 =>
  opS P (S.fa 102 x1 5) fun x2 =>
  opS P (S.ld 33 x2) fun x3 =>
  opS P (S.cl 33 [x3]) fun x4 =>
  opS P (S.binI .eql x4 (.int .i64 2)) fun x5 =>
  K x5
instance fnb93 : FnB Tryz.prog 93 := ⟨Tryz.call93⟩
theorem e93 : p93 Tryz.prog = fun K x0 => denF Tryz.prog Tryz.f93 [x0] K := by kernel_rfl
theorem c93 {K : Value → World → Prop} {x0 : Value} {w : World} (h : p93 Tryz.prog K x0 w) : CallsR Tryz.prog 93 #[x0] K w := by
  rw [e93] at h
  exact denF_sound mixed Tryz.func93 h

-- (*gemel/chassis.Chassis).alone
def p94 (P : Program) (K : Value → World → Prop) (x0 : Value) : World → Prop :=
  jnJ 0 (
    opS P (S.nc x0) fun x1 =>
    opS P (S.fa 102 x1 7) fun x2 =>
    opS P (S.ld 4 x2) fun x3 =>
    brn x3 (
      opS P (S.nc x0) fun x4 =>
      opS P (S.fa 102 x4 7) fun x5 =>
      opS P (S.st 4 x5 (.bool true)) fun x6 =>
      K (.tuple #[])
    ) (
      opS P (S.cl 93 [x0]) fun x4 =>
      opS P (S.nc x0) fun x5 =>
      opS P (S.fa 102 x5 7) fun x6 =>
      opS P (S.st 4 x6 x4) fun x7 =>
      K (.tuple #[])
    )
  ) fun j0 =>
  drw <|
  opS P (S.nc x0) fun x1 =>
  opS P (S.fa 102 x1 0) fun x2 =>
  allW (
    opS P (S.ld 96 x2) fun x3 =>
    opS P (S.cl 93 [x0]) fun x4 =>
    opS P (S.cl 179 [x3, x4]) fun x5 =>
    j0
  ) (
    opS P (S.cl 93 [x0]) fun x3 =>
    opS P (S.ld 96 x2) fun x4 =>
    opS P (S.cl 179 [x4, x3]) fun x5 =>
    j0
  )
instance fnb94 : FnB Tryz.prog 94 := ⟨Tryz.call94⟩
theorem e94 : p94 Tryz.prog = fun K x0 => denF Tryz.prog Tryz.f94 [x0] K := by kernel_rfl
theorem c94 {K : Value → World → Prop} {x0 : Value} {w : World} (h : p94 Tryz.prog K x0 w) : CallsR Tryz.prog 94 #[x0] K w := by
  rw [e94] at h
  exact denF_sound mixed Tryz.func94 h

end Go.Gx.S
-- 73 43 16 17 75 26 14 12 93 94
end

section
/- What the functions of this program ask. -/
set_option linter.unusedVariables false
set_option maxRecDepth 100000
namespace Go.Gx.S
open Go Go.Gx Go.Proofs
-- gemel/gemelref12.SameOuts
instance fnb25 : FnB Tryz.prog 25 := ⟨Tryz.call25⟩
def p37 (P : Program) (K : Value → World → Prop) (x0 : Value) (x1 : Value) : World → Prop :=
  opS P (S.binI .lss x0 (.int .i64 1)) fun x2 =>
  brn x2 (
    K (.tuple #[(.pointer none), (.int .i64 1)])
  ) (
    opS P (S.binI .gtr x0 (.int .i64 63)) fun x3 =>
    brn x3 (
      K (.tuple #[(.pointer none), (.int .i64 1)])
    ) (
      opS P (S.binI .add x0 (.int .i64 1)) fun x4 =>
      opS P (S.cl 98 [x4]) fun x5 =>
      opS P (S.ext x5 0) fun x6 =>
      opS P (S.ext x5 1) fun x7 =>
      opS P (S.cl 99 [x1]) fun x8 =>
      opS P (S.ext x8 0) fun x9 =>
      opS P (S.ext x8 1) fun x10 =>
      opS P (S.binI .neq x10 (.int .i64 0)) fun x11 =>
      brn x11 (
        K (.tuple #[(.pointer none), x10])
      ) (
        opS P (S.binI .add x0 (.int .i64 1)) fun x12 =>
        opS P (S.mks 22 x12 x12) fun x13 =>
        opS P (S.build 116 [(0, x6), (1, x9), (2, x13)]) fun x14 =>
        opS P (S.box 116 x14) fun x15 =>
        K (.tuple #[x15, (.int .i64 0)])
      )
    )
  )
instance fnb37 : FnB Tryz.prog 37 := ⟨Tryz.call37⟩
theorem e37 : p37 Tryz.prog = fun K x0 x1 => denF Tryz.prog Tryz.f37 [x0, x1] K := by kernel_rfl
theorem c37 {K : Value → World → Prop} {x0 x1 : Value} {w : World} (h : p37 Tryz.prog K x0 x1 w) : CallsR Tryz.prog 37 #[x0, x1] K w := by
  rw [e37] at h
  exact denF_sound mixed Tryz.func37 h

-- gemel/gemelref12.New
def p40 (P : Program) (K : Value → World → Prop) (x0 : Value) (x1 : Value) : World → Prop :=
  opS P (S.cl 100 [x1]) fun x2 =>
  opS P (S.ext x2 0) fun x3 =>
  opS P (S.ext x2 1) fun x4 =>
  opS P (S.binI .lss x0 (.int .i64 1)) fun x5 =>
  brn x5 (
    K (.tuple #[(.pointer none), (.int .i64 1)])
  ) (
    opS P (S.binI .gtr x0 (.int .i64 63)) fun x6 =>
    brn x6 (
      K (.tuple #[(.pointer none), (.int .i64 1)])
    ) (
      opS P (S.binI .neq x4 (.int .i64 0)) fun x7 =>
      brn x7 (
        K (.tuple #[(.pointer none), (.int .i64 1)])
      ) (
        opS P (S.binI .add x0 (.int .i64 1)) fun x8 =>
        opS P (S.cl 101 [x8]) fun x9 =>
        opS P (S.ext x9 0) fun x10 =>
        opS P (S.ext x9 1) fun x11 =>
        opS P (S.binI .add x0 (.int .i64 1)) fun x12 =>
        opS P (S.mks 22 x12 x12) fun x13 =>
        opS P (S.build 123 [(0, x0), (1, x10), (2, x3), (3, x13)]) fun x14 =>
        opS P (S.box 123 x14) fun x15 =>
        K (.tuple #[x15, (.int .i64 0)])
      )
    )
  )
instance fnb40 : FnB Tryz.prog 40 := ⟨Tryz.call40⟩
theorem e40 : p40 Tryz.prog = fun K x0 x1 => denF Tryz.prog Tryz.f40 [x0, x1] K := by kernel_rfl
theorem c40 {K : Value → World → Prop} {x0 x1 : Value} {w : World} (h : p40 Tryz.prog K x0 x1 w) : CallsR Tryz.prog 40 #[x0, x1] K w := by
  rw [e40] at h
  exact denF_sound mixed Tryz.func40 h

-- (*gemel/gemelref12.Bridge).Take
instance fnb85 : FnB Tryz.prog 85 := ⟨Tryz.call85⟩
end Go.Gx.S
-- 85 37 40 25
end

section
/- What the functions of this program ask. -/
set_option linter.unusedVariables false
set_option maxRecDepth 100000
namespace Go.Gx.S
open Go Go.Gx Go.Proofs
-- (*gemel/gemelref12.Bridge).way
instance fnb165 : FnB Tryz.prog 165 := ⟨Tryz.call165⟩
end Go.Gx.S
-- 165
end

section
/- What the functions of this program ask. -/
set_option linter.unusedVariables false
set_option maxRecDepth 100000
namespace Go.Gx.S
open Go Go.Gx Go.Proofs
-- (*gemel/gemelref12.Bridge).Relay
instance fnb147 : FnB Tryz.prog 147 := ⟨Tryz.call147⟩
end Go.Gx.S
-- 147
end

section
/- What the functions of this program ask. -/
set_option linter.unusedVariables false
set_option maxRecDepth 100000
namespace Go.Gx.S
open Go Go.Gx Go.Proofs
-- (*gemel/gemelref12.Bridge).Set
def p53 (P : Program) (K : Value → World → Prop) (x0 : Value) (x1 : Value) (x2 : Value) : World → Prop :=
  opS P (S.cl 107 [x0, x1]) fun x3 =>
  opS P (S.un .not x3) fun x4 =>
  brn x4 (
    K (.int .i64 1)
  ) (
    opS P (S.binI .lss x2 (.int .i64 0)) fun x5 =>
    brn x5 (
      K (.int .i64 1)
    ) (
      opS P (S.binI .gtr x2 (.int .i64 2)) fun x6 =>
      brn x6 (
        K (.int .i64 1)
      ) (
        opS P (S.nc x0) fun x7 =>
        opS P (S.fa 123 x7 3) fun x8 =>
        opS P (S.ld 22 x8) fun x9 =>
        opS P (S.ia 22 x9 x1) fun x10 =>
        opS P (S.st 3 x10 x2) fun x11 =>
        K (.int .i64 0)
      )
    )
  )
instance fnb53 : FnB Tryz.prog 53 := ⟨Tryz.call53⟩
theorem e53 : p53 Tryz.prog = fun K x0 x1 x2 => denF Tryz.prog Tryz.f53 [x0, x1, x2] K := by kernel_rfl
theorem c53 {K : Value → World → Prop} {x0 x1 x2 : Value} {w : World} (h : p53 Tryz.prog K x0 x1 x2 w) : CallsR Tryz.prog 53 #[x0, x1, x2] K w := by
  rw [e53] at h
  exact denF_sound mixed Tryz.func53 h

-- (*gemel/gemelref12.Bridge).has
def p107 (P : Program) (K : Value → World → Prop) (x0 : Value) (x1 : Value) : World → Prop :=
  opS P (S.binI .geq x1 (.int .i64 1)) fun x2 =>
  brn x2 (
    opS P (S.nc x0) fun x3 =>
    opS P (S.fa 123 x3 0) fun x4 =>
    opS P (S.ld 3 x4) fun x5 =>
    opS P (S.binI .leq x1 x5) fun x6 =>
    K x6
  ) (
    K (.bool false)
  )
instance fnb107 : FnB Tryz.prog 107 := ⟨Tryz.call107⟩
theorem e107 : p107 Tryz.prog = fun K x0 x1 => denF Tryz.prog Tryz.f107 [x0, x1] K := by kernel_rfl
theorem c107 {K : Value → World → Prop} {x0 x1 : Value} {w : World} (h : p107 Tryz.prog K x0 x1 w) : CallsR Tryz.prog 107 #[x0, x1] K w := by
  rw [e107] at h
  exact denF_sound mixed Tryz.func107 h

-- gemel/gemelref01.Reserved
instance fnb217 : FnB Tryz.prog 217 := ⟨Tryz.call217⟩
instance fnb220 : FnB Tryz.prog 220 := ⟨Tryz.call220⟩
end Go.Gx.S
-- 107 53 220 217
end

section
/- What the functions of this program ask. -/
set_option linter.unusedVariables false
set_option maxRecDepth 100000
namespace Go.Gx.S
open Go Go.Gx Go.Proofs
-- (*gemel/flow.Bridge).Take
def p77 (P : Program) (K : Value → World → Prop) (x0 : Value) (x1 : Value) (x2 : Value) (x3 : Value) : World → Prop :=
  opS P (S.box 61 x2) fun x4 =>
  opS P (S.alloc 141) fun x5 =>
  opS P (S.ld 61 x4) fun x6 =>
  opS P (S.cl 155 [x0, x1, x6, x3]) fun x7 =>
  opS P (S.ext x7 0) fun x8 =>
  opS P (S.ext x7 1) fun x9 =>
  opS P (S.build 141 [(0, x8), (1, x9)]) fun x10 =>
  opS P (S.alloc 141) fun x11 =>
  opS P (S.st 141 x11 x10) fun x12 =>
  jnJ 0 (
    drw <|
    opS P (S.fa 141 x11 0) fun x13 =>
    opS P (S.ld 3 x13) fun x14 =>
    opS P (S.nc x0) fun x15 =>
    opS P (S.fa 116 x15 3) fun x16 =>
    opS P (S.ia 114 x16 x14) fun x17 =>
    opS P (S.ld 3 x17) fun x18 =>
    opS P (S.binI .add x18 (.int .i64 1)) fun x19 =>
    opS P (S.nc x0) fun x20 =>
    opS P (S.fa 116 x20 3) fun x21 =>
    opS P (S.ia 114 x21 x14) fun x22 =>
    opS P (S.st 3 x22 x19) fun x23 =>
    opS P (S.ld 141 x11) fun x24 =>
    opS P (S.st 141 x5 x24) fun x25 =>
    opS P (S.ld 141 x5) fun x26 =>
    K x26
  ) fun j0 =>
  opS P (S.binI .eql x8 (.int .i64 0)) fun x13 =>
  brn x13 (
    opS P (S.fa 61 x4 1) fun x14 =>
    opS P (S.ld 53 x14) fun x15 =>
    opS P (S.cl 156 [x0, x9, x15, x1, x3]) fun x16 =>
    opS P (S.ld 61 x4) fun x17 =>
    opS P (S.cl 157 [x0, x9, x1, x17]) fun x18 =>
    opS P (S.st 141 x11 x18) fun x19 =>
    j0
  ) (
    j0
  )
instance fnb77 : FnB Tryz.prog 77 := ⟨Tryz.call77⟩
theorem e77 : p77 Tryz.prog = fun K x0 x1 x2 x3 => denF Tryz.prog Tryz.f77 [x0, x1, x2, x3] K := by kernel_rfl
theorem c77 {K : Value → World → Prop} {x0 x1 x2 x3 : Value} {w : World} (h : p77 Tryz.prog K x0 x1 x2 x3 w) : CallsR Tryz.prog 77 #[x0, x1, x2, x3] K w := by
  rw [e77] at h
  exact denF_sound mixed Tryz.func77 h

-- (*gemel/flow.Bridge).Learned
def p154 (P : Program) (K : Value → World → Prop) (x0 : Value) : World → Prop :=
  opS P (S.alloc 43) fun x1 =>
  opS P (S.nc x0) fun x2 =>
  opS P (S.fa 116 x2 4) fun x3 =>
  opS P (S.ld 43 x3) fun x4 =>
  opS P (S.st 43 x1 x4) fun x5 =>
  opS P (S.ld 43 x1) fun x6 =>
  K x6
instance fnb154 : FnB Tryz.prog 154 := ⟨Tryz.call154⟩
theorem e154 : p154 Tryz.prog = fun K x0 => denF Tryz.prog Tryz.f154 [x0] K := by kernel_rfl
theorem c154 {K : Value → World → Prop} {x0 : Value} {w : World} (h : p154 Tryz.prog K x0 w) : CallsR Tryz.prog 154 #[x0] K w := by
  rw [e154] at h
  exact denF_sound mixed Tryz.func154 h

-- (*gemel/flow.Bridge).sent
def p157 (P : Program) (K : Value → World → Prop) (x0 : Value) (x1 : Value) (x2 : Value) (x3 : Value) : World → Prop :=
  opS P (S.box 61 x3) fun x4 =>
  opS P (S.alloc 141) fun x5 =>
  opS P (S.build 141 [(1, x1)]) fun x6 =>
  opS P (S.alloc 141) fun x7 =>
  opS P (S.st 141 x7 x6) fun x8 =>
  jnJ 2 (fun x9 x10 =>
    jnJ 0 (
      opS P (S.fa 141 x7 0) fun x11 =>
      opS P (S.ld 3 x11) fun x12 =>
      opS P (S.binI .eql x12 (.int .i64 0)) fun x13 =>
      brn x13 (
        opS P (S.fa 141 x7 3) fun x14 =>
        opS P (S.ld 67 x14) fun x15 =>
        opS P (S.len x15) fun x16 =>
        opS P (S.binI .eql x16 (.int .i64 0)) fun x17 =>
        brn x17 (
          opS P (S.fa 141 x7 0) fun x18 =>
          opS P (S.st 3 x18 (.int .i64 8)) fun x19 =>
          opS P (S.ld 141 x7) fun x20 =>
          opS P (S.st 141 x5 x20) fun x21 =>
          opS P (S.ld 141 x5) fun x22 =>
          K x22
        ) (
          opS P (S.ld 141 x7) fun x18 =>
          opS P (S.st 141 x5 x18) fun x19 =>
          opS P (S.ld 141 x5) fun x20 =>
          K x20
        )
      ) (
        opS P (S.ld 141 x7) fun x14 =>
        opS P (S.st 141 x5 x14) fun x15 =>
        opS P (S.ld 141 x5) fun x16 =>
        K x16
      )
    ) fun j0 =>
    opS P (S.nc x0) fun x11 =>
    opS P (S.fa 116 x11 2) fun x12 =>
    opS P (S.ld 22 x12) fun x13 =>
    opS P (S.ia 22 x13 x2) fun x14 =>
    opS P (S.ld 3 x14) fun x15 =>
    opS P (S.binI .eql x15 (.int .i64 1)) fun x16 =>
    brn x16 (
      opS P (S.fa 141 x7 0) fun x17 =>
      opS P (S.st 3 x17 (.int .i64 6)) fun x18 =>
      j0
    ) (
      jnJ 0 (
        j0
      ) fun j1 =>
      jnJ 0 (
        jnJ 0 (
          j1
        ) fun j2 =>
        brn x10 (
          opS P (S.fa 80 x9 2) fun x17 =>
          opS P (S.ld 3 x17) fun x18 =>
          opS P (S.fa 141 x7 2) fun x19 =>
          opS P (S.st 3 x19 x18) fun x20 =>
          jnJ 0 (
            j2
          ) fun j3 =>
          opS P (S.fa 141 x7 2) fun x21 =>
          opS P (S.ld 3 x21) fun x22 =>
          opS P (S.binI .gtr x22 (.int .i64 0)) fun x23 =>
          brn x23 (
            opS P (S.fa 141 x7 2) fun x24 =>
            opS P (S.ld 3 x24) fun x25 =>
            opS P (S.ld 61 x4) fun x26 =>
            opS P (S.cl 131 [x0, x1, x2, x25, x26]) fun x27 =>
            opS P (S.fa 141 x7 3) fun x28 =>
            opS P (S.st 67 x28 x27) fun x29 =>
            j3
          ) (
            j3
          )
        ) (
          opS P (S.ld 61 x4) fun x17 =>
          opS P (S.cl 131 [x0, x1, x2, (.int .i64 0), x17]) fun x18 =>
          opS P (S.fa 141 x7 3) fun x19 =>
          opS P (S.st 67 x19 x18) fun x20 =>
          j2
        )
      ) fun j2 =>
      brn x10 (
        opS P (S.fa 80 x9 2) fun x17 =>
        opS P (S.ld 3 x17) fun x18 =>
        opS P (S.binI .eql x18 x2) fun x19 =>
        brn x19 (
          opS P (S.fa 141 x7 0) fun x20 =>
          opS P (S.st 3 x20 (.int .i64 7)) fun x21 =>
          j1
        ) (
          j2
        )
      ) (
        j2
      )
    )
  ) fun j0 =>
  drw <|
  opS P (S.nc x0) fun x9 =>
  opS P (S.fa 116 x9 1) fun x10 =>
  opS P (S.fa 61 x4 0) fun x11 =>
  allW (
    opS P (S.ld 82 x10) fun x12 =>
    allW (
      opS P (S.ld 53 x11) fun x13 =>
      allW (
        opS P (S.cl 29 [x12, x1, x13]) fun x14 =>
        opS P (S.ext x14 0) fun x15 =>
        opS P (S.ext x14 1) fun x16 =>
        opS P (S.alloc 80) fun x17 =>
        opS P (S.st 80 x17 x15) fun x18 =>
        j0 x17 x16
      ) (
        opS P (S.alloc 80) fun x14 =>
        opS P (S.cl 29 [x12, x1, x13]) fun x15 =>
        opS P (S.ext x15 0) fun x16 =>
        opS P (S.ext x15 1) fun x17 =>
        opS P (S.st 80 x14 x16) fun x18 =>
        j0 x14 x17
      )
    ) (
      opS P (S.alloc 80) fun x13 =>
      opS P (S.ld 53 x11) fun x14 =>
      opS P (S.cl 29 [x12, x1, x14]) fun x15 =>
      opS P (S.ext x15 0) fun x16 =>
      opS P (S.ext x15 1) fun x17 =>
      opS P (S.st 80 x13 x16) fun x18 =>
      j0 x13 x17
    )
  ) (
    allW (
      opS P (S.ld 53 x11) fun x12 =>
      allW (
        opS P (S.ld 82 x10) fun x13 =>
        allW (
          opS P (S.cl 29 [x13, x1, x12]) fun x14 =>
          opS P (S.ext x14 0) fun x15 =>
          opS P (S.ext x14 1) fun x16 =>
          opS P (S.alloc 80) fun x17 =>
          opS P (S.st 80 x17 x15) fun x18 =>
          j0 x17 x16
        ) (
          opS P (S.alloc 80) fun x14 =>
          opS P (S.cl 29 [x13, x1, x12]) fun x15 =>
          opS P (S.ext x15 0) fun x16 =>
          opS P (S.ext x15 1) fun x17 =>
          opS P (S.st 80 x14 x16) fun x18 =>
          j0 x14 x17
        )
      ) (
        opS P (S.alloc 80) fun x13 =>
        opS P (S.ld 82 x10) fun x14 =>
        opS P (S.cl 29 [x14, x1, x12]) fun x15 =>
        opS P (S.ext x15 0) fun x16 =>
        opS P (S.ext x15 1) fun x17 =>
        opS P (S.st 80 x13 x16) fun x18 =>
        j0 x13 x17
      )
    ) (
      opS P (S.alloc 80) fun x12 =>
      opS P (S.ld 82 x10) fun x13 =>
      opS P (S.ld 53 x11) fun x14 =>
      opS P (S.cl 29 [x13, x1, x14]) fun x15 =>
      opS P (S.ext x15 0) fun x16 =>
      opS P (S.ext x15 1) fun x17 =>
      opS P (S.st 80 x12 x16) fun x18 =>
      j0 x12 x17
    )
  )
instance fnb157 : FnB Tryz.prog 157 := ⟨Tryz.call157⟩
theorem e157 : p157 Tryz.prog = fun K x0 x1 x2 x3 => denF Tryz.prog Tryz.f157 [x0, x1, x2, x3] K := by kernel_rfl
theorem c157 {K : Value → World → Prop} {x0 x1 x2 x3 : Value} {w : World} (h : p157 Tryz.prog K x0 x1 x2 x3 w) : CallsR Tryz.prog 157 #[x0, x1, x2, x3] K w := by
  rw [e157] at h
  exact denF_sound mixed Tryz.func157 h

end Go.Gx.S
-- 157 77 154
end

section
/- What the functions of this program ask. -/
set_option linter.unusedVariables false
set_option maxRecDepth 100000
namespace Go.Gx.S
open Go Go.Gx Go.Proofs
-- (*gemel/flow.Bridge).Relay
def p131 (P : Program) (K : Value → World → Prop) (x0 : Value) (x1 : Value) (x2 : Value) (x3 : Value) (x4 : Value) : World → Prop :=
  opS P (S.box 3 x3) fun x5 =>
  opS P (S.box 61 x4) fun x6 =>
  opS P (S.alloc 67) fun x7 =>
  opS P (S.ld 61 x6) fun x8 =>
  opS P (S.cl 195 [x0, x1, x2, x8]) fun x9 =>
  rfS P x9 1 (fun bs K => JT.app 2 (fun x10 x11 =>
    opS P (S.alloc 86) fun x12 =>
    opS P (S.st 86 x12 x11) fun x13 =>
    opS P (S.beginR x10) fun x14 =>
    jnJ 0 (
      opS P (S.ld 67 x7) fun x15 =>
      opS P (S.ld 86 x12) fun x16 =>
      opS P (S.buildS 67 1 [(0, x16)]) fun x17 =>
      opS P (S.bi .append #[67, 67] 67 [x15, x17]) fun x18 =>
      opS P (S.st 67 x7 x18) fun x19 =>
      opS P (S.endR x10 none) fun x20 =>
      K x20
    ) fun j0 =>
    opS P (S.ld 3 x5) fun x15 =>
    opS P (S.binI .eql x15 (.int .i64 0)) fun x16 =>
    brn x16 (
      j0
    ) (
      opS P (S.fa 86 x12 0) fun x17 =>
      opS P (S.ld 3 x17) fun x18 =>
      opS P (S.ld 3 x5) fun x19 =>
      opS P (S.binI .eql x18 x19) fun x20 =>
      brn x20 (
        j0
      ) (
        opS P (S.endR x10 none) fun x21 =>
        K x21
      )
    )
  ) bs) (fun x10 =>
    opS P (S.ld 67 x7) fun x11 =>
    opS P (S.cl 196 [x11]) fun x12 =>
    takeD P x10 fun x13 =>
    K x12
  ) (fun x10 =>
    takeD P x10 fun x11 =>
    K (.slice none 0 0)
  ) 0 (fun x10 =>
    fun _ => False
  )
instance fnb131 : FnB Tryz.prog 131 := ⟨Tryz.call131⟩
theorem e131 : p131 Tryz.prog = fun K x0 x1 x2 x3 x4 => denF Tryz.prog Tryz.f131 [x0, x1, x2, x3, x4] K := by kernel_rfl
theorem c131 {K : Value → World → Prop} {x0 x1 x2 x3 x4 : Value} {w : World} (h : p131 Tryz.prog K x0 x1 x2 x3 x4 w) : CallsR Tryz.prog 131 #[x0, x1, x2, x3, x4] K w := by
  rw [e131] at h
  exact denF_sound mixed Tryz.func131 h

-- (*gemel/flow.Bridge).senders
def p195 (P : Program) (K : Value → World → Prop) (x0 : Value) (x1 : Value) (x2 : Value) (x3 : Value) : World → Prop :=
  opS P (S.box 46 x0) fun x4 =>
  opS P (S.box 3 x1) fun x5 =>
  opS P (S.box 3 x2) fun x6 =>
  opS P (S.box 61 x3) fun x7 =>
  opS P (S.mkf (.func 233) [] [x4, x6, x5, x7]) fun x8 =>
  K x8
instance fnb195 : FnB Tryz.prog 195 := ⟨Tryz.call195⟩
theorem e195 : p195 Tryz.prog = fun K x0 x1 x2 x3 => denF Tryz.prog Tryz.f195 [x0, x1, x2, x3] K := by kernel_rfl
theorem c195 {K : Value → World → Prop} {x0 x1 x2 x3 : Value} {w : World} (h : p195 Tryz.prog K x0 x1 x2 x3 w) : CallsR Tryz.prog 195 #[x0, x1, x2, x3] K w := by
  rw [e195] at h
  exact denF_sound mixed Tryz.func195 h

-- slices.Clip[[]gemel/api.Out,gemel/api.Out]
def p196 (P : Program) (K : Value → World → Prop) (x0 : Value) : World → Prop :=
  opS P (S.len x0) fun x1 =>
  opS P (S.len x0) fun x2 =>
  opS P (S.slc 67 x0 none (some x1) (some x2)) fun x3 =>
  K x3
instance fnb196 : FnB Tryz.prog 196 := ⟨Tryz.call196⟩
theorem e196 : p196 Tryz.prog = fun K x0 => denF Tryz.prog Tryz.f196 [x0] K := by kernel_rfl
theorem c196 {K : Value → World → Prop} {x0 : Value} {w : World} (h : p196 Tryz.prog K x0 w) : CallsR Tryz.prog 196 #[x0] K w := by
  rw [e196] at h
  exact denF_sound mixed Tryz.func196 h

-- (*gemel/flow.Bridge).senders$1
def p233 (P : Program) (K : Value → World → Prop) (x0 : Value) (x1 : Value) (x2 : Value) (x3 : Value) (x4 : Value) : World → Prop :=
  opS P (S.ld 46 x1) fun x5 =>
  opS P (S.nc x5) fun x6 =>
  opS P (S.fa 116 x6 2) fun x7 =>
  opS P (S.ld 22 x7) fun x8 =>
  opS P (S.len x8) fun x9 =>
  jnJ 0 (
    K (.tuple #[])
  ) fun j0 =>
  loopJ 1 (fun j1 x10 =>
    opS P (S.binI .lss x10 x9) fun x11 =>
    brn x11 (
      opS P (S.ia 22 x8 x10) fun x12 =>
      opS P (S.ld 3 x12) fun x13 =>
      opS P (S.ld 3 x2) fun x14 =>
      opS P (S.binI .eql x10 x14) fun x15 =>
      brn x15 (
        opS P (S.binI .add x10 (.int .i64 1)) fun x16 =>
        j1 x16
      ) (
        opS P (S.binI .neq x13 (.int .i64 2)) fun x16 =>
        brn x16 (
          opS P (S.binI .add x10 (.int .i64 1)) fun x17 =>
          j1 x17
        ) (
          jnJ 2 (fun x17 x18 =>
            opS P (S.binI .eql x18 (.int .i64 0)) fun x19 =>
            brn x19 (
              opS P (S.ld 61 x17) fun x20 =>
              opS P (S.build 86 [(0, x10), (1, x20)]) fun x21 =>
              opS P (S.call x0 [x21]) fun x22 =>
              opS P (S.un .not x22) fun x23 =>
              brn x23 (
                K (.tuple #[])
              ) (
                opS P (S.binI .add x10 (.int .i64 1)) fun x24 =>
                j1 x24
              )
            ) (
              opS P (S.binI .add x10 (.int .i64 1)) fun x20 =>
              j1 x20
            )
          ) fun j2 =>
          drw <|
          allW (
            opS P (S.ld 46 x1) fun x17 =>
            opS P (S.nc x17) fun x18 =>
            opS P (S.fa 116 x18 0) fun x19 =>
            allW (
              opS P (S.ld 113 x19) fun x20 =>
              allW (
                opS P (S.ld 3 x3) fun x21 =>
                allW (
                  opS P (S.ld 61 x4) fun x22 =>
                  allW (
                    opS P (S.cl 234 [x20, x21, x10, x22]) fun x23 =>
                    opS P (S.ext x23 0) fun x24 =>
                    opS P (S.ext x23 1) fun x25 =>
                    opS P (S.alloc 61) fun x26 =>
                    opS P (S.st 61 x26 x24) fun x27 =>
                    j2 x26 x25
                  ) (
                    opS P (S.alloc 61) fun x23 =>
                    opS P (S.cl 234 [x20, x21, x10, x22]) fun x24 =>
                    opS P (S.ext x24 0) fun x25 =>
                    opS P (S.ext x24 1) fun x26 =>
                    opS P (S.st 61 x23 x25) fun x27 =>
                    j2 x23 x26
                  )
                ) (
                  opS P (S.alloc 61) fun x22 =>
                  opS P (S.ld 61 x4) fun x23 =>
                  opS P (S.cl 234 [x20, x21, x10, x23]) fun x24 =>
                  opS P (S.ext x24 0) fun x25 =>
                  opS P (S.ext x24 1) fun x26 =>
                  opS P (S.st 61 x22 x25) fun x27 =>
                  j2 x22 x26
                )
              ) (
                allW (
                  opS P (S.ld 61 x4) fun x21 =>
                  allW (
                    opS P (S.ld 3 x3) fun x22 =>
                    allW (
                      opS P (S.cl 234 [x20, x22, x10, x21]) fun x23 =>
                      opS P (S.ext x23 0) fun x24 =>
                      opS P (S.ext x23 1) fun x25 =>
                      opS P (S.alloc 61) fun x26 =>
                      opS P (S.st 61 x26 x24) fun x27 =>
                      j2 x26 x25
                    ) (
                      opS P (S.alloc 61) fun x23 =>
                      opS P (S.cl 234 [x20, x22, x10, x21]) fun x24 =>
                      opS P (S.ext x24 0) fun x25 =>
                      opS P (S.ext x24 1) fun x26 =>
                      opS P (S.st 61 x23 x25) fun x27 =>
                      j2 x23 x26
                    )
                  ) (
                    opS P (S.alloc 61) fun x22 =>
                    opS P (S.ld 3 x3) fun x23 =>
                    opS P (S.cl 234 [x20, x23, x10, x21]) fun x24 =>
                    opS P (S.ext x24 0) fun x25 =>
                    opS P (S.ext x24 1) fun x26 =>
                    opS P (S.st 61 x22 x25) fun x27 =>
                    j2 x22 x26
                  )
                ) (
                  opS P (S.alloc 61) fun x21 =>
                  opS P (S.ld 3 x3) fun x22 =>
                  opS P (S.ld 61 x4) fun x23 =>
                  opS P (S.cl 234 [x20, x22, x10, x23]) fun x24 =>
                  opS P (S.ext x24 0) fun x25 =>
                  opS P (S.ext x24 1) fun x26 =>
                  opS P (S.st 61 x21 x25) fun x27 =>
                  j2 x21 x26
                )
              )
            ) (
              allW (
                opS P (S.ld 3 x3) fun x20 =>
                allW (
                  opS P (S.ld 113 x19) fun x21 =>
                  allW (
                    opS P (S.ld 61 x4) fun x22 =>
                    allW (
                      opS P (S.cl 234 [x21, x20, x10, x22]) fun x23 =>
                      opS P (S.ext x23 0) fun x24 =>
                      opS P (S.ext x23 1) fun x25 =>
                      opS P (S.alloc 61) fun x26 =>
                      opS P (S.st 61 x26 x24) fun x27 =>
                      j2 x26 x25
                    ) (
                      opS P (S.alloc 61) fun x23 =>
                      opS P (S.cl 234 [x21, x20, x10, x22]) fun x24 =>
                      opS P (S.ext x24 0) fun x25 =>
                      opS P (S.ext x24 1) fun x26 =>
                      opS P (S.st 61 x23 x25) fun x27 =>
                      j2 x23 x26
                    )
                  ) (
                    opS P (S.alloc 61) fun x22 =>
                    opS P (S.ld 61 x4) fun x23 =>
                    opS P (S.cl 234 [x21, x20, x10, x23]) fun x24 =>
                    opS P (S.ext x24 0) fun x25 =>
                    opS P (S.ext x24 1) fun x26 =>
                    opS P (S.st 61 x22 x25) fun x27 =>
                    j2 x22 x26
                  )
                ) (
                  allW (
                    opS P (S.ld 61 x4) fun x21 =>
                    allW (
                      opS P (S.ld 113 x19) fun x22 =>
                      allW (
                        opS P (S.cl 234 [x22, x20, x10, x21]) fun x23 =>
                        opS P (S.ext x23 0) fun x24 =>
                        opS P (S.ext x23 1) fun x25 =>
                        opS P (S.alloc 61) fun x26 =>
                        opS P (S.st 61 x26 x24) fun x27 =>
                        j2 x26 x25
                      ) (
                        opS P (S.alloc 61) fun x23 =>
                        opS P (S.cl 234 [x22, x20, x10, x21]) fun x24 =>
                        opS P (S.ext x24 0) fun x25 =>
                        opS P (S.ext x24 1) fun x26 =>
                        opS P (S.st 61 x23 x25) fun x27 =>
                        j2 x23 x26
                      )
                    ) (
                      opS P (S.alloc 61) fun x22 =>
                      opS P (S.ld 113 x19) fun x23 =>
                      opS P (S.cl 234 [x23, x20, x10, x21]) fun x24 =>
                      opS P (S.ext x24 0) fun x25 =>
                      opS P (S.ext x24 1) fun x26 =>
                      opS P (S.st 61 x22 x25) fun x27 =>
                      j2 x22 x26
                    )
                  ) (
                    opS P (S.alloc 61) fun x21 =>
                    opS P (S.ld 113 x19) fun x22 =>
                    opS P (S.ld 61 x4) fun x23 =>
                    opS P (S.cl 234 [x22, x20, x10, x23]) fun x24 =>
                    opS P (S.ext x24 0) fun x25 =>
                    opS P (S.ext x24 1) fun x26 =>
                    opS P (S.st 61 x21 x25) fun x27 =>
                    j2 x21 x26
                  )
                )
              ) (
                allW (
                  opS P (S.ld 61 x4) fun x20 =>
                  allW (
                    opS P (S.ld 113 x19) fun x21 =>
                    allW (
                      opS P (S.ld 3 x3) fun x22 =>
                      allW (
                        opS P (S.cl 234 [x21, x22, x10, x20]) fun x23 =>
                        opS P (S.ext x23 0) fun x24 =>
                        opS P (S.ext x23 1) fun x25 =>
                        opS P (S.alloc 61) fun x26 =>
                        opS P (S.st 61 x26 x24) fun x27 =>
                        j2 x26 x25
                      ) (
                        opS P (S.alloc 61) fun x23 =>
                        opS P (S.cl 234 [x21, x22, x10, x20]) fun x24 =>
                        opS P (S.ext x24 0) fun x25 =>
                        opS P (S.ext x24 1) fun x26 =>
                        opS P (S.st 61 x23 x25) fun x27 =>
                        j2 x23 x26
                      )
                    ) (
                      opS P (S.alloc 61) fun x22 =>
                      opS P (S.ld 3 x3) fun x23 =>
                      opS P (S.cl 234 [x21, x23, x10, x20]) fun x24 =>
                      opS P (S.ext x24 0) fun x25 =>
                      opS P (S.ext x24 1) fun x26 =>
                      opS P (S.st 61 x22 x25) fun x27 =>
                      j2 x22 x26
                    )
                  ) (
                    allW (
                      opS P (S.ld 3 x3) fun x21 =>
                      allW (
                        opS P (S.ld 113 x19) fun x22 =>
                        allW (
                          opS P (S.cl 234 [x22, x21, x10, x20]) fun x23 =>
                          opS P (S.ext x23 0) fun x24 =>
                          opS P (S.ext x23 1) fun x25 =>
                          opS P (S.alloc 61) fun x26 =>
                          opS P (S.st 61 x26 x24) fun x27 =>
                          j2 x26 x25
                        ) (
                          opS P (S.alloc 61) fun x23 =>
                          opS P (S.cl 234 [x22, x21, x10, x20]) fun x24 =>
                          opS P (S.ext x24 0) fun x25 =>
                          opS P (S.ext x24 1) fun x26 =>
                          opS P (S.st 61 x23 x25) fun x27 =>
                          j2 x23 x26
                        )
                      ) (
                        opS P (S.alloc 61) fun x22 =>
                        opS P (S.ld 113 x19) fun x23 =>
                        opS P (S.cl 234 [x23, x21, x10, x20]) fun x24 =>
                        opS P (S.ext x24 0) fun x25 =>
                        opS P (S.ext x24 1) fun x26 =>
                        opS P (S.st 61 x22 x25) fun x27 =>
                        j2 x22 x26
                      )
                    ) (
                      opS P (S.alloc 61) fun x21 =>
                      opS P (S.ld 113 x19) fun x22 =>
                      opS P (S.ld 3 x3) fun x23 =>
                      opS P (S.cl 234 [x22, x23, x10, x20]) fun x24 =>
                      opS P (S.ext x24 0) fun x25 =>
                      opS P (S.ext x24 1) fun x26 =>
                      opS P (S.st 61 x21 x25) fun x27 =>
                      j2 x21 x26
                    )
                  )
                ) (
                  opS P (S.alloc 61) fun x20 =>
                  opS P (S.ld 113 x19) fun x21 =>
                  opS P (S.ld 3 x3) fun x22 =>
                  opS P (S.ld 61 x4) fun x23 =>
                  opS P (S.cl 234 [x21, x22, x10, x23]) fun x24 =>
                  opS P (S.ext x24 0) fun x25 =>
                  opS P (S.ext x24 1) fun x26 =>
                  opS P (S.st 61 x20 x25) fun x27 =>
                  j2 x20 x26
                )
              )
            )
          ) (
            allW (
              opS P (S.ld 3 x3) fun x17 =>
              allW (
                opS P (S.ld 46 x1) fun x18 =>
                opS P (S.nc x18) fun x19 =>
                opS P (S.fa 116 x19 0) fun x20 =>
                allW (
                  opS P (S.ld 113 x20) fun x21 =>
                  allW (
                    opS P (S.ld 61 x4) fun x22 =>
                    allW (
                      opS P (S.cl 234 [x21, x17, x10, x22]) fun x23 =>
                      opS P (S.ext x23 0) fun x24 =>
                      opS P (S.ext x23 1) fun x25 =>
                      opS P (S.alloc 61) fun x26 =>
                      opS P (S.st 61 x26 x24) fun x27 =>
                      j2 x26 x25
                    ) (
                      opS P (S.alloc 61) fun x23 =>
                      opS P (S.cl 234 [x21, x17, x10, x22]) fun x24 =>
                      opS P (S.ext x24 0) fun x25 =>
                      opS P (S.ext x24 1) fun x26 =>
                      opS P (S.st 61 x23 x25) fun x27 =>
                      j2 x23 x26
                    )
                  ) (
                    opS P (S.alloc 61) fun x22 =>
                    opS P (S.ld 61 x4) fun x23 =>
                    opS P (S.cl 234 [x21, x17, x10, x23]) fun x24 =>
                    opS P (S.ext x24 0) fun x25 =>
                    opS P (S.ext x24 1) fun x26 =>
                    opS P (S.st 61 x22 x25) fun x27 =>
                    j2 x22 x26
                  )
                ) (
                  allW (
                    opS P (S.ld 61 x4) fun x21 =>
                    allW (
                      opS P (S.ld 113 x20) fun x22 =>
                      allW (
                        opS P (S.cl 234 [x22, x17, x10, x21]) fun x23 =>
                        opS P (S.ext x23 0) fun x24 =>
                        opS P (S.ext x23 1) fun x25 =>
                        opS P (S.alloc 61) fun x26 =>
                        opS P (S.st 61 x26 x24) fun x27 =>
                        j2 x26 x25
                      ) (
                        opS P (S.alloc 61) fun x23 =>
                        opS P (S.cl 234 [x22, x17, x10, x21]) fun x24 =>
                        opS P (S.ext x24 0) fun x25 =>
                        opS P (S.ext x24 1) fun x26 =>
                        opS P (S.st 61 x23 x25) fun x27 =>
                        j2 x23 x26
                      )
                    ) (
                      opS P (S.alloc 61) fun x22 =>
                      opS P (S.ld 113 x20) fun x23 =>
                      opS P (S.cl 234 [x23, x17, x10, x21]) fun x24 =>
                      opS P (S.ext x24 0) fun x25 =>
                      opS P (S.ext x24 1) fun x26 =>
                      opS P (S.st 61 x22 x25) fun x27 =>
                      j2 x22 x26
                    )
                  ) (
                    opS P (S.alloc 61) fun x21 =>
                    opS P (S.ld 113 x20) fun x22 =>
                    opS P (S.ld 61 x4) fun x23 =>
                    opS P (S.cl 234 [x22, x17, x10, x23]) fun x24 =>
                    opS P (S.ext x24 0) fun x25 =>
                    opS P (S.ext x24 1) fun x26 =>
                    opS P (S.st 61 x21 x25) fun x27 =>
                    j2 x21 x26
                  )
                )
              ) (
                allW (
                  opS P (S.ld 61 x4) fun x18 =>
                  allW (
                    opS P (S.ld 46 x1) fun x19 =>
                    opS P (S.nc x19) fun x20 =>
                    opS P (S.fa 116 x20 0) fun x21 =>
                    allW (
                      opS P (S.ld 113 x21) fun x22 =>
                      allW (
                        opS P (S.cl 234 [x22, x17, x10, x18]) fun x23 =>
                        opS P (S.ext x23 0) fun x24 =>
                        opS P (S.ext x23 1) fun x25 =>
                        opS P (S.alloc 61) fun x26 =>
                        opS P (S.st 61 x26 x24) fun x27 =>
                        j2 x26 x25
                      ) (
                        opS P (S.alloc 61) fun x23 =>
                        opS P (S.cl 234 [x22, x17, x10, x18]) fun x24 =>
                        opS P (S.ext x24 0) fun x25 =>
                        opS P (S.ext x24 1) fun x26 =>
                        opS P (S.st 61 x23 x25) fun x27 =>
                        j2 x23 x26
                      )
                    ) (
                      opS P (S.alloc 61) fun x22 =>
                      opS P (S.ld 113 x21) fun x23 =>
                      opS P (S.cl 234 [x23, x17, x10, x18]) fun x24 =>
                      opS P (S.ext x24 0) fun x25 =>
                      opS P (S.ext x24 1) fun x26 =>
                      opS P (S.st 61 x22 x25) fun x27 =>
                      j2 x22 x26
                    )
                  ) (
                    opS P (S.alloc 61) fun x19 =>
                    opS P (S.ld 46 x1) fun x20 =>
                    opS P (S.nc x20) fun x21 =>
                    opS P (S.fa 116 x21 0) fun x22 =>
                    opS P (S.ld 113 x22) fun x23 =>
                    opS P (S.cl 234 [x23, x17, x10, x18]) fun x24 =>
                    opS P (S.ext x24 0) fun x25 =>
                    opS P (S.ext x24 1) fun x26 =>
                    opS P (S.st 61 x19 x25) fun x27 =>
                    j2 x19 x26
                  )
                ) (
                  opS P (S.alloc 61) fun x18 =>
                  opS P (S.ld 46 x1) fun x19 =>
                  opS P (S.nc x19) fun x20 =>
                  opS P (S.fa 116 x20 0) fun x21 =>
                  opS P (S.ld 113 x21) fun x22 =>
                  opS P (S.ld 61 x4) fun x23 =>
                  opS P (S.cl 234 [x22, x17, x10, x23]) fun x24 =>
                  opS P (S.ext x24 0) fun x25 =>
                  opS P (S.ext x24 1) fun x26 =>
                  opS P (S.st 61 x18 x25) fun x27 =>
                  j2 x18 x26
                )
              )
            ) (
              allW (
                opS P (S.ld 61 x4) fun x17 =>
                allW (
                  opS P (S.ld 46 x1) fun x18 =>
                  opS P (S.nc x18) fun x19 =>
                  opS P (S.fa 116 x19 0) fun x20 =>
                  allW (
                    opS P (S.ld 113 x20) fun x21 =>
                    allW (
                      opS P (S.ld 3 x3) fun x22 =>
                      allW (
                        opS P (S.cl 234 [x21, x22, x10, x17]) fun x23 =>
                        opS P (S.ext x23 0) fun x24 =>
                        opS P (S.ext x23 1) fun x25 =>
                        opS P (S.alloc 61) fun x26 =>
                        opS P (S.st 61 x26 x24) fun x27 =>
                        j2 x26 x25
                      ) (
                        opS P (S.alloc 61) fun x23 =>
                        opS P (S.cl 234 [x21, x22, x10, x17]) fun x24 =>
                        opS P (S.ext x24 0) fun x25 =>
                        opS P (S.ext x24 1) fun x26 =>
                        opS P (S.st 61 x23 x25) fun x27 =>
                        j2 x23 x26
                      )
                    ) (
                      opS P (S.alloc 61) fun x22 =>
                      opS P (S.ld 3 x3) fun x23 =>
                      opS P (S.cl 234 [x21, x23, x10, x17]) fun x24 =>
                      opS P (S.ext x24 0) fun x25 =>
                      opS P (S.ext x24 1) fun x26 =>
                      opS P (S.st 61 x22 x25) fun x27 =>
                      j2 x22 x26
                    )
                  ) (
                    allW (
                      opS P (S.ld 3 x3) fun x21 =>
                      allW (
                        opS P (S.ld 113 x20) fun x22 =>
                        allW (
                          opS P (S.cl 234 [x22, x21, x10, x17]) fun x23 =>
                          opS P (S.ext x23 0) fun x24 =>
                          opS P (S.ext x23 1) fun x25 =>
                          opS P (S.alloc 61) fun x26 =>
                          opS P (S.st 61 x26 x24) fun x27 =>
                          j2 x26 x25
                        ) (
                          opS P (S.alloc 61) fun x23 =>
                          opS P (S.cl 234 [x22, x21, x10, x17]) fun x24 =>
                          opS P (S.ext x24 0) fun x25 =>
                          opS P (S.ext x24 1) fun x26 =>
                          opS P (S.st 61 x23 x25) fun x27 =>
                          j2 x23 x26
                        )
                      ) (
                        opS P (S.alloc 61) fun x22 =>
                        opS P (S.ld 113 x20) fun x23 =>
                        opS P (S.cl 234 [x23, x21, x10, x17]) fun x24 =>
                        opS P (S.ext x24 0) fun x25 =>
                        opS P (S.ext x24 1) fun x26 =>
                        opS P (S.st 61 x22 x25) fun x27 =>
                        j2 x22 x26
                      )
                    ) (
                      opS P (S.alloc 61) fun x21 =>
                      opS P (S.ld 113 x20) fun x22 =>
                      opS P (S.ld 3 x3) fun x23 =>
                      opS P (S.cl 234 [x22, x23, x10, x17]) fun x24 =>
                      opS P (S.ext x24 0) fun x25 =>
                      opS P (S.ext x24 1) fun x26 =>
                      opS P (S.st 61 x21 x25) fun x27 =>
                      j2 x21 x26
                    )
                  )
                ) (
                  allW (
                    opS P (S.ld 3 x3) fun x18 =>
                    allW (
                      opS P (S.ld 46 x1) fun x19 =>
                      opS P (S.nc x19) fun x20 =>
                      opS P (S.fa 116 x20 0) fun x21 =>
                      allW (
                        opS P (S.ld 113 x21) fun x22 =>
                        allW (
                          opS P (S.cl 234 [x22, x18, x10, x17]) fun x23 =>
                          opS P (S.ext x23 0) fun x24 =>
                          opS P (S.ext x23 1) fun x25 =>
                          opS P (S.alloc 61) fun x26 =>
                          opS P (S.st 61 x26 x24) fun x27 =>
                          j2 x26 x25
                        ) (
                          opS P (S.alloc 61) fun x23 =>
                          opS P (S.cl 234 [x22, x18, x10, x17]) fun x24 =>
                          opS P (S.ext x24 0) fun x25 =>
                          opS P (S.ext x24 1) fun x26 =>
                          opS P (S.st 61 x23 x25) fun x27 =>
                          j2 x23 x26
                        )
                      ) (
                        opS P (S.alloc 61) fun x22 =>
                        opS P (S.ld 113 x21) fun x23 =>
                        opS P (S.cl 234 [x23, x18, x10, x17]) fun x24 =>
                        opS P (S.ext x24 0) fun x25 =>
                        opS P (S.ext x24 1) fun x26 =>
                        opS P (S.st 61 x22 x25) fun x27 =>
                        j2 x22 x26
                      )
                    ) (
                      opS P (S.alloc 61) fun x19 =>
                      opS P (S.ld 46 x1) fun x20 =>
                      opS P (S.nc x20) fun x21 =>
                      opS P (S.fa 116 x21 0) fun x22 =>
                      opS P (S.ld 113 x22) fun x23 =>
                      opS P (S.cl 234 [x23, x18, x10, x17]) fun x24 =>
                      opS P (S.ext x24 0) fun x25 =>
                      opS P (S.ext x24 1) fun x26 =>
                      opS P (S.st 61 x19 x25) fun x27 =>
                      j2 x19 x26
                    )
                  ) (
                    opS P (S.alloc 61) fun x18 =>
                    opS P (S.ld 46 x1) fun x19 =>
                    opS P (S.nc x19) fun x20 =>
                    opS P (S.fa 116 x20 0) fun x21 =>
                    opS P (S.ld 113 x21) fun x22 =>
                    opS P (S.ld 3 x3) fun x23 =>
                    opS P (S.cl 234 [x22, x23, x10, x17]) fun x24 =>
                    opS P (S.ext x24 0) fun x25 =>
                    opS P (S.ext x24 1) fun x26 =>
                    opS P (S.st 61 x18 x25) fun x27 =>
                    j2 x18 x26
                  )
                )
              ) (
                opS P (S.alloc 61) fun x17 =>
                opS P (S.ld 46 x1) fun x18 =>
                opS P (S.nc x18) fun x19 =>
                opS P (S.fa 116 x19 0) fun x20 =>
                opS P (S.ld 113 x20) fun x21 =>
                opS P (S.ld 3 x3) fun x22 =>
                opS P (S.ld 61 x4) fun x23 =>
                opS P (S.cl 234 [x21, x22, x10, x23]) fun x24 =>
                opS P (S.ext x24 0) fun x25 =>
                opS P (S.ext x24 1) fun x26 =>
                opS P (S.st 61 x17 x25) fun x27 =>
                j2 x17 x26
              )
            )
          )
        )
      )
    ) (
      j0
    )
  ) (.int .i64 0)
instance fnb233 : FnB Tryz.prog 233 := ⟨Tryz.call233⟩
theorem e233 : p233 Tryz.prog = fun K x0 x1 x2 x3 x4 => denF Tryz.prog Tryz.f233 [x0, x1, x2, x3, x4] K := by kernel_rfl
theorem c233 {K : Value → World → Prop} {x0 x1 x2 x3 x4 : Value} {w : World} (h : p233 Tryz.prog K x0 x1 x2 x3 x4 w) : CallsR Tryz.prog 233 #[x0, x1, x2, x3, x4] K w := by
  rw [e233] at h
  exact denF_sound mixed Tryz.func233 h

end Go.Gx.S
-- 195 233 131 196
end

section
/- What the functions of this program ask. -/
set_option linter.unusedVariables false
set_option maxRecDepth 100000
namespace Go.Gx.S
open Go Go.Gx Go.Proofs
-- (*gemel/flow.Bridge).State
def p15 (P : Program) (K : Value → World → Prop) (x0 : Value) (x1 : Value) : World → Prop :=
  opS P (S.cl 42 [x0, x1]) fun x2 =>
  opS P (S.un .not x2) fun x3 =>
  brn x3 (
    K (.int .i64 0)
  ) (
    opS P (S.nc x0) fun x4 =>
    opS P (S.fa 116 x4 2) fun x5 =>
    opS P (S.ld 22 x5) fun x6 =>
    opS P (S.ia 22 x6 x1) fun x7 =>
    opS P (S.ld 3 x7) fun x8 =>
    K x8
  )
instance fnb15 : FnB Tryz.prog 15 := ⟨Tryz.call15⟩
theorem e15 : p15 Tryz.prog = fun K x0 x1 => denF Tryz.prog Tryz.f15 [x0, x1] K := by kernel_rfl
theorem c15 {K : Value → World → Prop} {x0 x1 : Value} {w : World} (h : p15 Tryz.prog K x0 x1 w) : CallsR Tryz.prog 15 #[x0, x1] K w := by
  rw [e15] at h
  exact denF_sound mixed Tryz.func15 h

-- (*gemel/flow.Bridge).Stations
instance fnb28 : FnB Tryz.prog 28 := ⟨Tryz.call28⟩
def p42 (P : Program) (K : Value → World → Prop) (x0 : Value) (x1 : Value) : World → Prop :=
  opS P (S.binI .geq x1 (.int .i64 1)) fun x2 =>
  brn x2 (
    opS P (S.nc x0) fun x3 =>
    opS P (S.fa 116 x3 2) fun x4 =>
    opS P (S.ld 22 x4) fun x5 =>
    opS P (S.len x5) fun x6 =>
    opS P (S.binI .lss x1 x6) fun x7 =>
    K x7
  ) (
    K (.bool false)
  )
instance fnb42 : FnB Tryz.prog 42 := ⟨Tryz.call42⟩
theorem e42 : p42 Tryz.prog = fun K x0 x1 => denF Tryz.prog Tryz.f42 [x0, x1] K := by kernel_rfl
theorem c42 {K : Value → World → Prop} {x0 x1 : Value} {w : World} (h : p42 Tryz.prog K x0 x1 w) : CallsR Tryz.prog 42 #[x0, x1] K w := by
  rw [e42] at h
  exact denF_sound mixed Tryz.func42 h

-- (*gemel/flow.Bridge).Vlans
def p47 (P : Program) (K : Value → World → Prop) (x0 : Value) : World → Prop :=
  opS P (S.nc x0) fun x1 =>
  opS P (S.fa 116 x1 0) fun x2 =>
  opS P (S.ld 113 x2) fun x3 =>
  K x3
instance fnb47 : FnB Tryz.prog 47 := ⟨Tryz.call47⟩
theorem e47 : p47 Tryz.prog = fun K x0 => denF Tryz.prog Tryz.f47 [x0] K := by kernel_rfl
theorem c47 {K : Value → World → Prop} {x0 : Value} {w : World} (h : p47 Tryz.prog K x0 w) : CallsR Tryz.prog 47 #[x0] K w := by
  rw [e47] at h
  exact denF_sound mixed Tryz.func47 h

-- (*gemel/flow.Bridge).Set
def p52 (P : Program) (K : Value → World → Prop) (x0 : Value) (x1 : Value) (x2 : Value) : World → Prop :=
  opS P (S.cl 42 [x0, x1]) fun x3 =>
  opS P (S.un .not x3) fun x4 =>
  brn x4 (
    K (.int .i64 1)
  ) (
    opS P (S.binI .lss x2 (.int .i64 0)) fun x5 =>
    brn x5 (
      K (.int .i64 1)
    ) (
      opS P (S.binI .gtr x2 (.int .i64 2)) fun x6 =>
      brn x6 (
        K (.int .i64 1)
      ) (
        opS P (S.nc x0) fun x7 =>
        opS P (S.fa 116 x7 2) fun x8 =>
        opS P (S.ld 22 x8) fun x9 =>
        opS P (S.ia 22 x9 x1) fun x10 =>
        opS P (S.st 3 x10 x2) fun x11 =>
        K (.int .i64 0)
      )
    )
  )
instance fnb52 : FnB Tryz.prog 52 := ⟨Tryz.call52⟩
theorem e52 : p52 Tryz.prog = fun K x0 x1 x2 => denF Tryz.prog Tryz.f52 [x0, x1, x2] K := by kernel_rfl
theorem c52 {K : Value → World → Prop} {x0 x1 x2 : Value} {w : World} (h : p52 Tryz.prog K x0 x1 x2 w) : CallsR Tryz.prog 52 #[x0, x1, x2] K w := by
  rw [e52] at h
  exact denF_sound mixed Tryz.func52 h

-- (*gemel/flow.Bridge).refused
def p155 (P : Program) (K : Value → World → Prop) (x0 : Value) (x1 : Value) (x2 : Value) (x3 : Value) : World → Prop :=
  opS P (S.box 61 x2) fun x4 =>
  opS P (S.cl 42 [x0, x1]) fun x5 =>
  opS P (S.un .not x5) fun x6 =>
  brn x6 (
    K (.tuple #[(.int .i64 1), (.int .i64 0)])
  ) (
    opS P (S.ld 61 x4) fun x7 =>
    opS P (S.cl 158 [x7]) fun x8 =>
    opS P (S.un .not x8) fun x9 =>
    brn x9 (
      K (.tuple #[(.int .i64 1), (.int .i64 0)])
    ) (
      opS P (S.binI .lss x3 (.int .i64 0)) fun x10 =>
      brn x10 (
        K (.tuple #[(.int .i64 1), (.int .i64 0)])
      ) (
        opS P (S.binI .gtr x3 (.int .i64 1099511627776)) fun x11 =>
        brn x11 (
          K (.tuple #[(.int .i64 1), (.int .i64 0)])
        ) (
          opS P (S.fa 61 x4 0) fun x12 =>
          opS P (S.ld 53 x12) fun x13 =>
          opS P (S.cl 211 [x13]) fun x14 =>
          brn x14 (
            K (.tuple #[(.int .i64 2), (.int .i64 0)])
          ) (
            opS P (S.nc x0) fun x15 =>
            opS P (S.fa 116 x15 2) fun x16 =>
            opS P (S.ld 22 x16) fun x17 =>
            opS P (S.ia 22 x17 x1) fun x18 =>
            opS P (S.ld 3 x18) fun x19 =>
            opS P (S.binI .eql x19 (.int .i64 0)) fun x20 =>
            brn x20 (
              K (.tuple #[(.int .i64 3), (.int .i64 0)])
            ) (
              drw <|
              opS P (S.nc x0) fun x21 =>
              opS P (S.fa 116 x21 0) fun x22 =>
              opS P (S.ld 113 x22) fun x23 =>
              opS P (S.ld 61 x4) fun x24 =>
              opS P (S.cl 212 [x23, x1, x24]) fun x25 =>
              opS P (S.ext x25 0) fun x26 =>
              opS P (S.ext x25 1) fun x27 =>
              opS P (S.binI .neq x27 (.int .i64 0)) fun x28 =>
              brn x28 (
                K (.tuple #[(.int .i64 4), (.int .i64 0)])
              ) (
                opS P (S.fa 61 x4 1) fun x29 =>
                opS P (S.ld 53 x29) fun x30 =>
                opS P (S.cl 213 [x30]) fun x31 =>
                brn x31 (
                  K (.tuple #[(.int .i64 5), x26])
                ) (
                  K (.tuple #[(.int .i64 0), x26])
                )
              )
            )
          )
        )
      )
    )
  )
instance fnb155 : FnB Tryz.prog 155 := ⟨Tryz.call155⟩
theorem e155 : p155 Tryz.prog = fun K x0 x1 x2 x3 => denF Tryz.prog Tryz.f155 [x0, x1, x2, x3] K := by kernel_rfl
theorem c155 {K : Value → World → Prop} {x0 x1 x2 x3 : Value} {w : World} (h : p155 Tryz.prog K x0 x1 x2 x3 w) : CallsR Tryz.prog 155 #[x0, x1, x2, x3] K w := by
  rw [e155] at h
  exact denF_sound mixed Tryz.func155 h

-- (*gemel/flow.Bridge).learn
def p156 (P : Program) (K : Value → World → Prop) (x0 : Value) (x1 : Value) (x2 : Value) (x3 : Value) (x4 : Value) : World → Prop :=
  opS P (S.box 53 x2) fun x5 =>
  drw <|
  opS P (S.nc x0) fun x6 =>
  opS P (S.fa 116 x6 1) fun x7 =>
  opS P (S.ld 82 x7) fun x8 =>
  opS P (S.ld 53 x5) fun x9 =>
  opS P (S.cl 133 [x8, x1, x9, x3, x4]) fun x10 =>
  opS P (S.ext x10 0) fun x11 =>
  opS P (S.ext x10 1) fun x12 =>
  opS P (S.binI .neq x12 (.int .i64 0)) fun x13 =>
  brn x13 (
    drw <|
    opS P (S.nc x0) fun x14 =>
    opS P (S.fa 116 x14 4) fun x15 =>
    opS P (S.ia 43 x15 (.int .i64 2)) fun x16 =>
    opS P (S.ld 3 x16) fun x17 =>
    opS P (S.binI .add x17 (.int .i64 1)) fun x18 =>
    opS P (S.nc x0) fun x19 =>
    opS P (S.fa 116 x19 4) fun x20 =>
    opS P (S.ia 43 x20 (.int .i64 2)) fun x21 =>
    opS P (S.st 3 x21 x18) fun x22 =>
    K (.tuple #[])
  ) (
    opS P (S.binI .eql x11 (.int .i64 1)) fun x14 =>
    brn x14 (
      drw <|
      opS P (S.nc x0) fun x15 =>
      opS P (S.fa 116 x15 4) fun x16 =>
      opS P (S.ia 43 x16 (.int .i64 0)) fun x17 =>
      opS P (S.ld 3 x17) fun x18 =>
      opS P (S.binI .add x18 (.int .i64 1)) fun x19 =>
      opS P (S.nc x0) fun x20 =>
      opS P (S.fa 116 x20 4) fun x21 =>
      opS P (S.ia 43 x21 (.int .i64 0)) fun x22 =>
      opS P (S.st 3 x22 x19) fun x23 =>
      K (.tuple #[])
    ) (
      opS P (S.binI .eql x11 (.int .i64 2)) fun x15 =>
      brn x15 (
        drw <|
        opS P (S.nc x0) fun x16 =>
        opS P (S.fa 116 x16 4) fun x17 =>
        opS P (S.ia 43 x17 (.int .i64 1)) fun x18 =>
        opS P (S.ld 3 x18) fun x19 =>
        opS P (S.binI .add x19 (.int .i64 1)) fun x20 =>
        opS P (S.nc x0) fun x21 =>
        opS P (S.fa 116 x21 4) fun x22 =>
        opS P (S.ia 43 x22 (.int .i64 1)) fun x23 =>
        opS P (S.st 3 x23 x20) fun x24 =>
        K (.tuple #[])
      ) (
        K (.tuple #[])
      )
    )
  )
instance fnb156 : FnB Tryz.prog 156 := ⟨Tryz.call156⟩
theorem e156 : p156 Tryz.prog = fun K x0 x1 x2 x3 x4 => denF Tryz.prog Tryz.f156 [x0, x1, x2, x3, x4] K := by kernel_rfl
theorem c156 {K : Value → World → Prop} {x0 x1 x2 x3 x4 : Value} {w : World} (h : p156 Tryz.prog K x0 x1 x2 x3 x4 w) : CallsR Tryz.prog 156 #[x0, x1, x2, x3, x4] K w := by
  rw [e156] at h
  exact denF_sound mixed Tryz.func156 h

-- gemel/mac.Reserved
def p211 (P : Program) (K : Value → World → Prop) (x0 : Value) : World → Prop :=
  opS P (S.box 53 x0) fun x1 =>
  opS P (S.ia 53 x1 (.int .i64 5)) fun x2 =>
  opS P (S.ld 5 x2) fun x3 =>
  opS P (S.binI .andNot x3 (.int .u8 15)) fun x4 =>
  opS P (S.ia 53 x1 (.int .i64 5)) fun x5 =>
  opS P (S.st 5 x5 x4) fun x6 =>
  opS P (S.ld 53 x1) fun x7 =>
  opS P (S.build 53 [(0, (.int .u8 1)), (1, (.int .u8 128)), (2, (.int .u8 194))]) fun x8 =>
  opS P (S.binG .eql 53 x7 x8) fun x9 =>
  K x9
instance fnb211 : FnB Tryz.prog 211 := ⟨Tryz.call211⟩
theorem e211 : p211 Tryz.prog = fun K x0 => denF Tryz.prog Tryz.f211 [x0] K := by kernel_rfl
theorem c211 {K : Value → World → Prop} {x0 : Value} {w : World} (h : p211 Tryz.prog K x0 w) : CallsR Tryz.prog 211 #[x0] K w := by
  rw [e211] at h
  exact denF_sound mixed Tryz.func211 h

end Go.Gx.S
-- 47 28 42 52 15 156 155 211
end

section
/- What the functions of this program ask. -/
set_option linter.unusedVariables false
set_option maxRecDepth 100000
namespace Go.Gx.S
open Go Go.Gx Go.Proofs
-- (*gemel/vlan.Table).Add
def p48 (P : Program) (K : Value → World → Prop) (x0 : Value) (x1 : Value) (x2 : Value) (x3 : Value) : World → Prop :=
  opS P (S.cl 103 [x0, x1, x2]) fun x4 =>
  opS P (S.un .not x4) fun x5 =>
  brn x5 (
    K (.int .i64 1)
  ) (
    opS P (S.nc x0) fun x6 =>
    opS P (S.fa 185 x6 0) fun x7 =>
    opS P (S.ld 183 x7) fun x8 =>
    opS P (S.build 187 [(0, x1), (1, x2)]) fun x9 =>
    opS P (S.mu 183 x8 x9 x3) fun x10 =>
    K (.int .i64 0)
  )
instance fnb48 : FnB Tryz.prog 48 := ⟨Tryz.call48⟩
theorem e48 : p48 Tryz.prog = fun K x0 x1 x2 x3 => denF Tryz.prog Tryz.f48 [x0, x1, x2, x3] K := by kernel_rfl
theorem c48 {K : Value → World → Prop} {x0 x1 x2 x3 : Value} {w : World} (h : p48 Tryz.prog K x0 x1 x2 x3 w) : CallsR Tryz.prog 48 #[x0, x1, x2, x3] K w := by
  rw [e48] at h
  exact denF_sound mixed Tryz.func48 h

-- (*gemel/gemelref07.Table).Add
def p49 (P : Program) (K : Value → World → Prop) (x0 : Value) (x1 : Value) (x2 : Value) (x3 : Value) : World → Prop :=
  opS P (S.cl 104 [x0, x1, x2]) fun x4 =>
  opS P (S.un .not x4) fun x5 =>
  brn x5 (
    K (.int .i64 1)
  ) (
    opS P (S.cl 105 [x0, x1, x2]) fun x6 =>
    opS P (S.binI .geq x6 (.int .i64 0)) fun x7 =>
    brn x7 (
      opS P (S.nc x0) fun x8 =>
      opS P (S.fa 193 x8 1) fun x9 =>
      opS P (S.ld 191 x9) fun x10 =>
      opS P (S.ia 191 x10 x6) fun x11 =>
      opS P (S.fa 190 x11 2) fun x12 =>
      opS P (S.st 4 x12 x3) fun x13 =>
      K (.int .i64 0)
    ) (
      opS P (S.buildS 191 0 []) fun x8 =>
      opS P (S.nc x0) fun x9 =>
      opS P (S.fa 193 x9 1) fun x10 =>
      opS P (S.ld 191 x10) fun x11 =>
      opS P (S.bi .append #[191, 191] 191 [x8, x11]) fun x12 =>
      opS P (S.build 190 [(0, x1), (1, x2), (2, x3)]) fun x13 =>
      opS P (S.buildS 191 1 [(0, x13)]) fun x14 =>
      opS P (S.bi .append #[191, 191] 191 [x12, x14]) fun x15 =>
      opS P (S.nc x0) fun x16 =>
      opS P (S.fa 193 x16 1) fun x17 =>
      opS P (S.st 191 x17 x15) fun x18 =>
      K (.int .i64 0)
    )
  )
instance fnb49 : FnB Tryz.prog 49 := ⟨Tryz.call49⟩
theorem e49 : p49 Tryz.prog = fun K x0 x1 x2 x3 => denF Tryz.prog Tryz.f49 [x0, x1, x2, x3] K := by kernel_rfl
theorem c49 {K : Value → World → Prop} {x0 x1 x2 x3 : Value} {w : World} (h : p49 Tryz.prog K x0 x1 x2 x3 w) : CallsR Tryz.prog 49 #[x0, x1, x2, x3] K w := by
  rw [e49] at h
  exact denF_sound mixed Tryz.func49 h

-- (*gemel/vlan.Table).Native
def p50 (P : Program) (K : Value → World → Prop) (x0 : Value) (x1 : Value) (x2 : Value) : World → Prop :=
  opS P (S.cl 106 [x0, x1]) fun x3 =>
  opS P (S.un .not x3) fun x4 =>
  brn x4 (
    K (.int .i64 1)
  ) (
    opS P (S.binI .lss x2 (.int .i64 0)) fun x5 =>
    brn x5 (
      K (.int .i64 1)
    ) (
      opS P (S.binI .gtr x2 (.int .i64 4094)) fun x6 =>
      brn x6 (
        K (.int .i64 1)
      ) (
        opS P (S.nc x0) fun x7 =>
        opS P (S.fa 185 x7 1) fun x8 =>
        opS P (S.ld 22 x8) fun x9 =>
        opS P (S.ia 22 x9 x1) fun x10 =>
        opS P (S.st 3 x10 x2) fun x11 =>
        K (.int .i64 0)
      )
    )
  )
instance fnb50 : FnB Tryz.prog 50 := ⟨Tryz.call50⟩
theorem e50 : p50 Tryz.prog = fun K x0 x1 x2 => denF Tryz.prog Tryz.f50 [x0, x1, x2] K := by kernel_rfl
theorem c50 {K : Value → World → Prop} {x0 x1 x2 : Value} {w : World} (h : p50 Tryz.prog K x0 x1 x2 w) : CallsR Tryz.prog 50 #[x0, x1, x2] K w := by
  rw [e50] at h
  exact denF_sound mixed Tryz.func50 h

-- (*gemel/gemelref07.Table).Native
def p51 (P : Program) (K : Value → World → Prop) (x0 : Value) (x1 : Value) (x2 : Value) : World → Prop :=
  opS P (S.binI .lss x1 (.int .i64 0)) fun x3 =>
  brn x3 (
    K (.int .i64 1)
  ) (
    opS P (S.nc x0) fun x4 =>
    opS P (S.fa 193 x4 0) fun x5 =>
    opS P (S.ld 3 x5) fun x6 =>
    opS P (S.binI .geq x1 x6) fun x7 =>
    brn x7 (
      K (.int .i64 1)
    ) (
      opS P (S.binI .lss x2 (.int .i64 0)) fun x8 =>
      brn x8 (
        K (.int .i64 1)
      ) (
        opS P (S.binI .gtr x2 (.int .i64 4094)) fun x9 =>
        brn x9 (
          K (.int .i64 1)
        ) (
          opS P (S.nc x0) fun x10 =>
          opS P (S.fa 193 x10 2) fun x11 =>
          opS P (S.ld 22 x11) fun x12 =>
          opS P (S.ia 22 x12 x1) fun x13 =>
          opS P (S.st 3 x13 x2) fun x14 =>
          K (.int .i64 0)
        )
      )
    )
  )
instance fnb51 : FnB Tryz.prog 51 := ⟨Tryz.call51⟩
theorem e51 : p51 Tryz.prog = fun K x0 x1 x2 => denF Tryz.prog Tryz.f51 [x0, x1, x2] K := by kernel_rfl
theorem c51 {K : Value → World → Prop} {x0 x1 x2 : Value} {w : World} (h : p51 Tryz.prog K x0 x1 x2 w) : CallsR Tryz.prog 51 #[x0, x1, x2] K w := by
  rw [e51] at h
  exact denF_sound mixed Tryz.func51 h

-- gemel/gemelref02.Same
instance fnb72 : FnB Tryz.prog 72 := ⟨Tryz.call72⟩
def p98 (P : Program) (K : Value → World → Prop) (x0 : Value) : World → Prop :=
  opS P (S.binI .lss x0 (.int .i64 1)) fun x1 =>
  brn x1 (
    K (.tuple #[(.pointer none), (.int .i64 1)])
  ) (
    opS P (S.binI .gtr x0 (.int .i64 64)) fun x2 =>
    brn x2 (
      K (.tuple #[(.pointer none), (.int .i64 1)])
    ) (
      opS P (S.mkm 183 none) fun x3 =>
      opS P (S.mks 22 x0 x0) fun x4 =>
      opS P (S.build 185 [(0, x3), (1, x4)]) fun x5 =>
      opS P (S.box 185 x5) fun x6 =>
      K (.tuple #[x6, (.int .i64 0)])
    )
  )
instance fnb98 : FnB Tryz.prog 98 := ⟨Tryz.call98⟩
theorem e98 : p98 Tryz.prog = fun K x0 => denF Tryz.prog Tryz.f98 [x0] K := by kernel_rfl
theorem c98 {K : Value → World → Prop} {x0 : Value} {w : World} (h : p98 Tryz.prog K x0 w) : CallsR Tryz.prog 98 #[x0] K w := by
  rw [e98] at h
  exact denF_sound mixed Tryz.func98 h

-- gemel/gemelref07.New
def p101 (P : Program) (K : Value → World → Prop) (x0 : Value) : World → Prop :=
  opS P (S.binI .lss x0 (.int .i64 1)) fun x1 =>
  brn x1 (
    K (.tuple #[(.pointer none), (.int .i64 1)])
  ) (
    opS P (S.binI .gtr x0 (.int .i64 64)) fun x2 =>
    brn x2 (
      K (.tuple #[(.pointer none), (.int .i64 1)])
    ) (
      opS P (S.mks 22 x0 x0) fun x3 =>
      opS P (S.build 193 [(0, x0), (2, x3)]) fun x4 =>
      opS P (S.box 193 x4) fun x5 =>
      K (.tuple #[x5, (.int .i64 0)])
    )
  )
instance fnb101 : FnB Tryz.prog 101 := ⟨Tryz.call101⟩
theorem e101 : p101 Tryz.prog = fun K x0 => denF Tryz.prog Tryz.f101 [x0] K := by kernel_rfl
theorem c101 {K : Value → World → Prop} {x0 : Value} {w : World} (h : p101 Tryz.prog K x0 w) : CallsR Tryz.prog 101 #[x0] K w := by
  rw [e101] at h
  exact denF_sound mixed Tryz.func101 h

-- (*gemel/vlan.Table).right
def p103 (P : Program) (K : Value → World → Prop) (x0 : Value) (x1 : Value) (x2 : Value) : World → Prop :=
  opS P (S.binI .geq x1 (.int .i64 1)) fun x3 =>
  brn x3 (
    opS P (S.binI .leq x1 (.int .i64 4094)) fun x4 =>
    brn x4 (
      opS P (S.cl 106 [x0, x2]) fun x5 =>
      K x5
    ) (
      K (.bool false)
    )
  ) (
    K (.bool false)
  )
instance fnb103 : FnB Tryz.prog 103 := ⟨Tryz.call103⟩
theorem e103 : p103 Tryz.prog = fun K x0 x1 x2 => denF Tryz.prog Tryz.f103 [x0, x1, x2] K := by kernel_rfl
theorem c103 {K : Value → World → Prop} {x0 x1 x2 : Value} {w : World} (h : p103 Tryz.prog K x0 x1 x2 w) : CallsR Tryz.prog 103 #[x0, x1, x2] K w := by
  rw [e103] at h
  exact denF_sound mixed Tryz.func103 h

-- (*gemel/gemelref07.Table).right
def p104 (P : Program) (K : Value → World → Prop) (x0 : Value) (x1 : Value) (x2 : Value) : World → Prop :=
  opS P (S.binI .geq x1 (.int .i64 1)) fun x3 =>
  brn x3 (
    opS P (S.binI .leq x1 (.int .i64 4094)) fun x4 =>
    brn x4 (
      opS P (S.binI .geq x2 (.int .i64 0)) fun x5 =>
      brn x5 (
        opS P (S.nc x0) fun x6 =>
        opS P (S.fa 193 x6 0) fun x7 =>
        opS P (S.ld 3 x7) fun x8 =>
        opS P (S.binI .lss x2 x8) fun x9 =>
        K x9
      ) (
        K (.bool false)
      )
    ) (
      K (.bool false)
    )
  ) (
    K (.bool false)
  )
instance fnb104 : FnB Tryz.prog 104 := ⟨Tryz.call104⟩
theorem e104 : p104 Tryz.prog = fun K x0 x1 x2 => denF Tryz.prog Tryz.f104 [x0, x1, x2] K := by kernel_rfl
theorem c104 {K : Value → World → Prop} {x0 x1 x2 : Value} {w : World} (h : p104 Tryz.prog K x0 x1 x2 w) : CallsR Tryz.prog 104 #[x0, x1, x2] K w := by
  rw [e104] at h
  exact denF_sound mixed Tryz.func104 h

-- (*gemel/gemelref07.Table).Find
def p105 (P : Program) (K : Value → World → Prop) (x0 : Value) (x1 : Value) (x2 : Value) : World → Prop :=
  jnJ 0 (
    K (.int .i64 (-1))
  ) fun j0 =>
  loopJ 1 (fun j1 x3 =>
    opS P (S.nc x0) fun x4 =>
    opS P (S.fa 193 x4 1) fun x5 =>
    opS P (S.ld 191 x5) fun x6 =>
    opS P (S.len x6) fun x7 =>
    opS P (S.binI .lss x3 x7) fun x8 =>
    brn x8 (
      opS P (S.nc x0) fun x9 =>
      opS P (S.fa 193 x9 1) fun x10 =>
      opS P (S.ld 191 x10) fun x11 =>
      opS P (S.ia 191 x11 x3) fun x12 =>
      opS P (S.fa 190 x12 0) fun x13 =>
      opS P (S.ld 3 x13) fun x14 =>
      opS P (S.binI .eql x14 x1) fun x15 =>
      brn x15 (
        opS P (S.nc x0) fun x16 =>
        opS P (S.fa 193 x16 1) fun x17 =>
        opS P (S.ld 191 x17) fun x18 =>
        opS P (S.ia 191 x18 x3) fun x19 =>
        opS P (S.fa 190 x19 1) fun x20 =>
        opS P (S.ld 3 x20) fun x21 =>
        opS P (S.binI .eql x21 x2) fun x22 =>
        brn x22 (
          K x3
        ) (
          opS P (S.binI .add x3 (.int .i64 1)) fun x23 =>
          j1 x23
        )
      ) (
        opS P (S.binI .add x3 (.int .i64 1)) fun x16 =>
        j1 x16
      )
    ) (
      j0
    )
  ) (.int .i64 0)
instance fnb105 : FnB Tryz.prog 105 := ⟨Tryz.call105⟩
theorem e105 : p105 Tryz.prog = fun K x0 x1 x2 => denF Tryz.prog Tryz.f105 [x0, x1, x2] K := by kernel_rfl
theorem c105 {K : Value → World → Prop} {x0 x1 x2 : Value} {w : World} (h : p105 Tryz.prog K x0 x1 x2 w) : CallsR Tryz.prog 105 #[x0, x1, x2] K w := by
  rw [e105] at h
  exact denF_sound mixed Tryz.func105 h

-- (*gemel/vlan.Table).port
def p106 (P : Program) (K : Value → World → Prop) (x0 : Value) (x1 : Value) : World → Prop :=
  opS P (S.binI .geq x1 (.int .i64 0)) fun x2 =>
  brn x2 (
    opS P (S.nc x0) fun x3 =>
    opS P (S.fa 185 x3 1) fun x4 =>
    opS P (S.ld 22 x4) fun x5 =>
    opS P (S.len x5) fun x6 =>
    opS P (S.binI .lss x1 x6) fun x7 =>
    K x7
  ) (
    K (.bool false)
  )
instance fnb106 : FnB Tryz.prog 106 := ⟨Tryz.call106⟩
theorem e106 : p106 Tryz.prog = fun K x0 x1 => denF Tryz.prog Tryz.f106 [x0, x1] K := by kernel_rfl
theorem c106 {K : Value → World → Prop} {x0 x1 : Value} {w : World} (h : p106 Tryz.prog K x0 x1 w) : CallsR Tryz.prog 106 #[x0, x1] K w := by
  rw [e106] at h
  exact denF_sound mixed Tryz.func106 h

-- gemel/ether.Right
def p158 (P : Program) (K : Value → World → Prop) (x0 : Value) : World → Prop :=
  opS P (S.box 61 x0) fun x1 =>
  opS P (S.fa 61 x1 5) fun x2 =>
  opS P (S.ld 3 x2) fun x3 =>
  opS P (S.binI .lss x3 (.int .i64 1536)) fun x4 =>
  brn x4 (
    K (.bool false)
  ) (
    opS P (S.fa 61 x1 5) fun x5 =>
    opS P (S.ld 3 x5) fun x6 =>
    opS P (S.binI .gtr x6 (.int .i64 65535)) fun x7 =>
    brn x7 (
      K (.bool false)
    ) (
      opS P (S.fa 61 x1 5) fun x8 =>
      opS P (S.ld 3 x8) fun x9 =>
      opS P (S.binI .eql x9 (.int .i64 33024)) fun x10 =>
      brn x10 (
        K (.bool false)
      ) (
        opS P (S.fa 61 x1 6) fun x11 =>
        opS P (S.ld 54 x11) fun x12 =>
        opS P (S.len x12) fun x13 =>
        opS P (S.binI .gtr x13 (.int .i64 1500)) fun x14 =>
        brn x14 (
          K (.bool false)
        ) (
          opS P (S.fa 61 x1 2) fun x15 =>
          opS P (S.ld 4 x15) fun x16 =>
          opS P (S.un .not x16) fun x17 =>
          brn x17 (
            jnJ 1 (fun x18 =>
              K x18
            ) fun j0 =>
            opS P (S.fa 61 x1 3) fun x18 =>
            opS P (S.ld 3 x18) fun x19 =>
            opS P (S.binI .eql x19 (.int .i64 0)) fun x20 =>
            brn x20 (
              opS P (S.fa 61 x1 4) fun x21 =>
              opS P (S.ld 3 x21) fun x22 =>
              opS P (S.binI .eql x22 (.int .i64 0)) fun x23 =>
              j0 x23
            ) (
              j0 (.bool false)
            )
          ) (
            opS P (S.fa 61 x1 3) fun x18 =>
            opS P (S.ld 3 x18) fun x19 =>
            opS P (S.binI .geq x19 (.int .i64 0)) fun x20 =>
            brn x20 (
              opS P (S.fa 61 x1 3) fun x21 =>
              opS P (S.ld 3 x21) fun x22 =>
              opS P (S.binI .leq x22 (.int .i64 4094)) fun x23 =>
              brn x23 (
                opS P (S.fa 61 x1 4) fun x24 =>
                opS P (S.ld 3 x24) fun x25 =>
                opS P (S.binI .geq x25 (.int .i64 0)) fun x26 =>
                brn x26 (
                  opS P (S.fa 61 x1 4) fun x27 =>
                  opS P (S.ld 3 x27) fun x28 =>
                  opS P (S.binI .leq x28 (.int .i64 7)) fun x29 =>
                  K x29
                ) (
                  K (.bool false)
                )
              ) (
                K (.bool false)
              )
            ) (
              K (.bool false)
            )
          )
        )
      )
    )
  )
instance fnb158 : FnB Tryz.prog 158 := ⟨Tryz.call158⟩
theorem e158 : p158 Tryz.prog = fun K x0 => denF Tryz.prog Tryz.f158 [x0] K := by kernel_rfl
theorem c158 {K : Value → World → Prop} {x0 : Value} {w : World} (h : p158 Tryz.prog K x0 w) : CallsR Tryz.prog 158 #[x0] K w := by
  rw [e158] at h
  exact denF_sound mixed Tryz.func158 h

-- gemel/gemelref02.Right
instance fnb167 : FnB Tryz.prog 167 := ⟨Tryz.call167⟩
instance fnb206 : FnB Tryz.prog 206 := ⟨Tryz.call206⟩
def p212 (P : Program) (K : Value → World → Prop) (x0 : Value) (x1 : Value) (x2 : Value) : World → Prop :=
  opS P (S.box 61 x2) fun x3 =>
  opS P (S.cl 106 [x0, x1]) fun x4 =>
  opS P (S.un .not x4) fun x5 =>
  brn x5 (
    K (.tuple #[(.int .i64 0), (.int .i64 1)])
  ) (
    opS P (S.ld 61 x3) fun x6 =>
    opS P (S.cl 158 [x6]) fun x7 =>
    opS P (S.un .not x7) fun x8 =>
    brn x8 (
      K (.tuple #[(.int .i64 0), (.int .i64 1)])
    ) (
      opS P (S.fa 61 x3 3) fun x9 =>
      opS P (S.ld 3 x9) fun x10 =>
      jnJ 1 (fun x11 =>
        opS P (S.nc x0) fun x12 =>
        opS P (S.fa 185 x12 0) fun x13 =>
        opS P (S.ld 183 x13) fun x14 =>
        opS P (S.build 187 [(0, x11), (1, x1)]) fun x15 =>
        opS P (S.lk 183 x14 x15 true) fun x16 =>
        opS P (S.ext x16 0) fun x17 =>
        opS P (S.ext x16 1) fun x18 =>
        opS P (S.un .not x18) fun x19 =>
        brn x19 (
          K (.tuple #[(.int .i64 0), (.int .i64 4)])
        ) (
          K (.tuple #[x11, (.int .i64 0)])
        )
      ) fun j0 =>
      opS P (S.binI .eql x10 (.int .i64 0)) fun x11 =>
      brn x11 (
        opS P (S.nc x0) fun x12 =>
        opS P (S.fa 185 x12 1) fun x13 =>
        opS P (S.ld 22 x13) fun x14 =>
        opS P (S.ia 22 x14 x1) fun x15 =>
        opS P (S.ld 3 x15) fun x16 =>
        j0 x16
      ) (
        j0 x10
      )
    )
  )
instance fnb212 : FnB Tryz.prog 212 := ⟨Tryz.call212⟩
theorem e212 : p212 Tryz.prog = fun K x0 x1 x2 => denF Tryz.prog Tryz.f212 [x0, x1, x2] K := by kernel_rfl
theorem c212 {K : Value → World → Prop} {x0 x1 x2 : Value} {w : World} (h : p212 Tryz.prog K x0 x1 x2 w) : CallsR Tryz.prog 212 #[x0, x1, x2] K w := by
  rw [e212] at h
  exact denF_sound mixed Tryz.func212 h

-- (*gemel/gemelref07.Table).In
instance fnb218 : FnB Tryz.prog 218 := ⟨Tryz.call218⟩
def p234 (P : Program) (K : Value → World → Prop) (x0 : Value) (x1 : Value) (x2 : Value) (x3 : Value) : World → Prop :=
  opS P (S.box 61 x3) fun x4 =>
  opS P (S.alloc 61) fun x5 =>
  opS P (S.cl 103 [x0, x1, x2]) fun x6 =>
  opS P (S.un .not x6) fun x7 =>
  brn x7 (
    opS P (S.build 61 []) fun x8 =>
    opS P (S.st 61 x5 x8) fun x9 =>
    opS P (S.ld 61 x5) fun x10 =>
    K (.tuple #[x10, (.int .i64 1)])
  ) (
    opS P (S.ld 61 x4) fun x8 =>
    opS P (S.cl 158 [x8]) fun x9 =>
    opS P (S.un .not x9) fun x10 =>
    brn x10 (
      opS P (S.build 61 []) fun x11 =>
      opS P (S.st 61 x5 x11) fun x12 =>
      opS P (S.ld 61 x5) fun x13 =>
      K (.tuple #[x13, (.int .i64 1)])
    ) (
      opS P (S.nc x0) fun x11 =>
      opS P (S.fa 185 x11 0) fun x12 =>
      opS P (S.ld 183 x12) fun x13 =>
      opS P (S.build 187 [(0, x1), (1, x2)]) fun x14 =>
      opS P (S.lk 183 x13 x14 true) fun x15 =>
      opS P (S.ext x15 0) fun x16 =>
      opS P (S.ext x15 1) fun x17 =>
      opS P (S.un .not x17) fun x18 =>
      brn x18 (
        opS P (S.build 61 []) fun x19 =>
        opS P (S.st 61 x5 x19) fun x20 =>
        opS P (S.ld 61 x5) fun x21 =>
        K (.tuple #[x21, (.int .i64 4)])
      ) (
        brn x16 (
          opS P (S.ld 61 x4) fun x19 =>
          opS P (S.fa 61 x4 4) fun x20 =>
          opS P (S.ld 3 x20) fun x21 =>
          opS P (S.cl 253 [x19, x1, x21]) fun x22 =>
          opS P (S.ext x22 0) fun x23 =>
          opS P (S.ext x22 1) fun x24 =>
          opS P (S.st 61 x5 x23) fun x25 =>
          opS P (S.ld 61 x5) fun x26 =>
          K (.tuple #[x26, x24])
        ) (
          opS P (S.ld 61 x4) fun x19 =>
          opS P (S.cl 254 [x19]) fun x20 =>
          opS P (S.st 61 x5 x20) fun x21 =>
          opS P (S.ld 61 x5) fun x22 =>
          K (.tuple #[x22, (.int .i64 0)])
        )
      )
    )
  )
instance fnb234 : FnB Tryz.prog 234 := ⟨Tryz.call234⟩
theorem e234 : p234 Tryz.prog = fun K x0 x1 x2 x3 => denF Tryz.prog Tryz.f234 [x0, x1, x2, x3] K := by kernel_rfl
theorem c234 {K : Value → World → Prop} {x0 x1 x2 x3 : Value} {w : World} (h : p234 Tryz.prog K x0 x1 x2 x3 w) : CallsR Tryz.prog 234 #[x0, x1, x2, x3] K w := by
  rw [e234] at h
  exact denF_sound mixed Tryz.func234 h

-- gemel/gemelref02.Tag
instance fnb235 : FnB Tryz.prog 235 := ⟨Tryz.call235⟩
instance fnb236 : FnB Tryz.prog 236 := ⟨Tryz.call236⟩
def p253 (P : Program) (K : Value → World → Prop) (x0 : Value) (x1 : Value) (x2 : Value) : World → Prop :=
  opS P (S.box 61 x0) fun x3 =>
  opS P (S.alloc 61) fun x4 =>
  opS P (S.fa 61 x3 2) fun x5 =>
  opS P (S.st 4 x5 (.bool true)) fun x6 =>
  opS P (S.fa 61 x3 3) fun x7 =>
  opS P (S.st 3 x7 x1) fun x8 =>
  opS P (S.fa 61 x3 4) fun x9 =>
  opS P (S.st 3 x9 x2) fun x10 =>
  opS P (S.ld 61 x3) fun x11 =>
  opS P (S.cl 158 [x11]) fun x12 =>
  opS P (S.un .not x12) fun x13 =>
  brn x13 (
    opS P (S.build 61 []) fun x14 =>
    opS P (S.st 61 x4 x14) fun x15 =>
    opS P (S.ld 61 x4) fun x16 =>
    K (.tuple #[x16, (.int .i64 1)])
  ) (
    opS P (S.ld 61 x3) fun x14 =>
    opS P (S.st 61 x4 x14) fun x15 =>
    opS P (S.ld 61 x4) fun x16 =>
    K (.tuple #[x16, (.int .i64 0)])
  )
instance fnb253 : FnB Tryz.prog 253 := ⟨Tryz.call253⟩
theorem e253 : p253 Tryz.prog = fun K x0 x1 x2 => denF Tryz.prog Tryz.f253 [x0, x1, x2] K := by kernel_rfl
theorem c253 {K : Value → World → Prop} {x0 x1 x2 : Value} {w : World} (h : p253 Tryz.prog K x0 x1 x2 w) : CallsR Tryz.prog 253 #[x0, x1, x2] K w := by
  rw [e253] at h
  exact denF_sound mixed Tryz.func253 h

-- gemel/ether.Untag
def p254 (P : Program) (K : Value → World → Prop) (x0 : Value) : World → Prop :=
  opS P (S.box 61 x0) fun x1 =>
  opS P (S.alloc 61) fun x2 =>
  opS P (S.fa 61 x1 2) fun x3 =>
  opS P (S.st 4 x3 (.bool false)) fun x4 =>
  opS P (S.fa 61 x1 3) fun x5 =>
  opS P (S.st 3 x5 (.int .i64 0)) fun x6 =>
  opS P (S.fa 61 x1 4) fun x7 =>
  opS P (S.st 3 x7 (.int .i64 0)) fun x8 =>
  opS P (S.ld 61 x1) fun x9 =>
  opS P (S.st 61 x2 x9) fun x10 =>
  opS P (S.ld 61 x2) fun x11 =>
  K x11
instance fnb254 : FnB Tryz.prog 254 := ⟨Tryz.call254⟩
theorem e254 : p254 Tryz.prog = fun K x0 => denF Tryz.prog Tryz.f254 [x0] K := by kernel_rfl
theorem c254 {K : Value → World → Prop} {x0 : Value} {w : World} (h : p254 Tryz.prog K x0 w) : CallsR Tryz.prog 254 #[x0] K w := by
  rw [e254] at h
  exact denF_sound mixed Tryz.func254 h

end Go.Gx.S
-- 158 167 253 235 254 236 72 98 106 103 48 50 212 234 101 104 105 49 51 218 206
end

section
/- Maps: what they hold; looking up, putting, deleting, going through. -/
namespace Go.Gx
open Go Go.Maps
variable {P : Program} {K : Value → World → Prop} {w : World}

/-- keys of a type, as values of a Lean type -/
class KeyC (P : Program) (T : TypeId) (κ : outParam Type) (kc : outParam (κ → Value)) (ok : outParam (κ → Prop)) : Prop where
  law : Keyed P T
  of : ∀ k, ok k → ∃ l, keyOf P T (kc k) = some l
  inj : ∀ a b, kc a = kc b → a = b

section
variable {κ ν : Type} {kc : κ → Value} {vc : ν → Value} {kok : κ → Prop}

structure MHolds (kc : κ → Value) (vc : ν → Value) (kok : κ → Prop) (es : List MapEntry) (clock : Nat) (l : List (κ × ν)) : Prop where
  same : es.map (fun e => (e.key, e.val)) = l.map fun p => (kc p.1, vc p.2)
  nd : (l.map Prod.fst).Nodup
  ok : ∀ p ∈ l, kok p.1
  born : (es.map (·.born)).Nodup
  lt : ∀ e ∈ es, e.born < clock

/-- a map, in the order in which its keys came -/
def MapR (kc : κ → Value) (vc : ν → Value) (kok : κ → Prop) (w : World) (m : Nat) (l : List (κ × ν)) : Prop :=
  ∃ es clock, w.heap[m]? = some (.map es clock) ∧ MHolds kc vc kok es.toList clock l

theorem MapR.fr {fp : Nat → Prop} {w w' : World} {m : Nat} {l : List (κ × ν)} (h : MapR kc vc kok w m l) (hf : Fr fp w w') (hn : ¬ fp m) : MapR kc vc kok w' m l := by
  obtain ⟨es, clock, hb, hh⟩ := h
  exact ⟨es, clock, hf.heap hb hn, hh⟩
theorem MapR.lt {m : Nat} {l : List (κ × ν)} (h : MapR kc vc kok w m l) : m < w.heap.size := by
  obtain ⟨es, clock, hb, hh⟩ := h
  exact lt_of_heap hb
theorem MapR.drew {m : Nat} {l : List (κ × ν)} (h : MapR kc vc kok w m l) : MapR kc vc kok w.drew m l := h

theorem MHolds.len {es : List MapEntry} {clock : Nat} {l : List (κ × ν)} (h : MHolds kc vc kok es clock l) : es.length = l.length := by
  have := congrArg List.length h.same
  simpa using this
theorem MHolds.at {es : List MapEntry} {clock : Nat} {l : List (κ × ν)} (h : MHolds kc vc kok es clock l) {j : Nat} {e : MapEntry} (he : es[j]? = some e) : ∃ p, l[j]? = some p ∧ e.key = kc p.1 ∧ e.val = vc p.2 := by
  have := congrArg (fun l => l[j]?) h.same
  simp only [List.getElem?_map, he, Option.map_some] at this
  cases hl : l[j]? with
  | none => rw [hl] at this; cases this
  | some p =>
    rw [hl, Option.map_some, Option.some.injEq, Prod.mk.injEq] at this
    exact ⟨p, rfl, this.1, this.2⟩
theorem MHolds.mem {es : List MapEntry} {clock : Nat} {l : List (κ × ν)} (h : MHolds kc vc kok es clock l) {e : MapEntry} (he : e ∈ es) : ∃ p ∈ l, e.key = kc p.1 ∧ e.val = vc p.2 := by
  obtain ⟨j, hj⟩ := List.mem_iff_getElem?.1 he
  obtain ⟨p, hp, h1, h2⟩ := h.at hj
  exact ⟨p, List.mem_of_getElem? hp, h1, h2⟩

variable [DecidableEq κ]

/-- what a key has -/
def getL {κ ν : Type} [DecidableEq κ] : List (κ × ν) → κ → Option ν
  | [], _ => none
  | q :: l, k => match @BEq.beq κ instBEqOfDecidableEq k q.1 with
    | true => some q.2
    | false => getL l k

theorem lookup_of_mem : ∀ {l : List (κ × ν)}, (l.map Prod.fst).Nodup → ∀ {p : κ × ν}, p ∈ l → getL l p.1 = some p.2
  | [], _, _, h => by cases h
  | q :: l, hn, p, h => by
    rw [List.map_cons, List.nodup_cons] at hn
    rcases List.mem_cons.1 h with rfl | h
    · simp [getL]
    · have hne : p.1 ≠ q.1 := fun e => hn.1 (e ▸ List.mem_map_of_mem h)
      have : (p.1 == q.1) = false := by simpa using hne
      rw [getL, this]
      exact lookup_of_mem hn.2 h
theorem lookup_none : ∀ {l : List (κ × ν)} {k : κ}, (∀ p ∈ l, p.1 ≠ k) → getL l k = none
  | [], _, _ => rfl
  | q :: l, k, h => by
    have hne : (k == q.1) = false := by simpa using (h q (List.mem_cons_self ..)).symm
    rw [getL, hne]
    exact lookup_none fun p hp => h p (List.mem_cons_of_mem _ hp)
theorem lookup_some_mem : ∀ {l : List (κ × ν)} {k : κ} {v : ν}, getL l k = some v → (k, v) ∈ l
  | [], _, _, h => by cases h
  | q :: l, k, v, h => by
    rw [getL] at h
    split at h
    · rename_i he
      rw [beq_iff_eq] at he
      cases h
      subst he
      exact List.mem_cons_self ..
    · exact List.mem_cons_of_mem _ (lookup_some_mem h)

/-- a value is put in -/
def setL (l : List (κ × ν)) (k : κ) (v : ν) : List (κ × ν) := if (getL l k).isSome then l.map fun p => if p.1 = k then (k, v) else p else l ++ [(k, v)]
def delL (l : List (κ × ν)) (k : κ) : List (κ × ν) := l.filter fun p => decide (p.1 ≠ k)

theorem lookup_setL (l : List (κ × ν)) (k : κ) (v : ν) (k' : κ) : getL (setL l k v) k' = if k' = k then some v else getL l k' := by
  unfold setL
  split
  · rename_i hs
    by_cases e : k' = k
    · subst e
      rw [if_pos rfl]
      obtain ⟨u, hu⟩ := Option.isSome_iff_exists.1 hs
      clear hs
      induction l with
      | nil => cases hu
      | cons q l ih =>
        rw [getL] at hu
        rw [List.map_cons]
        by_cases hq : q.1 = k'
        · rw [if_pos hq]; simp [getL]
        · have : (k' == q.1) = false := by simpa using fun h => hq h.symm
          rw [this] at hu
          rw [if_neg hq, getL, this]
          exact ih hu
    · rw [if_neg e]
      clear hs
      induction l with
      | nil => rfl
      | cons q l ih =>
        rw [List.map_cons]
        by_cases hq : q.1 = k
        · have h1 : (k' == k) = false := by simpa using e
          have h2 : (k' == q.1) = false := by rw [hq]; exact h1
          rw [if_pos hq, getL, h1, getL, h2]
          exact ih
        · rw [if_neg hq, getL, getL]
          cases (k' == q.1)
          · exact ih
          · rfl
  · rename_i hs
    have hn : getL l k = none := by
      cases hl : getL l k with
      | none => rfl
      | some v => rw [hl] at hs; exact absurd rfl hs
    clear hs
    induction l with
    | nil =>
      by_cases e : k' = k
      · subst e; simp [getL]
      · have : (k' == k) = false := by simpa using e
        simp [getL, this, e]
    | cons q l ih =>
      rw [getL] at hn
      rw [List.cons_append, getL, getL]
      cases hq : (k == q.1) with
      | true => rw [hq] at hn; cases hn
      | false =>
        rw [hq] at hn
        cases h1 : (k' == q.1) with
        | true =>
          have : k' ≠ k := fun e => by
            subst e; rw [hq] at h1; cases h1
          rw [if_neg this]
        | false => exact ih hn

theorem setL_keys (l : List (κ × ν)) (k : κ) (v : ν) : (setL l k v).map Prod.fst = if (getL l k).isSome then l.map Prod.fst else l.map Prod.fst ++ [k] := by
  unfold setL
  split
  · rw [List.map_map]
    apply List.map_congr_left
    intro p _
    simp only [Function.comp]
    split
    · rename_i h; exact h.symm
    · rfl
  · simp

theorem not_key {l : List (κ × ν)} {k : κ} (h : getL l k = none) : ∀ p ∈ l, p.1 ≠ k := by
  intro p hp e
  subst e
  induction l with
  | nil => cases hp
  | cons q l ih =>
    rw [getL] at h
    split at h
    · cases h
    · rename_i hq
      rcases List.mem_cons.1 hp with rfl | hp
      · simp at hq
      · exact ih hp h

/-! ### What is found -/

theorem run_getObj {b : Nat} {o : Obj} (h : w.heap[b]? = some o) (ho : ∀ c T fz, o ≠ .cells c T fz) : (getObj b).run P w = .ok o w := by
  cases o with
  | cells c T fz => exact absurd rfl (ho c T fz)
  | _ => simp [getObj, Sem.run, h]
theorem run_getMap {b : Nat} {es : Array MapEntry} {c : Nat} (h : w.heap[b]? = some (.map es c)) : (getObj b).run P w = .ok (.map es c) w := run_getObj h (by intro c T fz e; cases e)

theorem run_find {KT : TypeId} [hK : KeyC P KT κ kc kok] {es : List MapEntry} {clock : Nat} {l : List (κ × ν)} (h : MHolds kc vc kok es clock l) {k : κ} (hk : kok k) :
    (getL l k = none ∧ (Instr.findKey KT (kc k) es).run P w = .ok none w ∧ ∀ p ∈ l, p.1 ≠ k) ∨
    ∃ j p, l[j]? = some p ∧ p.1 = k ∧ getL l k = some p.2 ∧ (Instr.findKey KT (kc k) es).run P w = .ok (some (j, vc p.2)) w := by
  obtain ⟨lx, hlx⟩ := hK.of k hk
  rcases hK.law.find w hlx es (fun e he => by
    obtain ⟨p, hp, h1, h2⟩ := h.mem he
    rw [h1]; exact hK.of _ (h.ok p hp)) with ⟨h1, h2⟩ | ⟨j, e, h1, h2, h3⟩
  · have hne : ∀ p ∈ l, p.1 ≠ k := by
      intro p hp e
      obtain ⟨j, hj⟩ := List.mem_iff_getElem?.1 hp
      have hlt : j < es.length := by rw [h.len]; exact (List.getElem?_eq_some_iff.1 hj).1
      obtain ⟨p', hp', h3, h4⟩ := h.at (List.getElem?_eq_getElem hlt)
      rw [hj] at hp'
      cases hp'
      exact h2 _ (List.getElem_mem hlt) (by rw [h3, e])
    exact .inl ⟨lookup_none hne, h1, hne⟩
  · obtain ⟨p, hp, h4, h5⟩ := h.at h2
    have hpk : p.1 = k := hK.inj _ _ (by rw [← h4, h3])
    refine .inr ⟨j, p, hp, hpk, ?_, by rw [h1, h5]⟩
    rw [← hpk]
    exact lookup_of_mem h.nd (List.mem_of_getElem? hp)

/-- what is told of a key -/
def got (vc : ν → Value) (z : Value) : Option ν → Value
  | some v => vc v
  | none => z

omit [DecidableEq κ] in
theorem run_check {KT : TypeId} [hK : KeyC P KT κ kc kok] {k : κ} (hk : kok k) (em : Bool) : (Instr.checkKey em 10000 KT (kc k)).run P w = .ok () w := by
  obtain ⟨lx, hlx⟩ := hK.of k hk
  exact hK.law.check w em hlx

theorem s_lk {T KT VT : TypeId} {z : Value} [hT : MpT P T KT VT] [hK : KeyC P KT κ kc kok] [hz : ZV P VT z] {m : Nat} {l : List (κ × ν)} {k : κ} {ok : Bool} (h : MapR kc vc kok w m l) (hk : kok k)
    (hh : K (if ok then .tuple #[got vc z (getL l k), .bool (getL l k).isSome] else got vc z (getL l k)) w) : opS P (S.lk T (.map (some m)) (kc k) ok) K w := by
  obtain ⟨es, clock, hb, hh'⟩ := h
  unfold S.lk
  rw [opS_bind]
  unfold Instr.lookup
  rw [Sem.run_bind, run_underlying_of hT.und, Result.andThen_ok]
  simp only []
  rw [Sem.run_bind, run_getMap hb, Result.andThen_ok]
  simp only [pure_bind]
  rw [Sem.run_bind, run_check hk, Result.andThen_ok]
  rcases run_find (P := P) (w := w) (KT := KT) hh' hk with ⟨h1, h2, _⟩ | ⟨j, p, h1, h2, h3, h4⟩
  · rw [h1] at hh
    simp only [Sem.run_bind, h2, hz.zero w, Result.andThen_ok, Sem.run_pure]
    cases ok <;> exact hh
  · rw [h3] at hh
    simp only [Sem.run_bind, h4, Result.andThen_ok, Sem.run_pure]
    cases ok <;> exact hh

/-! ### What is put in -/

theorem modify_map (es : Array MapEntry) (j : Nat) (f : MapEntry → MapEntry) : (es.modify j f).toList = es.toList.mapIdx fun i e => if i = j then f e else e := by
  apply List.ext_getElem?
  intro i
  rw [List.getElem?_mapIdx, Array.getElem?_toList, Array.getElem?_toList, Array.getElem?_modify]
  by_cases h : j = i
  · subst h; simp
  · have : ¬ i = j := fun e => h e.symm
    simp [h, this]

theorem MHolds.put {es : Array MapEntry} {clock : Nat} {l : List (κ × ν)} (h : MHolds kc vc kok es.toList clock l) {k : κ} {v : ν} {j : Nat} {p : κ × ν} (hj : l[j]? = some p) (hp : p.1 = k) :
    MHolds kc vc kok (es.modify j fun e => { e with key := kc k, val := vc v }).toList clock (setL l k v) := by
  have hl : getL l k = some p.2 := by rw [← hp]; exact lookup_of_mem h.nd (List.mem_of_getElem? hj)
  have hjl := (List.getElem?_eq_some_iff.1 hj).1
  have hset : setL l k v = l.mapIdx fun i q => if i = j then (k, v) else q := by
    unfold setL
    rw [if_pos (by rw [hl]; rfl)]
    apply List.ext_getElem?
    intro i
    rw [List.getElem?_map, List.getElem?_mapIdx]
    cases hq : l[i]? with
    | none => rfl
    | some q =>
      simp only [Option.map_some, Option.some.injEq]
      by_cases e : i = j
      · subst e
        rw [hj] at hq; cases hq
        rw [if_pos hp, if_pos rfl]
      · rw [if_neg e, if_neg]
        intro hqk
        have hi := (List.getElem?_eq_some_iff.1 hq).1
        have h1 : (l.map Prod.fst)[i]'(by simpa using hi) = (l.map Prod.fst)[j]'(by simpa using hjl) := by
          have a1 := (List.getElem?_eq_some_iff.1 hq).2
          have a2 := (List.getElem?_eq_some_iff.1 hj).2
          simp only [List.getElem_map]
          rw [a1, a2, hqk, hp]
        exact e ((List.getElem_inj h.nd).1 h1)
  refine ⟨?_, ?_, ?_, ?_, ?_⟩
  · rw [modify_map, hset]
    apply List.ext_getElem?
    intro i
    have := congrArg (fun l => l[i]?) h.same
    simp only [List.getElem?_map, List.getElem?_mapIdx] at this ⊢
    cases h1 : es.toList[i]? <;> cases h2 : l[i]? <;> rw [h1, h2] at this
    · rfl
    · cases this
    · cases this
    · simp only [Option.map_some, Option.some.injEq] at this ⊢
      split
      · rfl
      · exact this
  · rw [setL_keys, if_pos (by rw [hl]; rfl)]; exact h.nd
  · intro q hq
    rw [hset, List.mem_mapIdx] at hq
    obtain ⟨i, hi, rfl⟩ := hq
    split
    · rw [← hp]; exact h.ok p (List.mem_of_getElem? hj)
    · exact h.ok _ (List.getElem_mem hi)
  · rw [modify_map]
    have : (es.toList.mapIdx fun i e => if i = j then ({ e with key := kc k, val := vc v } : MapEntry) else e).map (·.born) = es.toList.map (·.born) := by
      apply List.ext_getElem?
      intro i
      simp only [List.getElem?_map, List.getElem?_mapIdx]
      cases es.toList[i]? with
      | none => rfl
      | some e => simp only [Option.map_some, Option.some.injEq]; split <;> rfl
    rw [this]; exact h.born
  · intro e he
    rw [modify_map, List.mem_mapIdx] at he
    obtain ⟨i, hi, rfl⟩ := he
    have := h.lt _ (List.getElem_mem hi)
    split <;> exact this

theorem MHolds.add {es : Array MapEntry} {clock : Nat} {l : List (κ × ν)} (h : MHolds kc vc kok es.toList clock l) {k : κ} {v : ν} (hk : kok k) (hn : ∀ p ∈ l, p.1 ≠ k) (hl : getL l k = none) :
    MHolds kc vc kok (es.push { key := kc k, val := vc v, born := clock }).toList (clock + 1) (setL l k v) := by
  have hset : setL l k v = l ++ [(k, v)] := by unfold setL; rw [if_neg (by rw [hl]; simp)]
  rw [hset, Array.toList_push]
  refine ⟨by simp [h.same], ?_, ?_, ?_, ?_⟩
  · rw [List.map_append, List.nodup_append]
    refine ⟨h.nd, by simp, ?_⟩
    intro a ha b hb
    simp at hb
    subst hb
    obtain ⟨p, hp, rfl⟩ := List.mem_map.1 ha
    exact hn p hp
  · intro p hp
    rcases List.mem_append.1 hp with hp | hp
    · exact h.ok p hp
    · simp at hp; subst hp; exact hk
  · rw [List.map_append, List.nodup_append]
    refine ⟨h.born, by simp, ?_⟩
    intro a ha b hb
    simp at hb
    subst hb
    obtain ⟨e, he, rfl⟩ := List.mem_map.1 ha
    have := h.lt e he
    omega
  · intro e he
    rcases List.mem_append.1 he with he | he
    · have := h.lt e he; omega
    · simp at he; subst he; simp

theorem s_mu {T KT VT : TypeId} [hT : MpT P T KT VT] [hK : KeyC P KT κ kc kok] {m : Nat} {l : List (κ × ν)} {k : κ} {v : ν} (h : MapR kc vc kok w m l) (hk : kok k)
    (hh : ∀ w', MapR kc vc kok w' m (setL l k v) → Fr (fun b => b = m) w w' → K undef w') : opS P (S.mu T (.map (some m)) (kc k) (vc v)) K w := by
  obtain ⟨es, clock, hb, hh'⟩ := h
  have key : ∃ es' clock', (Instr.mapUpdate T (.map (some m)) (kc k) (vc v)).run P w = .ok () (upd w m (.map es' clock')) ∧ MHolds kc vc kok es'.toList clock' (setL l k v) := by
    unfold Instr.mapUpdate
    rw [Sem.run_bind, run_underlying_of hT.und, Result.andThen_ok]
    simp only []
    rw [Sem.run_bind, run_getMap hb, Result.andThen_ok]
    simp only []
    rw [Sem.run_bind, run_check hk, Result.andThen_ok]
    rcases run_find (P := P) (w := w) (KT := KT) hh' hk with ⟨h1, h2, h3⟩ | ⟨j, p, h1, h2, h3, h4⟩
    · rw [Sem.run_bind, h2, Result.andThen_ok]
      simp only []
      exact ⟨_, _, run_setObj hb (by intro c T fz e; cases e), hh'.add hk h3 h1⟩
    · rw [Sem.run_bind, h4, Result.andThen_ok]
      simp only []
      have hje : ∃ e, es[j]? = some e ∧ e.key = kc k := by
        have hlt : j < es.size := by
          have := (List.getElem?_eq_some_iff.1 h1).1
          rw [← hh'.len, Array.length_toList] at this; exact this
        refine ⟨es[j], Array.getElem?_eq_getElem hlt, ?_⟩
        obtain ⟨q, hq, hk1, _⟩ := hh'.at (j := j) (e := es[j]) (by rw [Array.getElem?_toList]; exact Array.getElem?_eq_getElem hlt)
        rw [h1] at hq; cases hq
        rw [hk1, h2]
      obtain ⟨e, he, hke⟩ := hje
      obtain ⟨lx, hlx⟩ := hK.of k hk
      have hst := hK.law.stays w hlx
      rw [he]
      simp only [Option.map_some, Option.getD_some, hke]
      rw [Sem.run_bind, hst, Result.andThen_ok]
      exact ⟨_, _, run_setObj hb (by intro c T fz e; cases e), hh'.put h1 h2⟩
  obtain ⟨es', clock', hr, hM⟩ := key
  unfold S.mu opS
  rw [Sem.run_bind, hr, Result.andThen_ok]
  exact hh _ ⟨es', clock', heap_upd_same (by rw [hb]; rfl), hM⟩ (Fr.upd' hb rfl _ rfl rfl)

/-! ### What is taken out -/

omit [DecidableEq κ] in
theorem s_mkm {T : TypeId} (hh : ∀ w', MapR kc vc kok w' w.heap.size ([] : List (κ × ν)) → Fr none_ w w' → w'.heap.size = w.heap.size + 1 → K (.map (some w.heap.size)) w') : opS P (S.mkm T none) K w := by
  have : (Instr.makeMap T none).run P w = .ok (.map (some w.heap.size)) (w.alloc (.map #[] 0)) := rfl
  unfold S.mkm
  rw [opS_bind, this]
  exact hh _ ⟨#[], 0, heap_alloc_new _ _, rfl, List.nodup_nil, by simp, List.nodup_nil, by simp⟩ (Fr.alloc _ _ rfl) (size_alloc _ _)

/-! ### What is gone through -/

/-- an iterator over a map: what is left -/
def IterR (kc : κ → Value) (vc : ν → Value) (kok : κ → Prop) (w : World) (it m : Nat) (l todo : List (κ × ν)) : Prop :=
  it ≠ m ∧ ∃ es clock seen, w.heap[m]? = some (.map es clock) ∧ MHolds kc vc kok es.toList clock l ∧ w.heap[it]? = some (.mapIter (some m) clock seen clock) ∧
    (leftOf es seen).toList.map (fun e => (e.key, e.val)) = todo.map fun p => (kc p.1, vc p.2)

omit [DecidableEq κ] in
theorem IterR.map {it m : Nat} {l todo : List (κ × ν)} (h : IterR kc vc kok w it m l todo) : MapR kc vc kok w m l := by
  obtain ⟨_, es, clock, seen, h1, h2, _⟩ := h
  exact ⟨es, clock, h1, h2⟩
omit [DecidableEq κ] in
theorem IterR.fr {fp : Nat → Prop} {w w' : World} {it m : Nat} {l todo : List (κ × ν)} (h : IterR kc vc kok w it m l todo) (hf : Fr fp w w') (h1 : ¬ fp it) (h2 : ¬ fp m) : IterR kc vc kok w' it m l todo := by
  obtain ⟨hne, es, clock, seen, a1, a2, a3, a4⟩ := h
  exact ⟨hne, es, clock, seen, hf.heap a1 h2, a2, hf.heap a3 h1, a4⟩
omit [DecidableEq κ] in
theorem IterR.ne {it m : Nat} {l todo : List (κ × ν)} (h : IterR kc vc kok w it m l todo) : it ≠ m := h.1
omit [DecidableEq κ] in
theorem IterR.lt {it m : Nat} {l todo : List (κ × ν)} (h : IterR kc vc kok w it m l todo) : it < w.heap.size := by
  obtain ⟨hne, es, clock, seen, a1, a2, a3, a4⟩ := h
  exact lt_of_heap a3

end
end Go.Gx
end

section
/- Bytes, texts of bytes, frames. -/
namespace Go.Gx
open Go
variable {P : Program} {K : Value → World → Prop} {w : World}

/-! ### Bytes -/

def cell1 (n : Int) : List Value := [u8 n]
/-- bytes that can be read -/
def ByR (w : World) (v : Value) (bs : List Int) : Prop := RdE 1 w v (bs.map cell1) ∧ ∀ b ∈ bs, isB b
theorem ByR.fr {fp : Nat → Prop} {w w' : World} {v : Value} {bs : List Int} (h : ByR w v bs) (hf : Fr fp w w') (hn : ∀ b, blkS v = some b → ¬ fp b) : ByR w' v bs := ⟨h.1.fr hf hn, h.2⟩
theorem ByR.form {v : Value} {bs : List Int} (h : ByR w v bs) : ∃ a c, v = .slice a bs.length c := by
  obtain ⟨a, c, rfl⟩ := h.1.form
  exact ⟨a, c, by simp⟩
theorem ByR.nil (w : World) (a : Option Addr) (c : Nat) : ByR w (.slice a 0 c) [] := ⟨⟨.inl ⟨⟨_, _, rfl⟩, rfl, rfl⟩, by simp⟩, by simp⟩
class StrT (P : Program) (T : TypeId) : Prop where
  und : P.underlying T = some .string
class ByT (P : Program) (T : TypeId) : Prop where
  und : ∃ e, P.underlying T = some (.slice e) ∧ P.underlying e = some (.int .u8)

/-! ### Frames -/

@[ext] structure Frm where
  dst : Mac
  src : Mac
  tagged : Bool
  vlan : Int
  prio : Int
  type : Int
  body : Value

def Frm.cells (f : Frm) : List Value :=
  [u8 f.dst.b0, u8 f.dst.b1, u8 f.dst.b2, u8 f.dst.b3, u8 f.dst.b4, u8 f.dst.b5, u8 f.src.b0, u8 f.src.b1, u8 f.src.b2, u8 f.src.b3, u8 f.src.b4, u8 f.src.b5, .bool f.tagged, i64 f.vlan, i64 f.prio, i64 f.type, f.body]
/-- a frame's numbers are of their kinds -/
def Frm.ok (f : Frm) : Prop := f.dst.ok ∧ f.src.ok ∧ isI f.vlan ∧ isI f.prio ∧ isI f.type
/-- a frame that can be read, and the bytes of its body -/
def FrmR (w : World) (f : Frm) (bs : List Int) : Prop := f.ok ∧ ByR w f.body bs
theorem FrmR.fr {fp : Nat → Prop} {w w' : World} {f : Frm} {bs : List Int} (h : FrmR w f bs) (hf : Fr fp w w') (hn : ∀ b, blkS f.body = some b → ¬ fp b) : FrmR w' f bs := ⟨h.1, h.2.fr hf hn⟩
theorem FrmR.fr0 {w w' : World} {f : Frm} {bs : List Int} (h : FrmR w f bs) (hf : Fr none_ w w') : FrmR w' f bs := h.fr hf fun _ _ h => h

def zMac : Mac := ⟨0, 0, 0, 0, 0, 0⟩
def zFrm : Frm := ⟨zMac, zMac, false, 0, 0, 0, .slice none 0 0⟩
theorem zFrmR (w : World) : FrmR w zFrm [] := ⟨⟨by simp [zFrm, zMac, Mac.ok, isB], by simp [zFrm, zMac, Mac.ok, isB], isI_iff.2 (by simp [zFrm]), isI_iff.2 (by simp [zFrm]), isI_iff.2 (by simp [zFrm])⟩, ByR.nil _ _ _⟩

/-- may it be? n: how long its body is -/
def Frm.right (f : Frm) (n : Nat) : Bool :=
  decide (1536 ≤ f.type ∧ f.type ≤ 65535 ∧ f.type ≠ 33024 ∧ n ≤ 1500) && (if f.tagged then decide (0 ≤ f.vlan ∧ f.vlan ≤ 4094 ∧ 0 ≤ f.prio ∧ f.prio ≤ 7) else decide (f.vlan = 0 ∧ f.prio = 0))

def Frm.tag (f : Frm) (v p : Int) : Frm := { f with tagged := true, vlan := v, prio := p }
def Frm.untag (f : Frm) : Frm := { f with tagged := false, vlan := 0, prio := 0 }

theorem Frm.len (f : Frm) : f.cells.length = 17 := id rfl
theorem Frm.g12 (f : Frm) : f.cells[12]? = some (.bool f.tagged) := id rfl
theorem Frm.g13 (f : Frm) : f.cells[13]? = some (i64 f.vlan) := id rfl
theorem Frm.g14 (f : Frm) : f.cells[14]? = some (i64 f.prio) := id rfl
theorem Frm.g15 (f : Frm) : f.cells[15]? = some (i64 f.type) := id rfl
theorem Frm.g16 (f : Frm) : f.cells[16]? = some f.body := id rfl
theorem Frm.d0 (f : Frm) : (f.cells.drop 0).take 6 = f.dst.cells := id rfl
theorem Frm.d6 (f : Frm) : (f.cells.drop 6).take 6 = f.src.cells := id rfl
theorem Frm.dw (f : Frm) : (f.cells.drop 0).take 17 = f.cells := id rfl
theorem Frm.s12 (f : Frm) (b : Bool) : splice f.cells 12 [.bool b] = { f with tagged := b }.cells := id rfl
theorem Frm.s13 (f : Frm) (n : Int) : splice f.cells 13 [i64 n] = { f with vlan := n }.cells := id rfl
theorem Frm.s14 (f : Frm) (n : Int) : splice f.cells 14 [i64 n] = { f with prio := n }.cells := id rfl
theorem Frm.s15 (f : Frm) (n : Int) : splice f.cells 15 [i64 n] = { f with type := n }.cells := id rfl
theorem Frm.s16 (f : Frm) (v : Value) : splice f.cells 16 [v] = { f with body := v }.cells := id rfl
theorem Frm.s0 (f : Frm) (m : Mac) : splice f.cells 0 m.cells = { f with dst := m }.cells := id rfl
theorem Frm.s6 (f : Frm) (m : Mac) : splice f.cells 6 m.cells = { f with src := m }.cells := id rfl
theorem Frm.sw (f g : Frm) : splice f.cells 0 g.cells = g.cells := id rfl
theorem Frm.one (f : Frm) (h : S.oneCell f.body = true) : f.cells.all S.oneCell = true := by
  simp only [Frm.cells, List.all_cons, one_int, one_bool, h, List.all_nil, Bool.and_self]
theorem Mac.one (m : Mac) : m.cells.all S.oneCell = true := id rfl
theorem Mac.len (m : Mac) : m.cells.length = 6 := id rfl
theorem ByR.one {v : Value} {bs : List Int} (h : ByR w v bs) : S.oneCell v = true := h.1.one
theorem FrmR.one {f : Frm} {bs : List Int} (h : FrmR w f bs) : f.cells.all S.oneCell = true := Frm.one _ h.2.one
attribute [push_cast] Frm.len Frm.g12 Frm.g13 Frm.g14 Frm.g15 Frm.g16 Frm.d0 Frm.d6 Frm.dw Frm.s12 Frm.s13 Frm.s14 Frm.s15 Frm.s16 Frm.s0 Frm.s6 Frm.sw Mac.one Mac.len

/-- what comes behind is small: it may stand in each way -/
theorem jn_1 {k : Value → World → Prop} {m : (Value → World → Prop) → World → Prop} : jnJ 1 k m = m k := jnJ_eq 1 k m
theorem jn_0 {k : World → Prop} {m : (World → Prop) → World → Prop} : jnJ 0 k m = m k := jnJ_eq 0 k m

end Go.Gx
end

section
/- What is asked of the program as a whole. -/
set_option maxRecDepth 100000
namespace Go.Gx.S
open Go Go.Gx Go.Proofs

theorem laidOut : laidOutB Tryz.prog = true := by kernel_rfl
theorem ctInt : Tryz.prog.cellsOf 3 = 1 := by kernel_rfl
theorem ctBool : Tryz.prog.cellsOf 4 = 1 := by kernel_rfl
theorem uInt : Tryz.prog.underlying 3 = some (.int .i64) := Tryz.underlying3
theorem uBool : Tryz.prog.underlying 4 = some .bool := Tryz.underlying4
theorem own : ownKnob Tryz.prog.godebug = none := by kernel_rfl

end Go.Gx.S
end

section
/- Addresses, bytes and texts among the program's types. -/
set_option maxRecDepth 100000
namespace Go.Gx.S
open Go Go.Gx Go.Proofs

theorem ctByte : Tryz.prog.cellsOf 5 = 1 := by kernel_rfl
theorem ctMac : Tryz.prog.cellsOf 53 = 6 := by kernel_rfl
instance : MacT Tryz.prog 53 5 := ⟨Tryz.underlying53, Tryz.underlying5, ctByte, ctMac⟩
instance : StrT Tryz.prog 9 := ⟨Tryz.underlying9⟩
instance : ByT Tryz.prog 54 := ⟨⟨_, Tryz.underlying54, Tryz.underlying5⟩⟩

end Go.Gx.S
end

section
/- Tables of VLANs: what they come to, in plain Lean. -/
namespace Go.Gx
open Go

/-- members, in the order in which they came, and the native VLANs of the ports -/
structure VT where
  tab : List ((Int × Int) × Bool)
  nat : List Int

namespace VT
def port (t : VT) (p : Int) : Prop := 0 ≤ p ∧ p < t.nat.length
instance (t : VT) (p : Int) : Decidable (t.port p) := by unfold port; infer_instance
def right (t : VT) (v p : Int) : Prop := 1 ≤ v ∧ v ≤ 4094 ∧ t.port p
instance (t : VT) (v p : Int) : Decidable (t.right v p) := by unfold right; infer_instance
structure ok (t : VT) : Prop where
  len : t.nat.length ≤ 64
  key : ∀ x ∈ t.tab, t.right x.1.1 x.1.2
  nat : ∀ n ∈ t.nat, 0 ≤ n ∧ n ≤ 4094
  nd : (t.tab.map Prod.fst).Nodup

def new (n : Nat) : VT := ⟨[], List.replicate n 0⟩
def add (t : VT) (v p : Int) (b : Bool) : VT × Int := if t.right v p then ({ t with tab := setL t.tab (v, p) b }, 0) else (t, 1)
def remove (t : VT) (v p : Int) : VT × Int := if t.right v p then (if (getL t.tab (v, p)).isSome then ({ t with tab := delL t.tab (v, p) }, 0) else (t, 4)) else (t, 1)
def native (t : VT) (p v : Int) : VT × Int := if t.port p ∧ 0 ≤ v ∧ v ≤ 4094 then ({ t with nat := t.nat.set p.toNat v }, 0) else (t, 1)
def is (t : VT) (v p : Int) : Bool := (getL t.tab (v, p)).isSome
def members (t : VT) (v : Int) : List Int := ((List.range t.nat.length).map Int.ofNat).filter fun p => t.is v p
def inn (t : VT) (p : Int) (f : Frm) (n : Nat) : Int × Int :=
  if t.port p ∧ f.right n = true then
    let v := if f.vlan = 0 then t.nat.getD p.toNat 0 else f.vlan
    if t.is v p then (v, 0) else (0, 4)
  else (0, 1)
def out (t : VT) (v p : Int) (f : Frm) (n : Nat) : Frm × Int :=
  if t.right v p ∧ f.right n = true then
    match getL t.tab (v, p) with
    | none => (zFrm, 4)
    | some true => (f.tag v f.prio, 0)
    | some false => (f.untag, 0)
  else (zFrm, 1)

theorem ok_new {n : Nat} (h : n ≤ 64) : (new n).ok := ⟨by simpa [new] using h, by simp [new], by simp [new], by simp [new]⟩

theorem setL_mem {κ ν : Type} [DecidableEq κ] {l : List (κ × ν)} {k : κ} {v : ν} {x : κ × ν} (h : x ∈ setL l k v) : x = (k, v) ∨ x ∈ l := by
  unfold setL at h
  split at h
  · rw [List.mem_map] at h
    obtain ⟨p, hp, rfl⟩ := h
    split
    · exact .inl rfl
    · exact .inr hp
  · rcases List.mem_append.1 h with h | h
    · exact .inr h
    · simp at h; exact .inl h

theorem setL_nodup {κ ν : Type} [DecidableEq κ] {l : List (κ × ν)} {k : κ} {v : ν} (h : (l.map Prod.fst).Nodup) : ((setL l k v).map Prod.fst).Nodup := by
  rw [setL_keys]
  split
  · exact h
  · rename_i hn
    rw [List.nodup_append]
    refine ⟨h, by simp, ?_⟩
    intro a ha b hb
    simp at hb
    subst hb
    obtain ⟨p, hp, rfl⟩ := List.mem_map.1 ha
    refine not_key ?_ p hp
    cases hl : getL l b with
    | none => rfl
    | some v => rw [hl] at hn; exact absurd rfl hn

theorem ok_add {t : VT} (h : t.ok) (v p : Int) (b : Bool) : (t.add v p b).1.ok := by
  unfold add
  split
  · rename_i hr
    refine ⟨h.len, fun x hx => ?_, h.nat, setL_nodup h.nd⟩
    rcases setL_mem hx with rfl | hx
    · exact hr
    · exact h.key x hx
  · exact h
theorem ok_native {t : VT} (h : t.ok) (p v : Int) : (t.native p v).1.ok := by
  unfold native
  split
  · rename_i hr
    refine ⟨by simpa using h.len, fun x hx => ?_, fun n hn => ?_, h.nd⟩
    · have := h.key x hx
      unfold right port at this ⊢
      simpa using this
    · rcases List.mem_or_eq_of_mem_set hn with hn | rfl
      · exact h.nat n hn
      · exact ⟨hr.2.1, hr.2.2⟩
  · exact h
theorem tag_right {f : Frm} {n : Nat} (h : f.right n = true) {v : Int} (h1 : 1 ≤ v) (h2 : v ≤ 4094) : (f.tag v f.prio).right n = true := by
  unfold Frm.right Frm.tag at *
  simp only [Bool.and_eq_true, decide_eq_true_eq, if_true] at h ⊢
  obtain ⟨h3, h4⟩ := h
  refine ⟨h3, ?_⟩
  split at h4 <;> simp only [decide_eq_true_eq] at h4 <;> omega

/-! ### Where a key stands -/

theorem nodup_at {κ ν : Type} {l : List (κ × ν)} (hn : (l.map Prod.fst).Nodup) {i j : Nat} {p q : κ × ν} (hi : l[i]? = some p) (hj : l[j]? = some q) (h : p.1 = q.1) : i = j := by
  have hi' := (List.getElem?_eq_some_iff.1 hi)
  have hj' := (List.getElem?_eq_some_iff.1 hj)
  obtain ⟨h1, h2⟩ := hi'
  obtain ⟨h3, h4⟩ := hj'
  have : (l.map Prod.fst)[i]'(by simpa using h1) = (l.map Prod.fst)[j]'(by simpa using h3) := by
    simp only [List.getElem_map]
    rw [h2, h4, h]
  exact (List.getElem_inj hn).1 this

theorem setL_at {κ ν : Type} [DecidableEq κ] {l : List (κ × ν)} (hn : (l.map Prod.fst).Nodup) {j : Nat} {k : κ} {u : ν} (hj : l[j]? = some (k, u)) (v : ν) : setL l k v = l.set j (k, v) := by
  unfold setL
  rw [if_pos (by rw [lookup_of_mem hn (List.mem_of_getElem? hj)]; rfl)]
  apply List.ext_getElem?
  intro i
  rw [List.getElem?_map, List.getElem?_set]
  have hlt := (List.getElem?_eq_some_iff.1 hj).1
  by_cases e : j = i
  · subst e
    rw [if_pos rfl, if_pos hlt, hj]
    simp
  · rw [if_neg e]
    cases hq : l[i]? with
    | none => rfl
    | some q =>
      rw [Option.map_some, if_neg]
      intro hqk
      exact e (nodup_at hn hj hq hqk.symm)

theorem setL_new {κ ν : Type} [DecidableEq κ] {l : List (κ × ν)} {k : κ} (h : getL l k = none) (v : ν) : setL l k v = l ++ [(k, v)] := by
  unfold setL
  rw [if_neg (by rw [h]; simp)]

theorem nodup_short : ∀ (n : Nat) (l : List Nat), l.Nodup → (∀ x ∈ l, x < n) → l.length ≤ n
  | 0, [], _, _ => Nat.le_refl _
  | 0, x :: l, _, h => by have := h x (List.mem_cons_self ..); omega
  | n + 1, l, hn, h => by
    have ih := nodup_short n (l.filter fun x => decide (x ≠ n)) (hn.filter _) (fun x hx => by
      have h1 := h x (List.mem_filter.1 hx).1
      have h2 : x ≠ n := by simpa using (List.mem_filter.1 hx).2
      omega)
    have key : ∀ l : List Nat, l.Nodup → l.length ≤ (l.filter fun x => decide (x ≠ n)).length + 1 := by
      intro l hn
      induction l with
      | nil => simp
      | cons a l ih =>
        rw [List.nodup_cons] at hn
        rw [List.filter_cons]
        by_cases e : a = n
        · subst e
          rw [if_neg (by simp)]
          have : l.filter (fun x => decide (x ≠ a)) = l := List.filter_eq_self.2 fun x hx => by
            simp only [decide_eq_true_eq]
            intro e
            exact hn.1 (e ▸ hx)
          rw [this]; simp
        · rw [if_pos (by simpa using e)]
          have := ih hn.2
          simp only [List.length_cons]; omega
    have := key l hn
    omega

theorem small {t : VT} (h : t.ok) : t.tab.length ≤ 262144 := by
  have h1 := h.len
  have := nodup_short (4095 * 64) ((t.tab.map Prod.fst).map fun k => k.1.toNat * 64 + k.2.toNat) (by
    refine List.Pairwise.map (R := fun a b : Int × Int => a.1.toNat * 64 + a.2.toNat ≠ b.1.toNat * 64 + b.2.toNat) _ ?_ (List.Pairwise.imp_of_mem ?_ h.nd)
    · exact fun a b (h : a.1.toNat * 64 + a.2.toNat ≠ b.1.toNat * 64 + b.2.toNat) => h
    · intro a b ha hb hab he
      obtain ⟨x, hx, rfl⟩ := List.mem_map.1 ha
      obtain ⟨y, hy, rfl⟩ := List.mem_map.1 hb
      have a1 := h.key x hx
      have a2 := h.key y hy
      unfold right port at a1 a2
      apply hab
      apply Prod.ext <;> omega) (by
    intro n hn
    obtain ⟨k, hk, rfl⟩ := List.mem_map.1 hn
    obtain ⟨x, hx, rfl⟩ := List.mem_map.1 hk
    have a1 := h.key x hx
    unfold right port at a1
    omega)
  simp at this
  omega

end VT
end Go.Gx
end

section
/- Loops with more values, slices of one cell an element. -/
namespace Go.Gx
open Go
variable {P : Program} {K : Value → World → Prop} {w : World}

theorem loop2 {B : (Value → Value → World → Prop) → Value → Value → World → Prop} (I : Nat → Value → Value → World → Prop) (h : ∀ n v u w X, I n v u w → (∀ m v' u' w', m < n → I m v' u' w' → X v' u' w') → B X v u w) (n : Nat) {v u : Value} (h0 : I n v u w) : loopJ 2 B v u w := by
  intro X hX
  have key : ∀ n v u w, (∃ m, m ≤ n ∧ I m v u w) → X v u w := by
    intro n
    induction n with
    | zero =>
      rintro v u w ⟨m, hm, hi⟩
      obtain rfl : m = 0 := by omega
      exact hX v u w (h 0 v u w X hi fun m v' u' w' hm _ => by omega)
    | succ n ih =>
      rintro v u w ⟨m, hm, hi⟩
      exact hX v u w (h m v u w X hi fun k v' u' w' hk hi' => ih v' u' w' ⟨k, by omega, hi'⟩)
  exact key n v u w ⟨n, Nat.le_refl _, h0⟩

theorem jn2 {k : Value → Value → World → Prop} {m : (Value → Value → World → Prop) → World → Prop} (Q : Value → Value → World → Prop) (h1 : ∀ v u w', Q v u w' → k v u w') (h2 : ∀ j : Value → Value → World → Prop, (∀ v u w', Q v u w' → j v u w') → m j w) : jnJ 2 k m w := (congrFun (jnJ_eq 2 k m) w).symm ▸ h2 k h1
/-- whole numbers as elements -/
def cellI (n : Int) : List Value := [i64 n]
/-- the empty slice -/
theorem own_nil (E sz : Nat) (w : World) : OwnE E sz w (.slice none 0 0) [] := ⟨.inl ⟨rfl, rfl, rfl⟩, by simp⟩

theorem splice_get {l vs : List Value} {o : Nat} (h : o + vs.length ≤ l.length) (j : Nat) : (splice l o vs)[j]? = if j < o then l[j]? else if j < o + vs.length then vs[j - o]? else l[j]? := by
  unfold splice
  have ht : (l.take o).length = o := by rw [List.length_take]; omega
  by_cases h1 : j < o
  · rw [if_pos h1, List.append_assoc, List.getElem?_append_left (by omega), List.getElem?_take_of_lt h1]
  · rw [if_neg h1]
    by_cases h2 : j < o + vs.length
    · rw [if_pos h2, List.append_assoc, List.getElem?_append_right (by omega), ht, List.getElem?_append_left (by omega)]
    · rw [if_neg h2, List.getElem?_append_right (by rw [List.length_append]; omega), List.length_append, ht, List.getElem?_drop]
      congr 1
      omega

/-- one cell of an element -/
theorem splice_field {l e : List Value} {p f : Nat} {v : Value} (h : p + e.length ≤ l.length) (he : (l.drop p).take e.length = e) (hf : f < e.length) : splice l (p + f) [v] = splice l p (e.set f v) := by
  apply List.ext_getElem?
  intro j
  rw [splice_get (by simp; omega), splice_get (by simp; omega)]
  simp only [List.length_singleton, List.length_set]
  by_cases h1 : j < p
  · rw [if_pos (by omega), if_pos h1]
  · rw [if_neg h1]
    by_cases h2 : j < p + e.length
    · rw [if_pos h2, List.getElem?_set]
      have hj : l[j]? = e[j - p]? := by
        have : ((l.drop p).take e.length)[j - p]? = e[j - p]? := by rw [he]
        rw [List.getElem?_take_of_lt (by omega), List.getElem?_drop] at this
        rw [← this]; congr 1; omega
      by_cases h3 : j < p + f
      · rw [if_pos h3, if_neg (by omega), hj]
      · rw [if_neg h3]
        by_cases h4 : j = p + f
        · subst h4
          rw [if_pos (by omega), if_pos (by omega), if_pos hf]
          simp
        · rw [if_neg (by omega), if_neg (by omega), hj]
    · rw [if_neg (by omega), if_neg (by omega), if_neg h2]

/-- one cell of an element is written -/
theorem OwnE.putF {E sz : Nat} {b o c i f : Nat} {es : List (List Value)} (h : OwnE E sz w (.slice (some ⟨b, o, none⟩) es.length c) es) (hi : i < es.length) (hf : f < sz) (v : Value) :
    okAt w.heap[b]? (o + i * sz + f) 1 = true ∧ OwnE E sz (wr w b (o + i * sz + f) [v]) (.slice (some ⟨b, o, none⟩) es.length c) (es.set i (es[i].set f v)) := by
  have hlen := h.2 _ (List.getElem_mem hi)
  obtain ⟨h1, h2⟩ := h.put (i := i) (e := es[i].set f v) (by rw [List.length_set, hlen]) hi
  obtain ⟨g1, g2⟩ := h
  rcases g1 with ⟨g1, _⟩ | ⟨b', o', c', cs, hv, hb, hc, ho, hl⟩
  · cases g1
  · simp only [Value.slice.injEq, Option.some.injEq, Addr.mk.injEq] at hv
    obtain ⟨⟨rfl, rfl, _⟩, _, rfl⟩ := hv
    have hm : i * sz + sz ≤ es.length * sz := by rw [← Nat.succ_mul]; exact Nat.mul_le_mul_right _ hi
    have hm2 : es.length * sz ≤ c * sz := Nat.mul_le_mul_right _ hc
    have hel : (cs.toList.drop (o + i * sz)).take es[i].length = es[i] := by
      have := flatten_elem g2 hi 0 sz (by omega)
      rw [hl, Nat.add_zero, List.drop_zero, List.drop_take, List.drop_drop, List.take_take, Nat.min_eq_left (by omega)] at this
      rw [hlen, this, List.take_of_length_le (by omega)]
    refine ⟨?_, ?_⟩
    · rw [hb]
      show (decide (o + i * sz + f + 1 ≤ cs.size) && _) = true
      simp only [Bool.and_eq_true, decide_eq_true_eq, List.all_eq_true]
      exact ⟨by omega, fun x _ => by simp⟩
    · have hw : wr w b (o + i * sz + f) [v] = wr w b (o + i * sz) (es[i].set f v) := by
        unfold wr
        rw [hb]
        simp only []
        have hle : o + i * sz + es[i].length ≤ cs.toList.length := by have e2 : cs.toList.length = cs.size := Array.length_toList; omega
        rw [splice_field hle hel (by omega)]
      rw [hw]
      exact h2

end Go.Gx
end

section
/- Frames, tags; tables of VLANs, and the document's. -/
set_option linter.unusedVariables false
set_option linter.unusedSimpArgs false
set_option maxRecDepth 100000
namespace Go.Gx.S.Vl
open Go Go.Gx Go.Proofs
variable {K : Value → World → Prop} {w : World}

theorem right_spec {f : Frm} {a : Option Addr} {n c : Nat} (hb : f.body = .slice a n c) (h : ∀ w', Fr none_ w w' → K (.bool (f.right n)) w') : CallsR Tryz.prog 158 #[.agg f.cells.toArray] K w := by
  apply c158
  unfold p158
  have hF : Fr none_ w (w.alloc (cellsO f.cells 61)) := (Fr.refl _ _).step_alloc rfl
  simp only [push_cast, Nat.reduceAdd, Nat.reduceLeDiff, Nat.reduceLT, Int.reduceToNat, Nat.left_eq_add, Nat.add_eq_left, Nat.add_left_cancel_iff, Nat.reduceEqDiff, Nat.add_assoc, Nat.succ_ne_zero, hb, jn_1]
  generalize w.alloc (cellsO f.cells 61) = W at *
  have h' : ∀ b, f.right n = b → K (.bool b) W := fun b e => e ▸ h W hF
  clear h
  repeat' first | with_reducible refine br_dec (fun _ => ?_) fun _ => ?_ | with_reducible refine br_intro (fun _ => ?_) fun _ => ?_
  all_goals
    refine h' _ ?_
    unfold Frm.right
    simp_all
    try first | omega | (rw [Bool.eq_iff_iff]; simp; omega)

theorem build_zFrm : opS Tryz.prog (S.build 61 []) K w = K (.agg zFrm.cells.toArray) w := by
  rw [opS_build _ rfl]; rfl

theorem tag_spec {f : Frm} {bs : List Int} {v p : Int} (hb : FrmR w f bs) (h : ∀ w', Fr none_ w w' → K (if (f.tag v p).right bs.length then .tuple #[.agg (f.tag v p).cells.toArray, i64 0] else .tuple #[.agg zFrm.cells.toArray, i64 1]) w') :
    CallsR Tryz.prog 253 #[.agg f.cells.toArray, i64 v, i64 p] K w := by
  apply c253
  unfold p253
  obtain ⟨a, c, hbd⟩ := hb.2.form
  have hone : (f.tag v p).cells.all S.oneCell = true := Frm.one _ (by show S.oneCell f.body = true; rw [hbd]; rfl)
  have hone0 : zFrm.cells.all S.oneCell = true := rfl
  simp only [push_cast, Nat.reduceAdd, Nat.reduceLeDiff, Nat.reduceLT, Int.reduceToNat, Nat.left_eq_add, Nat.add_eq_left, Nat.add_left_cancel_iff, Nat.reduceEqDiff, Nat.add_assoc, Nat.succ_ne_zero]
  refine right_spec (f := f.tag v p) hbd fun W' hF' => ?_
  have h0 := hF'.heap (b := w.heap.size) (o := cellsO (f.tag v p).cells 61) (by simp only [push_cast, Nat.reduceAdd, Nat.reduceLeDiff, Nat.reduceLT, Int.reduceToNat, Nat.left_eq_add, Nat.add_eq_left, Nat.add_left_cancel_iff, Nat.reduceEqDiff, Nat.add_assoc, Nat.succ_ne_zero]; rfl) (fun h => h)
  have h1 := hF'.heap (b := w.heap.size + 1) (o := cellsO zFrm.cells 61) (by simp only [push_cast, Nat.reduceAdd, Nat.reduceLeDiff, Nat.reduceLT, Int.reduceToNat, Nat.left_eq_add, Nat.add_eq_left, Nat.add_left_cancel_iff, Nat.reduceEqDiff, Nat.add_assoc, Nat.succ_ne_zero]; rfl) (fun h => h)
  have hF : Fr none_ w W' := Fr.trans (by repeat' first | with_reducible exact Fr.refl _ _ | with_reducible refine Fr.step_alloc ?_ ?_ | with_reducible refine Fr.step_drew ?_ | with_reducible refine Fr.step_wr ?_ ?_ _ _ | exact rfl | exact Or.inr (by omega) | exact Or.inl rfl | exact Or.inl (Or.inl rfl) | exact Or.inl (Or.inr rfl)) hF'
  clear hF'
  simp only [push_cast, Nat.reduceAdd, Nat.reduceLeDiff, Nat.reduceLT, Int.reduceToNat, Nat.left_eq_add, Nat.add_eq_left, Nat.add_left_cancel_iff, Nat.reduceEqDiff, Nat.add_assoc, Nat.succ_ne_zero, h0, h1, hone]
  refine br_intro (fun hr => ?_) fun hr => ?_
  · simp only [build_zFrm, push_cast, Nat.reduceAdd, Nat.reduceLeDiff, Nat.reduceLT, Int.reduceToNat, Nat.left_eq_add, Nat.add_eq_left, Nat.add_left_cancel_iff, Nat.reduceEqDiff, Nat.add_assoc, Nat.succ_ne_zero, h0, h1, hone0]
    rw [show (f.tag v p).right bs.length = false by simpa using hr] at h
    exact h _ (hF.step_wr (Or.inr (by omega)) _ _)
  · rw [show (f.tag v p).right bs.length = true by simpa using hr] at h
    exact h _ (hF.step_wr (Or.inr (by omega)) _ _)

theorem untag_spec {f : Frm} {bs : List Int} (hb : FrmR w f bs) (h : ∀ w', Fr none_ w w' → K (.agg f.untag.cells.toArray) w') : CallsR Tryz.prog 254 #[.agg f.cells.toArray] K w := by
  apply c254
  unfold p254
  obtain ⟨a, c, hbd⟩ := hb.2.form
  have hone : f.untag.cells.all S.oneCell = true := Frm.one _ (by show S.oneCell f.body = true; rw [hbd]; rfl)
  have e : ({ ({ ({ f with tagged := false } : Frm) with vlan := 0 } : Frm) with prio := 0 } : Frm) = f.untag := rfl
  simp only [push_cast, Nat.reduceAdd, Nat.reduceLeDiff, Nat.reduceLT, Int.reduceToNat, Nat.left_eq_add, Nat.add_eq_left, Nat.add_left_cancel_iff, Nat.reduceEqDiff, Nat.add_assoc, Nat.succ_ne_zero, e, hone]
  exact h _ (by repeat' first | with_reducible exact Fr.refl _ _ | with_reducible refine Fr.step_alloc ?_ ?_ | with_reducible refine Fr.step_drew ?_ | with_reducible refine Fr.step_wr ?_ ?_ _ _ | exact rfl | exact Or.inr (by omega) | exact Or.inl rfl | exact Or.inl (Or.inl rfl) | exact Or.inl (Or.inr rfl))

/-! ### Places as keys -/

def pk (k : Int × Int) : Value := .agg #[i64 k.1, i64 k.2]
def pkOk (k : Int × Int) : Prop := isI k.1 ∧ isI k.2

theorem ctPlace : Tryz.prog.cellsOf 187 = 2 := by kernel_rfl
instance : KeyC Tryz.prog 187 (Int × Int) pk pkOk where
  law := Maps.Keyed.of_law (deep_law_laid laidOut (m := 8) (by decide) (of_decide_eq_true (by kernel_rfl)) (by kernel_rfl) (by rw [Tryz.underlying187]))
  of := by
    rintro ⟨a, b⟩ ⟨ha, hb⟩
    have hk : ∀ d, Tryz.prog.keyLits (d + 2) 187 [i64 a, i64 b] = some ([[.int .i64 a], [.int .i64 b]] : List (List Lit)).flatten := by
      intro d
      refine kl_struct_mk (ls := [[_], [_]]) Tryz.underlying187 (by simp) (by rw [ctPlace]; rfl) ?_
      simp only [List.mapM_cons, List.mapM_nil, ctInt, bind, Option.bind_eq_some_iff, pure, Option.some.injEq, List.drop_succ_cons, List.drop_zero, List.take_succ_cons, List.take_zero]
      exact ⟨_, kl_int_mk uInt ha, _, ⟨_, kl_int_mk uInt hb, _, rfl, rfl⟩, rfl⟩
    have hsz : ∃ d, Tryz.prog.types.size + 1 = d + 2 := ⟨Tryz.prog.types.size - 1, by
      have : 0 < Tryz.prog.types.size := of_decide_eq_true (by kernel_rfl)
      omega⟩
    obtain ⟨d, hd⟩ := hsz
    have hf : (Value.agg #[i64 a, i64 b]).formed Tryz.prog 187 = true := by
      simp [Value.formed, Tryz.underlying187, ctPlace]
    have hkt : Tryz.prog.keyType 187 = true := by kernel_rfl
    refine ⟨.string (keyBytes ([[.int .i64 a], [.int .i64 b]] : List (List Lit)).flatten), ?_⟩
    unfold keyOf pk
    simp only [Tryz.underlying187, hkt, hf, Bool.and_self, if_true, hd]
    have := hk d
    simp only [Value.cells] at this ⊢
    rw [this]
    rfl
  inj := by
    rintro ⟨a, b⟩ ⟨c, d⟩ h
    simp [pk] at h
    rw [h.1, h.2]

theorem build_place (a b : Int) : opS Tryz.prog (S.build 187 [(0, i64 a), (1, i64 b)]) K w = K (pk (a, b)) w := by
  rw [opS_build _ rfl]; rfl

/-! ### A table -/

structure VRep (w : World) (p m nb : Nat) (t : VT) : Prop where
  blk : w.heap[p]? = some (cellsO [.map (some m), .slice (some ⟨nb, 0, none⟩) t.nat.length t.nat.length] 185)
  map : MapR pk Value.bool pkOk w m t.tab
  nat : w.heap[nb]? = some (cellsO (t.nat.map i64) 3)
  pn : p ≠ nb
  mn : m ≠ nb
  pm : p ≠ m
  ok : t.ok

def vfp (p m nb : Nat) (b : Nat) : Prop := b = p ∨ b = m ∨ b = nb
theorem VRep.fr {fp : Nat → Prop} {w w' : World} {p m nb : Nat} {t : VT} (h : VRep w p m nb t) (hf : Fr fp w w') (h1 : ¬ fp p) (h2 : ¬ fp m) (h3 : ¬ fp nb) : VRep w' p m nb t :=
  ⟨hf.heap h.blk h1, h.map.fr hf h2, hf.heap h.nat h3, h.pn, h.mn, h.pm, h.ok⟩
theorem VRep.fr0 {w w' : World} {p m nb : Nat} {t : VT} (h : VRep w p m nb t) (hf : Fr none_ w w') : VRep w' p m nb t := h.fr hf (fun h => h) (fun h => h) (fun h => h)
theorem VRep.lt {w : World} {p m nb : Nat} {t : VT} (h : VRep w p m nb t) : p < w.heap.size ∧ m < w.heap.size ∧ nb < w.heap.size := ⟨lt_of_heap h.blk, h.map.lt, lt_of_heap h.nat⟩

theorem right_isI {t : VT} (h : t.ok) {v p : Int} (hr : t.right v p) : pkOk (v, p) := by
  have := h.len
  unfold VT.right VT.port at hr
  constructor <;> rw [isI_iff] <;> simp only [] <;> omega

theorem vport_spec {p m nb : Nat} {t : VT} {n : Int} (hv : VRep w p m nb t) (h : K (.bool (decide (t.port n))) w) : CallsR Tryz.prog 106 #[pt p 0, i64 n] K w := by
  apply c106
  unfold p106
  simp only [push_cast, Nat.reduceAdd, Nat.reduceLeDiff, Nat.reduceLT, Int.reduceToNat, Nat.left_eq_add, Nat.add_eq_left, Nat.add_left_cancel_iff, Nat.reduceEqDiff, Nat.add_assoc, Nat.succ_ne_zero, hv.blk]
  refine br_dec (fun h1 => ?_) fun h1 => ?_
  · have : decide (n < (t.nat.length : Int)) = decide (t.port n) := decide_eq_decide.2 ⟨fun h2 => ⟨h1, h2⟩, fun h2 => h2.2⟩
    rw [this]; exact h
  · rw [decide_eq_false (fun h2 => h1 h2.1)] at h; exact h

theorem vright_spec {p m nb : Nat} {t : VT} {v n : Int} (hv : VRep w p m nb t) (h : K (.bool (decide (t.right v n))) w) : CallsR Tryz.prog 103 #[pt p 0, i64 v, i64 n] K w := by
  apply c103
  unfold p103
  simp only [push_cast, Nat.reduceAdd, Nat.reduceLeDiff, Nat.reduceLT, Int.reduceToNat, Nat.left_eq_add, Nat.add_eq_left, Nat.add_left_cancel_iff, Nat.reduceEqDiff, Nat.add_assoc, Nat.succ_ne_zero]
  refine br_dec (fun h1 => ?_) fun h1 => ?_
  · refine br_dec (fun h2 => ?_) fun h2 => ?_
    · refine vport_spec hv ?_
      have : decide (t.port n) = decide (t.right v n) := decide_eq_decide.2 ⟨fun h3 => ⟨h1, h2, h3⟩, fun h3 => h3.2.2⟩
      rw [this]; exact h
    · rw [decide_eq_false (fun h3 => h2 h3.2.1)] at h; exact h
  · rw [decide_eq_false (fun h3 => h1 h3.1)] at h; exact h

theorem vnew_spec (n : Int) (h0 : ¬ (1 ≤ n ∧ n ≤ 64) → K (.tuple #[.pointer none, i64 1]) w)
    (h1 : 1 ≤ n → n ≤ 64 → ∀ w' p m nb, VRep w' p m nb (VT.new n.toNat) → Fr none_ w w' → w.heap.size ≤ p → w.heap.size ≤ m → w.heap.size ≤ nb → K (.tuple #[pt p 0, i64 0]) w') :
    CallsR Tryz.prog 98 #[i64 n] K w := by
  apply c98
  unfold p98
  simp only [push_cast, Nat.reduceAdd, Nat.reduceLeDiff, Nat.reduceLT, Int.reduceToNat, Nat.left_eq_add, Nat.add_eq_left, Nat.add_left_cancel_iff, Nat.reduceEqDiff, Nat.add_assoc, Nat.succ_ne_zero]
  refine br_dec (fun ha => h0 (by omega)) fun ha => ?_
  refine br_dec (fun hb => h0 (by omega)) fun hb => ?_
  refine s_mkm (kc := pk) (vc := Value.bool) (kok := pkOk) fun w1 hm hF1 hs1 => ?_
  rw [opS_mks _ _ _ (by omega) (by omega) (by omega) (by rfl) (by decide)]
  simp only [push_cast, Nat.reduceAdd, Nat.reduceLeDiff, Nat.reduceLT, Int.reduceToNat, Nat.left_eq_add, Nat.add_eq_left, Nat.add_left_cancel_iff, Nat.reduceEqDiff, Nat.add_assoc, Nat.succ_ne_zero]
  rw [opS_build _ rfl]
  have e : zeros n.toNat (Value.int .i64 0).cells.toList = (List.replicate n.toNat (0 : Int)).map i64 := by
    simp [zeros, Value.cells]
  simp only [push_cast, Nat.reduceAdd, Nat.reduceLeDiff, Nat.reduceLT, Int.reduceToNat, Nat.left_eq_add, Nat.add_eq_left, Nat.add_left_cancel_iff, Nat.reduceEqDiff, Nat.add_assoc, Nat.succ_ne_zero]
  refine h1 (by omega) (by omega) _ (w1.heap.size + 1) w.heap.size w1.heap.size ⟨?_, ?_, ?_, by omega, by omega, by omega, VT.ok_new (by omega)⟩ ?_ (by omega) (Nat.le_refl _) (by omega)
  · simp only [push_cast, Nat.reduceAdd, Nat.reduceLeDiff, Nat.reduceLT, Int.reduceToNat, Nat.left_eq_add, Nat.add_eq_left, Nat.add_left_cancel_iff, Nat.reduceEqDiff, Nat.add_assoc, Nat.succ_ne_zero, VT.new, List.length_replicate]
    rfl
  · exact hm.fr (fp := none_) (by repeat' first | with_reducible exact Fr.refl _ _ | with_reducible refine Fr.step_alloc ?_ ?_ | with_reducible refine Fr.step_drew ?_ | with_reducible refine Fr.step_wr ?_ ?_ _ _ | exact rfl | exact Or.inr (by omega) | exact Or.inl rfl | exact Or.inl (Or.inl rfl) | exact Or.inl (Or.inr rfl)) (fun h => h)
  · simp only [push_cast, Nat.reduceAdd, Nat.reduceLeDiff, Nat.reduceLT, Int.reduceToNat, Nat.left_eq_add, Nat.add_eq_left, Nat.add_left_cancel_iff, Nat.reduceEqDiff, Nat.add_assoc, Nat.succ_ne_zero, VT.new]
    rw [← e]
    rfl
  · exact hF1.trans (by repeat' first | with_reducible exact Fr.refl _ _ | with_reducible refine Fr.step_alloc ?_ ?_ | with_reducible refine Fr.step_drew ?_ | with_reducible refine Fr.step_wr ?_ ?_ _ _ | exact rfl | exact Or.inr (by omega) | exact Or.inl rfl | exact Or.inl (Or.inl rfl) | exact Or.inl (Or.inr rfl))

theorem splice_ints (l : List Int) (i : Nat) (h : i < l.length) (v : Int) : splice (l.map i64) i [i64 v] = (l.set i v).map i64 := by
  rw [List.set_eq_take_append_cons_drop, if_pos h]
  unfold splice
  simp [List.map_take, List.map_drop]

theorem vnative_spec {p m nb : Nat} {t : VT} {n v : Int} (hv : VRep w p m nb t) (h : ∀ w', VRep w' p m nb (t.native n v).1 → Fr (vfp p m nb) w w' → K (i64 (t.native n v).2) w') : CallsR Tryz.prog 50 #[pt p 0, i64 n, i64 v] K w := by
  apply c50
  unfold p50
  simp only [push_cast, Nat.reduceAdd, Nat.reduceLeDiff, Nat.reduceLT, Int.reduceToNat, Nat.left_eq_add, Nat.add_eq_left, Nat.add_left_cancel_iff, Nat.reduceEqDiff, Nat.add_assoc, Nat.succ_ne_zero]
  refine vport_spec hv ?_
  simp only [push_cast, Nat.reduceAdd, Nat.reduceLeDiff, Nat.reduceLT, Int.reduceToNat, Nat.left_eq_add, Nat.add_eq_left, Nat.add_left_cancel_iff, Nat.reduceEqDiff, Nat.add_assoc, Nat.succ_ne_zero]
  have hbad : ¬ (t.port n ∧ 0 ≤ v ∧ v ≤ 4094) → K (i64 1) w := fun hb => by
    have := h w
    rw [VT.native, if_neg hb] at this
    exact this hv (Fr.refl _ _)
  refine br_intro (fun hp => hbad fun h2 => ?_) fun hp => ?_
  · rw [decide_eq_true h2.1] at hp; cases hp
  have hp : t.port n := by simpa using hp
  refine br_dec (fun h2 => hbad (by omega)) fun h2 => ?_
  refine br_dec (fun h3 => hbad (by omega)) fun h3 => ?_
  rw [VT.native, if_pos ⟨hp, by omega, by omega⟩] at h
  have hok := VT.ok_native hv.ok n v
  rw [VT.native, if_pos ⟨hp, by omega, by omega⟩] at hok
  simp only [push_cast, Nat.reduceAdd, Nat.reduceLeDiff, Nat.reduceLT, Int.reduceToNat, Nat.left_eq_add, Nat.add_eq_left, Nat.add_left_cancel_iff, Nat.reduceEqDiff, Nat.add_assoc, Nat.succ_ne_zero, hv.blk]
  rw [opS_iaS, if_pos (show 0 ≤ n ∧ n < _ from hp)]
  have hlt : n.toNat < t.nat.length := by have := hp.1; have := hp.2; omega
  simp only [push_cast, Nat.reduceAdd, Nat.reduceLeDiff, Nat.reduceLT, Int.reduceToNat, Nat.left_eq_add, Nat.add_eq_left, Nat.add_left_cancel_iff, Nat.reduceEqDiff, Nat.add_assoc, Nat.succ_ne_zero, hv.nat, Nat.mul_one, List.length_map]
  have hle : decide (n.toNat + 1 ≤ t.nat.length) = true := decide_eq_true (by omega)
  have hpn := hv.pn
  have hmn := hv.mn
  simp only [hle, push_cast, Nat.reduceAdd, Nat.reduceLeDiff, Nat.reduceLT, Int.reduceToNat, Nat.left_eq_add, Nat.add_eq_left, Nat.add_left_cancel_iff, Nat.reduceEqDiff, Nat.add_assoc, Nat.succ_ne_zero]
  refine h _ ⟨?_, hv.map.fr (fp := fun b => b = nb) (by repeat' first | with_reducible exact Fr.refl _ _ | with_reducible refine Fr.step_alloc ?_ ?_ | with_reducible refine Fr.step_drew ?_ | with_reducible refine Fr.step_wr ?_ ?_ _ _ | exact rfl | exact Or.inr (by omega) | exact Or.inl rfl | exact Or.inl (Or.inl rfl) | exact Or.inl (Or.inr rfl)) hmn, ?_, hpn, hmn, hv.pm, hok⟩ (Fr.wr _ _ _ _ (.inr (.inr rfl)))
  · simp only [push_cast, Nat.reduceAdd, Nat.reduceLeDiff, Nat.reduceLT, Int.reduceToNat, Nat.left_eq_add, Nat.add_eq_left, Nat.add_left_cancel_iff, Nat.reduceEqDiff, Nat.add_assoc, Nat.succ_ne_zero, hpn, hv.blk, List.length_set]
  · simp only [push_cast, Nat.reduceAdd, Nat.reduceLeDiff, Nat.reduceLT, Int.reduceToNat, Nat.left_eq_add, Nat.add_eq_left, Nat.add_left_cancel_iff, Nat.reduceEqDiff, Nat.add_assoc, Nat.succ_ne_zero, hv.nat]
    rw [splice_ints _ _ hlt]

theorem vadd_spec {p m nb : Nat} {t : VT} {v n : Int} {b : Bool} (hv : VRep w p m nb t) (h : ∀ w', VRep w' p m nb (t.add v n b).1 → Fr (vfp p m nb) w w' → K (i64 (t.add v n b).2) w') : CallsR Tryz.prog 48 #[pt p 0, i64 v, i64 n, .bool b] K w := by
  apply c48
  unfold p48
  simp only [push_cast, Nat.reduceAdd, Nat.reduceLeDiff, Nat.reduceLT, Int.reduceToNat, Nat.left_eq_add, Nat.add_eq_left, Nat.add_left_cancel_iff, Nat.reduceEqDiff, Nat.add_assoc, Nat.succ_ne_zero]
  refine vright_spec hv ?_
  have hok := VT.ok_add hv.ok v n b
  by_cases hr : t.right v n
  · rw [VT.add, if_pos hr] at h hok
    simp only [hr, push_cast, Nat.reduceAdd, Nat.reduceLeDiff, Nat.reduceLT, Int.reduceToNat, Nat.left_eq_add, Nat.add_eq_left, Nat.add_left_cancel_iff, Nat.reduceEqDiff, Nat.add_assoc, Nat.succ_ne_zero, hv.blk, build_place]
    refine s_mu (kc := pk) (vc := Value.bool) hv.map (right_isI hv.ok hr) fun w' hm hF => ?_
    exact h w' ⟨hF.heap hv.blk hv.pm, hm, hF.heap hv.nat (fun e => hv.mn e.symm), hv.pn, hv.mn, hv.pm, hok⟩ (hF.mono fun b _ hb => .inr (.inl hb))
  · rw [VT.add, if_neg hr] at h
    simp only [hr, push_cast, Nat.reduceAdd, Nat.reduceLeDiff, Nat.reduceLT, Int.reduceToNat, Nat.left_eq_add, Nat.add_eq_left, Nat.add_left_cancel_iff, Nat.reduceEqDiff, Nat.add_assoc, Nat.succ_ne_zero]
    exact h w hv (Fr.refl _ _)

theorem vin_spec {p m nb : Nat} {t : VT} {n : Int} {f : Frm} {bs : List Int} (hv : VRep w p m nb t) (hf : FrmR w f bs) (h : ∀ w', Fr none_ w w' → K (.tuple #[i64 (t.inn n f bs.length).1, i64 (t.inn n f bs.length).2]) w') :
    CallsR Tryz.prog 212 #[pt p 0, i64 n, .agg f.cells.toArray] K w := by
  apply c212
  unfold p212
  obtain ⟨a, c, hbd⟩ := hf.2.form
  have hone : f.cells.all S.oneCell = true := Frm.one _ hf.2.one
  have h0 : (w.alloc (cellsO f.cells 61)).heap[w.heap.size]? = some (cellsO f.cells 61) := by simp only [push_cast, Nat.reduceAdd, Nat.reduceLeDiff, Nat.reduceLT, Int.reduceToNat, Nat.left_eq_add, Nat.add_eq_left, Nat.add_left_cancel_iff, Nat.reduceEqDiff, Nat.add_assoc, Nat.succ_ne_zero]
  have hF : Fr none_ w (w.alloc (cellsO f.cells 61)) := (by repeat' first | with_reducible exact Fr.refl _ _ | with_reducible refine Fr.step_alloc ?_ ?_ | with_reducible refine Fr.step_drew ?_ | with_reducible refine Fr.step_wr ?_ ?_ _ _ | exact rfl | exact Or.inr (by omega) | exact Or.inl rfl | exact Or.inl (Or.inl rfl) | exact Or.inl (Or.inr rfl))
  simp only [opS_box, cells_agg, alloc_cellsO]
  generalize w.alloc (cellsO f.cells 61) = W at *
  simp only [push_cast, Nat.reduceAdd, Nat.reduceLeDiff, Nat.reduceLT, Int.reduceToNat, Nat.left_eq_add, Nat.add_eq_left, Nat.add_left_cancel_iff, Nat.reduceEqDiff, Nat.add_assoc, Nat.succ_ne_zero]
  refine vport_spec (hv.fr0 hF) ?_
  simp only [push_cast, Nat.reduceAdd, Nat.reduceLeDiff, Nat.reduceLT, Int.reduceToNat, Nat.left_eq_add, Nat.add_eq_left, Nat.add_left_cancel_iff, Nat.reduceEqDiff, Nat.add_assoc, Nat.succ_ne_zero, h0]
  refine br_intro (fun hp => ?_) fun hp => ?_
  · have hp : ¬ t.port n := by simpa using hp
    rw [VT.inn, if_neg (fun h => hp h.1)] at h
    exact h _ hF
  have hp : t.port n := by simpa using hp
  have hlt : n.toNat < t.nat.length := by have := hp.1; have := hp.2; omega
  refine right_spec hbd fun W2 hF2 => ?_
  replace hF := hF.trans hF2
  replace h0 := hF2.heap h0 (fun h => h)
  have hv2 := hv.fr0 hF
  simp only [push_cast, Nat.reduceAdd, Nat.reduceLeDiff, Nat.reduceLT, Int.reduceToNat, Nat.left_eq_add, Nat.add_eq_left, Nat.add_left_cancel_iff, Nat.reduceEqDiff, Nat.add_assoc, Nat.succ_ne_zero]
  refine br_intro (fun hr => ?_) fun hr => ?_
  · rw [VT.inn, if_neg (fun h => by rw [h.2] at hr; cases hr)] at h
    exact h _ hF
  have hr : f.right bs.length = true := by simpa using hr
  rw [VT.inn, if_pos ⟨hp, hr⟩] at h
  simp only [push_cast, Nat.reduceAdd, Nat.reduceLeDiff, Nat.reduceLT, Int.reduceToNat, Nat.left_eq_add, Nat.add_eq_left, Nat.add_left_cancel_iff, Nat.reduceEqDiff, Nat.add_assoc, Nat.succ_ne_zero, h0, jn_1]
  have key : ∀ v : Int, isI v → K (.tuple #[i64 (if t.is v n = true then (v, (0 : Int)) else (0, 4)).1, i64 (if t.is v n = true then (v, (0 : Int)) else (0, 4)).2]) W2 →
      opS Tryz.prog (S.nc (pt p 0)) (fun x12 => opS Tryz.prog (S.fa 185 x12 0) fun x13 => opS Tryz.prog (S.ld 183 x13) fun x14 => opS Tryz.prog (S.build 187 [(0, i64 v), (1, i64 n)]) fun x15 =>
        opS Tryz.prog (S.lk 183 x14 x15 true) fun x16 => opS Tryz.prog (S.ext x16 0) fun x17 => opS Tryz.prog (S.ext x16 1) fun x18 => opS Tryz.prog (S.un .not x18) fun x19 =>
          brn x19 (K (.tuple #[.int .i64 0, .int .i64 4])) (K (.tuple #[i64 v, .int .i64 0]))) W2 := by
    intro v hvi hK
    simp only [push_cast, Nat.reduceAdd, Nat.reduceLeDiff, Nat.reduceLT, Int.reduceToNat, Nat.left_eq_add, Nat.add_eq_left, Nat.add_left_cancel_iff, Nat.reduceEqDiff, Nat.add_assoc, Nat.succ_ne_zero, hv2.blk, build_place]
    have hn : isI n := by have := hp.1; have := hp.2; have := hv.ok.len; rw [isI_iff]; omega
    refine s_lk (kc := pk) (vc := Value.bool) hv2.map ⟨hvi, hn⟩ ?_
    simp only [push_cast, Nat.reduceAdd, Nat.reduceLeDiff, Nat.reduceLT, Int.reduceToNat, Nat.left_eq_add, Nat.add_eq_left, Nat.add_left_cancel_iff, Nat.reduceEqDiff, Nat.add_assoc, Nat.succ_ne_zero]
    unfold VT.is at hK
    cases hl : getL t.tab (v, n) with
    | none =>
      rw [hl] at hK
      simp only [Option.isSome_none, push_cast, Nat.reduceAdd, Nat.reduceLeDiff, Nat.reduceLT, Int.reduceToNat, Nat.left_eq_add, Nat.add_eq_left, Nat.add_left_cancel_iff, Nat.reduceEqDiff, Nat.add_assoc, Nat.succ_ne_zero]
      exact hK
    | some b =>
      rw [hl] at hK
      simp only [Option.isSome_some, push_cast, Nat.reduceAdd, Nat.reduceLeDiff, Nat.reduceLT, Int.reduceToNat, Nat.left_eq_add, Nat.add_eq_left, Nat.add_left_cancel_iff, Nat.reduceEqDiff, Nat.add_assoc, Nat.succ_ne_zero]
      exact hK
  refine br_intro (fun h1 => ?_) fun h1 => ?_
  · have h1 : f.vlan = 0 := by simpa using h1
    simp only [push_cast, Nat.reduceAdd, Nat.reduceLeDiff, Nat.reduceLT, Int.reduceToNat, Nat.left_eq_add, Nat.add_eq_left, Nat.add_left_cancel_iff, Nat.reduceEqDiff, Nat.add_assoc, Nat.succ_ne_zero, hv2.blk]
    rw [opS_iaS, if_pos (show 0 ≤ n ∧ n < _ from hp)]
    simp only [push_cast, Nat.reduceAdd, Nat.reduceLeDiff, Nat.reduceLT, Int.reduceToNat, Nat.left_eq_add, Nat.add_eq_left, Nat.add_left_cancel_iff, Nat.reduceEqDiff, Nat.add_assoc, Nat.succ_ne_zero, hv2.nat, Nat.mul_one, List.getElem?_map, List.getElem?_eq_getElem hlt, Option.map_some]
    have hg : t.nat.getD n.toNat 0 = t.nat[n.toNat] := by simp [List.getD, List.getElem?_eq_getElem hlt]
    rw [if_pos h1, hg] at h
    have := key t.nat[n.toNat] (by have := hv.ok.nat _ (List.getElem_mem hlt); rw [isI_iff]; omega) (h _ hF)
    simp only [push_cast, Nat.reduceAdd, Nat.reduceLeDiff, Nat.reduceLT, Int.reduceToNat, Nat.left_eq_add, Nat.add_eq_left, Nat.add_left_cancel_iff, Nat.reduceEqDiff, Nat.add_assoc, Nat.succ_ne_zero] at this
    exact this
  · have h1 : f.vlan ≠ 0 := by simpa using h1
    rw [if_neg h1] at h
    have := key f.vlan hf.1.2.2.1 (h _ hF)
    simp only [push_cast, Nat.reduceAdd, Nat.reduceLeDiff, Nat.reduceLT, Int.reduceToNat, Nat.left_eq_add, Nat.add_eq_left, Nat.add_left_cancel_iff, Nat.reduceEqDiff, Nat.add_assoc, Nat.succ_ne_zero] at this
    exact this

theorem vout_spec {p m nb : Nat} {t : VT} {v n : Int} {f : Frm} {bs : List Int} (hv : VRep w p m nb t) (hf : FrmR w f bs) (h : ∀ w', Fr none_ w w' → K (.tuple #[.agg (t.out v n f bs.length).1.cells.toArray, i64 (t.out v n f bs.length).2]) w') :
    CallsR Tryz.prog 234 #[pt p 0, i64 v, i64 n, .agg f.cells.toArray] K w := by
  apply c234
  unfold p234
  obtain ⟨a, c, hbd⟩ := hf.2.form
  have hone : f.cells.all S.oneCell = true := Frm.one _ hf.2.one
  have hone0 : zFrm.cells.all S.oneCell = true := rfl
  have hz : ∀ w : World, w.alloc (cellsO [Value.int IntKind.u8 0, Value.int IntKind.u8 0, Value.int IntKind.u8 0, Value.int IntKind.u8 0, Value.int IntKind.u8 0, Value.int IntKind.u8 0, Value.int IntKind.u8 0, Value.int IntKind.u8 0, Value.int IntKind.u8 0, Value.int IntKind.u8 0, Value.int IntKind.u8 0, Value.int IntKind.u8 0,
    Value.bool false, Value.int IntKind.i64 0, Value.int IntKind.i64 0, Value.int IntKind.i64 0, Value.slice none 0 0] 61) = w.alloc (cellsO zFrm.cells 61) := fun _ => rfl
  simp only [push_cast, Nat.reduceAdd, Nat.reduceLeDiff, Nat.reduceLT, Int.reduceToNat, Nat.left_eq_add, Nat.add_eq_left, Nat.add_left_cancel_iff, Nat.reduceEqDiff, Nat.add_assoc, Nat.succ_ne_zero, hz]
  have h0 : ((w.alloc (cellsO f.cells 61)).alloc (cellsO zFrm.cells 61)).heap[w.heap.size]? = some (cellsO f.cells 61) := by simp only [push_cast, Nat.reduceAdd, Nat.reduceLeDiff, Nat.reduceLT, Int.reduceToNat, Nat.left_eq_add, Nat.add_eq_left, Nat.add_left_cancel_iff, Nat.reduceEqDiff, Nat.add_assoc, Nat.succ_ne_zero]
  have h1 : ((w.alloc (cellsO f.cells 61)).alloc (cellsO zFrm.cells 61)).heap[w.heap.size + 1]? = some (cellsO zFrm.cells 61) := by simp only [push_cast, Nat.reduceAdd, Nat.reduceLeDiff, Nat.reduceLT, Int.reduceToNat, Nat.left_eq_add, Nat.add_eq_left, Nat.add_left_cancel_iff, Nat.reduceEqDiff, Nat.add_assoc, Nat.succ_ne_zero]
  have hF : Fr none_ w ((w.alloc (cellsO f.cells 61)).alloc (cellsO zFrm.cells 61)) := (by repeat' first | with_reducible exact Fr.refl _ _ | with_reducible refine Fr.step_alloc ?_ ?_ | with_reducible refine Fr.step_drew ?_ | with_reducible refine Fr.step_wr ?_ ?_ _ _ | exact rfl | exact Or.inr (by omega) | exact Or.inl rfl | exact Or.inl (Or.inl rfl) | exact Or.inl (Or.inr rfl))
  generalize (w.alloc (cellsO f.cells 61)).alloc (cellsO zFrm.cells 61) = W at *
  refine vright_spec (hv.fr0 hF) ?_
  simp only [push_cast, Nat.reduceAdd, Nat.reduceLeDiff, Nat.reduceLT, Int.reduceToNat, Nat.left_eq_add, Nat.add_eq_left, Nat.add_left_cancel_iff, Nat.reduceEqDiff, Nat.add_assoc, Nat.succ_ne_zero, h0, h1, hone, hone0, build_zFrm]
  refine br_intro (fun hp => ?_) fun hp => ?_
  · have hp : ¬ t.right v n := by simpa using hp
    rw [VT.out, if_neg (fun h => hp h.1)] at h
    exact h _ (hF.step_wr (Or.inr (by omega)) _ _)
  have hp : t.right v n := by simpa using hp
  refine right_spec hbd fun W2 hF2 => ?_
  replace hF := hF.trans hF2
  replace h0 := hF2.heap h0 (fun h => h)
  replace h1 := hF2.heap h1 (fun h => h)
  have hv2 := hv.fr0 hF
  simp only [push_cast, Nat.reduceAdd, Nat.reduceLeDiff, Nat.reduceLT, Int.reduceToNat, Nat.left_eq_add, Nat.add_eq_left, Nat.add_left_cancel_iff, Nat.reduceEqDiff, Nat.add_assoc, Nat.succ_ne_zero, h0, h1, hone, hone0, build_zFrm]
  refine br_intro (fun hr => ?_) fun hr => ?_
  · rw [VT.out, if_neg (fun h => by rw [h.2] at hr; cases hr)] at h
    exact h _ (hF.step_wr (Or.inr (by omega)) _ _)
  have hr : f.right bs.length = true := by simpa using hr
  rw [VT.out, if_pos ⟨hp, hr⟩] at h
  simp only [push_cast, Nat.reduceAdd, Nat.reduceLeDiff, Nat.reduceLT, Int.reduceToNat, Nat.left_eq_add, Nat.add_eq_left, Nat.add_left_cancel_iff, Nat.reduceEqDiff, Nat.add_assoc, Nat.succ_ne_zero, hv2.blk, build_place]
  refine s_lk (kc := pk) (vc := Value.bool) hv2.map (right_isI hv.ok hp) ?_
  simp only [push_cast, Nat.reduceAdd, Nat.reduceLeDiff, Nat.reduceLT, Int.reduceToNat, Nat.left_eq_add, Nat.add_eq_left, Nat.add_left_cancel_iff, Nat.reduceEqDiff, Nat.add_assoc, Nat.succ_ne_zero]
  cases hl : getL t.tab (v, n) with
  | none =>
    rw [hl] at h
    simp only [Option.isSome_none, push_cast, Nat.reduceAdd, Nat.reduceLeDiff, Nat.reduceLT, Int.reduceToNat, Nat.left_eq_add, Nat.add_eq_left, Nat.add_left_cancel_iff, Nat.reduceEqDiff, Nat.add_assoc, Nat.succ_ne_zero, h0, h1, hone, hone0, build_zFrm]
    exact h _ (hF.step_wr (Or.inr (by omega)) _ _)
  | some b =>
    rw [hl] at h
    cases b with
    | true =>
      simp only [Option.isSome_some, got, push_cast, Nat.reduceAdd, Nat.reduceLeDiff, Nat.reduceLT, Int.reduceToNat, Nat.left_eq_add, Nat.add_eq_left, Nat.add_left_cancel_iff, Nat.reduceEqDiff, Nat.add_assoc, Nat.succ_ne_zero, h0, h1, hone, hone0, build_zFrm]
      refine tag_spec (hf.fr0 hF) fun W3 hF3 => ?_
      replace h0 := hF3.heap h0 (fun h => h)
      replace h1 := hF3.heap h1 (fun h => h)
      replace hF := hF.trans hF3
      rw [if_pos (VT.tag_right hr hp.1 hp.2.1)]
      have hone2 : (f.tag v f.prio).cells.all S.oneCell = true := Frm.one _ hf.2.one
      simp only [push_cast, Nat.reduceAdd, Nat.reduceLeDiff, Nat.reduceLT, Int.reduceToNat, Nat.left_eq_add, Nat.add_eq_left, Nat.add_left_cancel_iff, Nat.reduceEqDiff, Nat.add_assoc, Nat.succ_ne_zero, h0, h1, hone2]
      exact h _ (hF.step_wr (Or.inr (by omega)) _ _)
    | false =>
      simp only [Option.isSome_some, got, push_cast, Nat.reduceAdd, Nat.reduceLeDiff, Nat.reduceLT, Int.reduceToNat, Nat.left_eq_add, Nat.add_eq_left, Nat.add_left_cancel_iff, Nat.reduceEqDiff, Nat.add_assoc, Nat.succ_ne_zero, h0, h1, hone, hone0, build_zFrm]
      refine untag_spec (hf.fr0 hF) fun W3 hF3 => ?_
      replace h0 := hF3.heap h0 (fun h => h)
      replace h1 := hF3.heap h1 (fun h => h)
      replace hF := hF.trans hF3
      have hone2 : f.untag.cells.all S.oneCell = true := Frm.one _ hf.2.one
      simp only [push_cast, Nat.reduceAdd, Nat.reduceLeDiff, Nat.reduceLT, Int.reduceToNat, Nat.left_eq_add, Nat.add_eq_left, Nat.add_left_cancel_iff, Nat.reduceEqDiff, Nat.add_assoc, Nat.succ_ne_zero, h0, h1, hone2]
      exact h _ (hF.step_wr (Or.inr (by omega)) _ _)

def memC (x : (Int × Int) × Bool) : List Value := [i64 x.1.1, i64 x.1.2, .bool x.2]
theorem memC_one (l : List ((Int × Int) × Bool)) : (l.map memC).flatten.all S.oneCell = true := by
  rw [List.all_eq_true]
  intro x hx
  obtain ⟨e, he, hx⟩ := List.mem_flatten.1 hx
  obtain ⟨y, hy, rfl⟩ := List.mem_map.1 he
  simp [memC] at hx
  rcases hx with rfl | rfl | rfl <;> rfl

structure RRep (w : World) (q nb : Nat) (Lv : Value) (t : VT) : Prop where
  blk : w.heap[q]? = some (cellsO [i64 t.nat.length, Lv, .slice (some ⟨nb, 0, none⟩) t.nat.length t.nat.length] 193)
  lst : OwnE 190 3 w Lv (t.tab.map memC)
  nat : w.heap[nb]? = some (cellsO (t.nat.map i64) 3)
  qn : q ≠ nb
  lq : ∀ b, blkS Lv = some b → b ≠ q ∧ b ≠ nb
  ok : t.ok

def rfp (q nb : Nat) (Lv : Value) (b : Nat) : Prop := b = q ∨ b = nb ∨ blkS Lv = some b
theorem RRep.fr {fp : Nat → Prop} {w w' : World} {q nb : Nat} {Lv : Value} {t : VT} (h : RRep w q nb Lv t) (hf : Fr fp w w') (h1 : ¬ fp q) (h2 : ¬ fp nb) (h3 : ∀ b, blkS Lv = some b → ¬ fp b) : RRep w' q nb Lv t :=
  ⟨hf.heap h.blk h1, h.lst.fr hf h3, hf.heap h.nat h2, h.qn, h.lq, h.ok⟩
theorem RRep.fr0 {w w' : World} {q nb : Nat} {Lv : Value} {t : VT} (h : RRep w q nb Lv t) (hf : Fr none_ w w') : RRep w' q nb Lv t := h.fr hf (fun h => h) (fun h => h) (fun _ _ h => h)
theorem RRep.lt {w : World} {q nb : Nat} {Lv : Value} {t : VT} (h : RRep w q nb Lv t) : q < w.heap.size ∧ nb < w.heap.size := ⟨lt_of_heap h.blk, lt_of_heap h.nat⟩

theorem rright_spec' {q nb : Nat} {Lv : Value} {t : VT} {v n : Int} (hv : RRep w q nb Lv t) (h : K (.bool (decide (t.right v n))) w) : CallsR Tryz.prog 104 #[pt q 0, i64 v, i64 n] K w := by
  apply c104
  unfold p104
  simp only [push_cast, Nat.reduceAdd, Nat.reduceLeDiff, Nat.reduceLT, Int.reduceToNat, Nat.left_eq_add, Nat.add_eq_left, Nat.add_left_cancel_iff, Nat.reduceEqDiff, Nat.add_assoc, Nat.succ_ne_zero, hv.blk]
  have h' : ∀ b, decide (t.right v n) = b → K (.bool b) w := fun b e => e ▸ h
  clear h
  repeat' first | with_reducible refine br_dec (fun _ => ?_) fun _ => ?_
  all_goals
    refine h' _ ?_
    unfold VT.right VT.port
    first | exact decide_eq_false (by omega) | exact decide_eq_decide.2 (by omega)

theorem rnew_spec (n : Int) (h0 : ¬ (1 ≤ n ∧ n ≤ 64) → K (.tuple #[.pointer none, i64 1]) w)
    (h1 : 1 ≤ n → n ≤ 64 → ∀ w' q nb Lv, RRep w' q nb Lv (VT.new n.toNat) → Fr none_ w w' → w.heap.size ≤ q → w.heap.size ≤ nb → New w Lv → K (.tuple #[pt q 0, i64 0]) w') :
    CallsR Tryz.prog 101 #[i64 n] K w := by
  apply c101
  unfold p101
  simp only [push_cast, Nat.reduceAdd, Nat.reduceLeDiff, Nat.reduceLT, Int.reduceToNat, Nat.left_eq_add, Nat.add_eq_left, Nat.add_left_cancel_iff, Nat.reduceEqDiff, Nat.add_assoc, Nat.succ_ne_zero]
  refine br_dec (fun ha => h0 (by omega)) fun ha => ?_
  refine br_dec (fun hb => h0 (by omega)) fun hb => ?_
  rw [opS_mks _ _ _ (by omega) (by omega) (by omega) (by rfl) (by decide)]
  simp only [push_cast, Nat.reduceAdd, Nat.reduceLeDiff, Nat.reduceLT, Int.reduceToNat, Nat.left_eq_add, Nat.add_eq_left, Nat.add_left_cancel_iff, Nat.reduceEqDiff, Nat.add_assoc, Nat.succ_ne_zero]
  rw [opS_build _ rfl]
  have e : zeros n.toNat (Value.int .i64 0).cells.toList = (List.replicate n.toNat (0 : Int)).map i64 := by
    simp [zeros, Value.cells]
  simp only [push_cast, Nat.reduceAdd, Nat.reduceLeDiff, Nat.reduceLT, Int.reduceToNat, Nat.left_eq_add, Nat.add_eq_left, Nat.add_left_cancel_iff, Nat.reduceEqDiff, Nat.add_assoc, Nat.succ_ne_zero]
  refine h1 (by omega) (by omega) _ (w.heap.size + 1) w.heap.size (.slice none 0 0) ⟨?_, own_nil _ _ _, ?_, by omega, fun b hb => (by cases hb), VT.ok_new (by omega)⟩ (by repeat' first | with_reducible exact Fr.refl _ _ | with_reducible refine Fr.step_alloc ?_ ?_ | with_reducible refine Fr.step_drew ?_ | with_reducible refine Fr.step_wr ?_ ?_ _ _ | exact rfl | exact Or.inr (by omega) | exact Or.inl rfl | exact Or.inl (Or.inl rfl) | exact Or.inl (Or.inr rfl)) (by omega) (Nat.le_refl _) (fun b hb => by cases hb)
  · simp only [push_cast, Nat.reduceAdd, Nat.reduceLeDiff, Nat.reduceLT, Int.reduceToNat, Nat.left_eq_add, Nat.add_eq_left, Nat.add_left_cancel_iff, Nat.reduceEqDiff, Nat.add_assoc, Nat.succ_ne_zero, VT.new, List.length_replicate]
    have : ((n.toNat : Nat) : Int) = n := by omega
    rw [this]
    rfl
  · simp only [push_cast, Nat.reduceAdd, Nat.reduceLeDiff, Nat.reduceLT, Int.reduceToNat, Nat.left_eq_add, Nat.add_eq_left, Nat.add_left_cancel_iff, Nat.reduceEqDiff, Nat.add_assoc, Nat.succ_ne_zero, VT.new]
    rw [← e]
    rfl

theorem rfind_spec {q nb : Nat} {Lv : Value} {t : VT} {v n : Int} (hv : RRep w q nb Lv t) (h0 : getL t.tab (v, n) = none → K (i64 (-1)) w) (h1 : ∀ (k : Nat) b, t.tab[k]? = some ((v, n), b) → getL t.tab (v, n) = some b → K (i64 k) w) :
    CallsR Tryz.prog 105 #[pt q 0, i64 v, i64 n] K w := by
  apply c105
  unfold p105
  have hsmall := VT.small hv.ok
  obtain ⟨a, c, hL⟩ := hv.lst.rd.form
  rw [List.length_map] at hL
  refine jn0 (fun w' => w' = w ∧ getL t.tab (v, n) = none) (fun w' ⟨e, hn⟩ => by subst e; exact h0 hn) fun j hj => ?_
  refine loop1 (fun m x w' => ∃ i : Nat, x = i64 i ∧ i + m = t.tab.length ∧ w' = w ∧ ∀ k p, k < i → t.tab[k]? = some p → p.1 ≠ (v, n)) ?_ t.tab.length ⟨0, rfl, by omega, rfl, fun k p hk => by omega⟩
  rintro m x w' X ⟨i, rfl, hi, rfl, hno⟩ hX
  have hlst := hv.lst
  rw [hL] at hlst
  simp only [push_cast, Nat.reduceAdd, Nat.reduceLeDiff, Nat.reduceLT, Int.reduceToNat, Nat.left_eq_add, Nat.add_eq_left, Nat.add_left_cancel_iff, Nat.reduceEqDiff, Nat.add_assoc, Nat.succ_ne_zero, hv.blk, hL]
  refine br_dec (fun hlt => ?_) fun hge => hj _ ⟨rfl, lookup_none fun p hp => ?_⟩
  · have hlt2 : i < t.tab.length := by omega
    have hnext : t.tab[i].1 ≠ (v, n) → X (i64 (i + 1 : Nat)) w' := fun hne => hX (m - 1) _ _ (by omega) ⟨i + 1, rfl, by omega, rfl, fun k p hk hp => by
      by_cases e : k = i
      · subst e
        rw [List.getElem?_eq_getElem hlt2] at hp
        cases hp
        exact hne
      · exact hno k p (by omega) hp⟩
    have hw : IntKind.i64.wrap ((i : Int) + 1) = ((i + 1 : Nat) : Int) := by rw [wrap_i64 (by omega)]; omega
    refine s_iaE hlst.rd (by omega) (by simpa using hlt2) fun b1 o1 c1 _ hE => ?_
    simp only [Int.toNat_natCast, List.getElem_map] at hE ⊢
    have hg0 : (memC t.tab[i])[0]? = some (i64 t.tab[i].1.1) := rfl
    have hg1 : (memC t.tab[i])[1]? = some (i64 t.tab[i].1.2) := rfl
    have hE0 := hE.cell 0 (show 0 < 3 by decide)
    simp only [push_cast, Nat.reduceAdd, Nat.reduceLeDiff, Nat.reduceLT, Int.reduceToNat, Nat.left_eq_add, Nat.add_eq_left, Nat.add_left_cancel_iff, Nat.reduceEqDiff, Nat.add_assoc, Nat.succ_ne_zero, hg0] at hE0
    simp only [push_cast, Nat.reduceAdd, Nat.reduceLeDiff, Nat.reduceLT, Int.reduceToNat, Nat.left_eq_add, Nat.add_eq_left, Nat.add_left_cancel_iff, Nat.reduceEqDiff, Nat.add_assoc, Nat.succ_ne_zero, hE0]
    refine br_intro (fun e1 => ?_) fun e1 => ?_
    · simp only [push_cast, Nat.reduceAdd, Nat.reduceLeDiff, Nat.reduceLT, Int.reduceToNat, Nat.left_eq_add, Nat.add_eq_left, Nat.add_left_cancel_iff, Nat.reduceEqDiff, Nat.add_assoc, Nat.succ_ne_zero, hv.blk, hL]
      refine s_iaE hlst.rd (by omega) (by simpa using hlt2) fun b1 o1 c1 _ hE => ?_
      simp only [Int.toNat_natCast, List.getElem_map] at hE ⊢
      have hE1 := hE.cell 1 (show 1 < 3 by decide)
      simp only [push_cast, Nat.reduceAdd, Nat.reduceLeDiff, Nat.reduceLT, Int.reduceToNat, Nat.left_eq_add, Nat.add_eq_left, Nat.add_left_cancel_iff, Nat.reduceEqDiff, Nat.add_assoc, Nat.succ_ne_zero, hg1] at hE1
      simp only [push_cast, Nat.reduceAdd, Nat.reduceLeDiff, Nat.reduceLT, Int.reduceToNat, Nat.left_eq_add, Nat.add_eq_left, Nat.add_left_cancel_iff, Nat.reduceEqDiff, Nat.add_assoc, Nat.succ_ne_zero, hE1]
      refine br_intro (fun e2 => ?_) fun e2 => ?_
      · have e : t.tab[i].1 = (v, n) := by
          simp at e1 e2
          exact Prod.ext e1 e2
        have hat : t.tab[i]? = some ((v, n), t.tab[i].2) := by
          rw [List.getElem?_eq_getElem hlt2, ← e]
        refine h1 i t.tab[i].2 hat ?_
        have := lookup_of_mem hv.ok.nd (List.getElem_mem hlt2)
        rw [e] at this
        exact this
      · simp only [push_cast, Nat.reduceAdd, Nat.reduceLeDiff, Nat.reduceLT, Int.reduceToNat, Nat.left_eq_add, Nat.add_eq_left, Nat.add_left_cancel_iff, Nat.reduceEqDiff, Nat.add_assoc, Nat.succ_ne_zero, hw]
        refine hnext fun e => ?_
        rw [e] at e2
        simp at e2
    · simp only [push_cast, Nat.reduceAdd, Nat.reduceLeDiff, Nat.reduceLT, Int.reduceToNat, Nat.left_eq_add, Nat.add_eq_left, Nat.add_left_cancel_iff, Nat.reduceEqDiff, Nat.add_assoc, Nat.succ_ne_zero, hw]
      refine hnext fun e => ?_
      rw [e] at e1
      simp at e1
  · obtain ⟨k, hk⟩ := List.mem_iff_getElem?.1 hp
    exact hno k p (by have := (List.getElem?_eq_some_iff.1 hk).1; omega) hk

theorem build_mem (v n : Int) (b : Bool) : opS Tryz.prog (S.build 190 [(0, i64 v), (1, i64 n), (2, .bool b)]) K w = K (.agg (memC ((v, n), b)).toArray) w := by
  rw [opS_build _ rfl]; rfl

theorem radd_spec {q nb : Nat} {Lv : Value} {t : VT} {v n : Int} {b : Bool} (hv : RRep w q nb Lv t) (h : ∀ w' Lv', RRep w' q nb Lv' (t.add v n b).1 → Fr (rfp q nb Lv) w w' → (blkS Lv' = blkS Lv ∨ New w Lv') → K (i64 (t.add v n b).2) w') :
    CallsR Tryz.prog 49 #[pt q 0, i64 v, i64 n, .bool b] K w := by
  apply c49
  unfold p49
  simp only [push_cast, Nat.reduceAdd, Nat.reduceLeDiff, Nat.reduceLT, Int.reduceToNat, Nat.left_eq_add, Nat.add_eq_left, Nat.add_left_cancel_iff, Nat.reduceEqDiff, Nat.add_assoc, Nat.succ_ne_zero]
  refine rright_spec' hv ?_
  have hok := VT.ok_add hv.ok v n b
  have hsmall := VT.small hv.ok
  by_cases hr : t.right v n
  · rw [VT.add, if_pos hr] at h hok
    simp only [hr, push_cast, Nat.reduceAdd, Nat.reduceLeDiff, Nat.reduceLT, Int.reduceToNat, Nat.left_eq_add, Nat.add_eq_left, Nat.add_left_cancel_iff, Nat.reduceEqDiff, Nat.add_assoc, Nat.succ_ne_zero]
    refine rfind_spec hv (fun hg => ?_) fun k b0 hat hg => ?_
    · rw [VT.setL_new hg] at h hok
      have b1 : decide ((-1 : Int) ≥ 0) = false := rfl
      simp only [push_cast, Nat.reduceAdd, Nat.reduceLeDiff, Nat.reduceLT, Int.reduceToNat, Nat.left_eq_add, Nat.add_eq_left, Nat.add_left_cancel_iff, Nat.reduceEqDiff, Nat.add_assoc, Nat.succ_ne_zero, b1]
      refine s_bs0 fun vA WA hA fA nA => ?_
      have hpA := fA.heap hv.blk (fun h => h)
      simp only [push_cast, Nat.reduceAdd, Nat.reduceLeDiff, Nat.reduceLT, Int.reduceToNat, Nat.left_eq_add, Nat.add_eq_left, Nat.add_left_cancel_iff, Nat.reduceEqDiff, Nat.add_assoc, Nat.succ_ne_zero, hpA]
      refine s_app (sz := 3) (by_ := 24) (by rfl) (by decide) hA (hv.lst.rd.fr fA (fun _ _ h => h)) (memC_one _) (by simp; omega) fun vB WB hB bB fB => ?_
      rw [List.nil_append] at hB
      simp only [build_mem, push_cast, Nat.reduceAdd, Nat.reduceLeDiff, Nat.reduceLT, Int.reduceToNat, Nat.left_eq_add, Nat.add_eq_left, Nat.add_left_cancel_iff, Nat.reduceEqDiff, Nat.add_assoc, Nat.succ_ne_zero]
      refine s_bs1 (sz := 3) (x := memC ((v, n), b)) rfl (by rfl) (by decide) (by decide) fun vC WC hC fC nC => ?_
      have hB' := hB.fr fC (fun _ _ h => h)
      refine s_app (sz := 3) (by_ := 24) (by rfl) (by decide) hB' hC.rd (by simp [memC]; exact ⟨rfl, rfl, rfl⟩) (by simp; omega) fun vD WD hD bD fD => ?_
      have hnB : New w vB := fun x hx => by
        rcases bB with bB | bB
        · exact nA x (bB ▸ hx)
        · exact Nat.le_trans fA.size (bB x hx)
      have hnD : New w vD := fun x hx => by
        rcases bD with bD | bD
        · exact hnB x (bD ▸ hx)
        · exact Nat.le_trans (Nat.le_trans fA.size (Nat.le_trans fB.size fC.size)) (bD x hx)
      have hF : Fr none_ w WD := ((fA.trans_new fB (fun x hx hh => by have := nA x hh; omega)).trans fC).trans_new fD (fun x hx hh => by have := hnB x hh; omega)
      have hp := hF.heap hv.blk (fun h => h)
      have hoD := hD.one
      have hq := hv.lt
      simp only [push_cast, Nat.reduceAdd, Nat.reduceLeDiff, Nat.reduceLT, Int.reduceToNat, Nat.left_eq_add, Nat.add_eq_left, Nat.add_left_cancel_iff, Nat.reduceEqDiff, Nat.add_assoc, Nat.succ_ne_zero, hp, hoD]
      have hqn := hv.qn
      refine h _ vD ⟨?_, ?_, ?_, hv.qn, fun x hx => ⟨fun e => by have := hnD x hx; omega, fun e => by have := hnD x hx; omega⟩, hok⟩ (Fr.trans (hF.mono fun _ _ h => h.elim) (Fr.wr _ _ _ _ (.inl rfl))) (.inr hnD)
      · simp only [push_cast, Nat.reduceAdd, Nat.reduceLeDiff, Nat.reduceLT, Int.reduceToNat, Nat.left_eq_add, Nat.add_eq_left, Nat.add_left_cancel_iff, Nat.reduceEqDiff, Nat.add_assoc, Nat.succ_ne_zero, hp]
      · rw [List.map_append]
        exact hD.fr (Fr.wr (fp := fun x => x = q) WD q 1 [vD] rfl) (fun x hx e => by have := hnD x hx; omega)
      · have := hF.heap hv.nat (fun h => h)
        have hne : nb ≠ q := fun e => hqn e.symm
        simp only [push_cast, Nat.reduceAdd, Nat.reduceLeDiff, Nat.reduceLT, Int.reduceToNat, Nat.left_eq_add, Nat.add_eq_left, Nat.add_left_cancel_iff, Nat.reduceEqDiff, Nat.add_assoc, Nat.succ_ne_zero, hne, this]
    · rw [VT.setL_at hv.ok.nd hat] at h hok
      have hk := (List.getElem?_eq_some_iff.1 hat).1
      obtain ⟨a, c, hL⟩ := hv.lst.rd.form
      rw [List.length_map] at hL
      have hlst := hv.lst
      rw [hL] at hlst
      have b1 : decide ((k : Int) ≥ 0) = true := decide_eq_true (by omega)
      simp only [push_cast, Nat.reduceAdd, Nat.reduceLeDiff, Nat.reduceLT, Int.reduceToNat, Nat.left_eq_add, Nat.add_eq_left, Nat.add_left_cancel_iff, Nat.reduceEqDiff, Nat.add_assoc, Nat.succ_ne_zero, b1, hv.blk, hL]
      refine s_iaE hlst.rd (by omega) (by simpa using hk) fun b1 o1 c1 hv1 _ => ?_
      simp only [Int.toNat_natCast]
      rw [List.length_map, Value.slice.injEq] at hv1
      obtain ⟨rfl, _, rfl⟩ := hv1
      have hl2 : OwnE 190 3 w (.slice (some ⟨b1, o1, none⟩) (t.tab.map memC).length c) (t.tab.map memC) := by rw [List.length_map]; exact hlst
      obtain ⟨g1, g2⟩ := hl2.putF (i := k) (f := 2) (by simpa using hk) (by decide) (.bool b)
      have hlq := hv.lq b1 (by rw [hL]; rfl)
      have ne1 : q ≠ b1 := fun e => hlq.1 e.symm
      have ne2 : nb ≠ b1 := fun e => hlq.2 e.symm
      rw [Nat.add_assoc] at g1 g2
      simp only [push_cast, Nat.reduceAdd, Nat.reduceLeDiff, Nat.reduceLT, Int.reduceToNat, Nat.left_eq_add, Nat.add_eq_left, Nat.add_left_cancel_iff, Nat.reduceEqDiff, Nat.add_assoc, Nat.succ_ne_zero, g1]
      refine h _ (.slice (some ⟨b1, o1, none⟩) t.tab.length c) ⟨?_, ?_, ?_, hv.qn, fun x hx => by cases hx; exact hlq, hok⟩ (Fr.wr _ _ _ _ (.inr (.inr (by rw [hL]; rfl)))) (.inl (by rw [hL]))
      · simp only [push_cast, Nat.reduceAdd, Nat.reduceLeDiff, Nat.reduceLT, Int.reduceToNat, Nat.left_eq_add, Nat.add_eq_left, Nat.add_left_cancel_iff, Nat.reduceEqDiff, Nat.add_assoc, Nat.succ_ne_zero, ne1, hv.blk, hL]
      · have e : (t.tab.map memC).set k (((t.tab.map memC)[k]'(by simpa using hk)).set 2 (.bool b)) = (t.tab.set k ((v, n), b)).map memC := by
          rw [List.map_set]
          congr 1
          rw [List.getElem_map]
          have : t.tab[k] = ((v, n), b0) := (List.getElem?_eq_some_iff.1 hat).2
          rw [this]
          rfl
        rw [e, List.length_map] at g2
        exact g2
      · simp only [push_cast, Nat.reduceAdd, Nat.reduceLeDiff, Nat.reduceLT, Int.reduceToNat, Nat.left_eq_add, Nat.add_eq_left, Nat.add_left_cancel_iff, Nat.reduceEqDiff, Nat.add_assoc, Nat.succ_ne_zero, ne2, hv.nat]
  · rw [VT.add, if_neg hr] at h
    simp only [hr, push_cast, Nat.reduceAdd, Nat.reduceLeDiff, Nat.reduceLT, Int.reduceToNat, Nat.left_eq_add, Nat.add_eq_left, Nat.add_left_cancel_iff, Nat.reduceEqDiff, Nat.add_assoc, Nat.succ_ne_zero]
    exact h w Lv hv (Fr.refl _ _) (.inl rfl)

theorem rnative_spec {q nb : Nat} {Lv : Value} {t : VT} {n v : Int} (hv : RRep w q nb Lv t) (h : ∀ w', RRep w' q nb Lv (t.native n v).1 → Fr (rfp q nb Lv) w w' → K (i64 (t.native n v).2) w') :
    CallsR Tryz.prog 51 #[pt q 0, i64 n, i64 v] K w := by
  apply c51
  unfold p51
  simp only [push_cast, Nat.reduceAdd, Nat.reduceLeDiff, Nat.reduceLT, Int.reduceToNat, Nat.left_eq_add, Nat.add_eq_left, Nat.add_left_cancel_iff, Nat.reduceEqDiff, Nat.add_assoc, Nat.succ_ne_zero, hv.blk]
  have hbad : ¬ (t.port n ∧ 0 ≤ v ∧ v ≤ 4094) → K (i64 1) w := fun hb => by
    have := h w
    rw [VT.native, if_neg hb] at this
    exact this hv (Fr.refl _ _)
  refine br_dec (fun h1 => hbad fun h2 => by have := h2.1.1; omega) fun h1 => ?_
  refine br_dec (fun h2 => hbad fun h3 => by have := h3.1.2; omega) fun h2 => ?_
  have hp : t.port n := ⟨by omega, by omega⟩
  refine br_dec (fun h2 => hbad (by omega)) fun h2 => ?_
  refine br_dec (fun h3 => hbad (by omega)) fun h3 => ?_
  rw [VT.native, if_pos ⟨hp, by omega, by omega⟩] at h
  have hok := VT.ok_native hv.ok n v
  rw [VT.native, if_pos ⟨hp, by omega, by omega⟩] at hok
  rw [opS_iaS, if_pos (show 0 ≤ n ∧ n < _ from hp)]
  have hlt : n.toNat < t.nat.length := by have := hp.1; have := hp.2; omega
  simp only [push_cast, Nat.reduceAdd, Nat.reduceLeDiff, Nat.reduceLT, Int.reduceToNat, Nat.left_eq_add, Nat.add_eq_left, Nat.add_left_cancel_iff, Nat.reduceEqDiff, Nat.add_assoc, Nat.succ_ne_zero, hv.nat, Nat.mul_one, List.length_map]
  have hle : decide (n.toNat + 1 ≤ t.nat.length) = true := decide_eq_true (by omega)
  have hqn := hv.qn
  simp only [hle, push_cast, Nat.reduceAdd, Nat.reduceLeDiff, Nat.reduceLT, Int.reduceToNat, Nat.left_eq_add, Nat.add_eq_left, Nat.add_left_cancel_iff, Nat.reduceEqDiff, Nat.add_assoc, Nat.succ_ne_zero]
  refine h _ ⟨?_, hv.lst.fr (Fr.wr (fp := fun b => b = nb) w nb n.toNat [i64 v] rfl) (fun b hb e => (hv.lq b hb).2 e), ?_, hqn, hv.lq, hok⟩ (Fr.wr _ _ _ _ (.inr (.inl rfl)))
  · simp only [push_cast, Nat.reduceAdd, Nat.reduceLeDiff, Nat.reduceLT, Int.reduceToNat, Nat.left_eq_add, Nat.add_eq_left, Nat.add_left_cancel_iff, Nat.reduceEqDiff, Nat.add_assoc, Nat.succ_ne_zero, hqn, hv.blk, List.length_set]
  · simp only [push_cast, Nat.reduceAdd, Nat.reduceLeDiff, Nat.reduceLT, Int.reduceToNat, Nat.left_eq_add, Nat.add_eq_left, Nat.add_left_cancel_iff, Nat.reduceEqDiff, Nat.add_assoc, Nat.succ_ne_zero, hv.nat]
    rw [splice_ints _ _ hlt]

end Go.Gx.S.Vl
end

section
/- What the functions of this program ask. -/
set_option linter.unusedVariables false
set_option maxRecDepth 100000
namespace Go.Gx.S
open Go Go.Gx Go.Proofs
-- gemel/gemelref08.New
def p100 (P : Program) (K : Value → World → Prop) (x0 : Value) : World → Prop :=
  opS P (S.binI .lss x0 (.int .i64 1)) fun x1 =>
  brn x1 (
    K (.tuple #[(.pointer none), (.int .i64 1)])
  ) (
    opS P (S.binI .gtr x0 (.int .i64 1024)) fun x2 =>
    brn x2 (
      K (.tuple #[(.pointer none), (.int .i64 1)])
    ) (
      opS P (S.build 154 [(0, x0)]) fun x3 =>
      opS P (S.box 154 x3) fun x4 =>
      K (.tuple #[x4, (.int .i64 0)])
    )
  )
instance fnb100 : FnB Tryz.prog 100 := ⟨Tryz.call100⟩
theorem e100 : p100 Tryz.prog = fun K x0 => denF Tryz.prog Tryz.f100 [x0] K := by kernel_rfl
theorem c100 {K : Value → World → Prop} {x0 : Value} {w : World} (h : p100 Tryz.prog K x0 w) : CallsR Tryz.prog 100 #[x0] K w := by
  rw [e100] at h
  exact denF_sound mixed Tryz.func100 h

-- (*gemel/gemelref08.Table).Learn
instance fnb149 : FnB Tryz.prog 149 := ⟨Tryz.call149⟩
instance fnb150 : FnB Tryz.prog 150 := ⟨Tryz.call150⟩
instance fnb207 : FnB Tryz.prog 207 := ⟨Tryz.call207⟩
def p208 (P : Program) (K : Value → World → Prop) (x0 : Value) (x1 : Value) (x2 : Value) : World → Prop :=
  opS P (S.box 53 x2) fun x3 =>
  jnJ 0 (
    K (.int .i64 (-1))
  ) fun j0 =>
  loopJ 1 (fun j1 x4 =>
    opS P (S.nc x0) fun x5 =>
    opS P (S.fa 154 x5 1) fun x6 =>
    opS P (S.ld 147 x6) fun x7 =>
    opS P (S.len x7) fun x8 =>
    opS P (S.binI .lss x4 x8) fun x9 =>
    brn x9 (
      drw <|
      opS P (S.nc x0) fun x10 =>
      opS P (S.fa 154 x10 1) fun x11 =>
      opS P (S.ld 147 x11) fun x12 =>
      opS P (S.ia 147 x12 x4) fun x13 =>
      opS P (S.fa 80 x13 0) fun x14 =>
      opS P (S.ld 3 x14) fun x15 =>
      opS P (S.binI .eql x15 x1) fun x16 =>
      brn x16 (
        opS P (S.nc x0) fun x17 =>
        opS P (S.fa 154 x17 1) fun x18 =>
        opS P (S.ld 147 x18) fun x19 =>
        opS P (S.ia 147 x19 x4) fun x20 =>
        opS P (S.fa 80 x20 1) fun x21 =>
        opS P (S.ld 53 x21) fun x22 =>
        opS P (S.ld 53 x3) fun x23 =>
        opS P (S.binG .eql 53 x22 x23) fun x24 =>
        brn x24 (
          K x4
        ) (
          opS P (S.binI .add x4 (.int .i64 1)) fun x25 =>
          j1 x25
        )
      ) (
        opS P (S.binI .add x4 (.int .i64 1)) fun x17 =>
        j1 x17
      )
    ) (
      j0
    )
  ) (.int .i64 0)
instance fnb208 : FnB Tryz.prog 208 := ⟨Tryz.call208⟩
theorem e208 : p208 Tryz.prog = fun K x0 x1 x2 => denF Tryz.prog Tryz.f208 [x0, x1, x2] K := by kernel_rfl
theorem c208 {K : Value → World → Prop} {x0 x1 x2 : Value} {w : World} (h : p208 Tryz.prog K x0 x1 x2 w) : CallsR Tryz.prog 208 #[x0, x1, x2] K w := by
  rw [e208] at h
  exact denF_sound mixed Tryz.func208 h

-- (*gemel/gemelref08.Table).put
instance fnb209 : FnB Tryz.prog 209 := ⟨Tryz.call209⟩
instance fnb219 : FnB Tryz.prog 219 := ⟨Tryz.call219⟩
instance fnb221 : FnB Tryz.prog 221 := ⟨Tryz.call221⟩
instance fnb237 : FnB Tryz.prog 237 := ⟨Tryz.call237⟩
instance fnb241 : FnB Tryz.prog 241 := ⟨Tryz.call241⟩
end Go.Gx.S
-- 100 208 209 149 221 150 219 207 237 241
end

section
/- What the functions of this program ask. -/
set_option linter.unusedVariables false
set_option maxRecDepth 100000
namespace Go.Gx.S
open Go Go.Gx Go.Proofs
-- gemel/gemelref08.Same
instance fnb88 : FnB Tryz.prog 88 := ⟨Tryz.call88⟩
instance fnb89 : FnB Tryz.prog 89 := ⟨Tryz.call89⟩
instance fnb169 : FnB Tryz.prog 169 := ⟨Tryz.call169⟩
instance fnb170 : FnB Tryz.prog 170 := ⟨Tryz.call170⟩
instance fnb171 : FnB Tryz.prog 171 := ⟨Tryz.call171⟩
instance fnb173 : FnB Tryz.prog 173 := ⟨Tryz.call173⟩
instance fnb174 : FnB Tryz.prog 174 := ⟨Tryz.call174⟩
instance fnb175 : FnB Tryz.prog 175 := ⟨Tryz.call175⟩
instance fnb176 : FnB Tryz.prog 176 := ⟨Tryz.call176⟩
instance fnb222 : FnB Tryz.prog 222 := ⟨Tryz.call222⟩
instance fnb225 : FnB Tryz.prog 225 := ⟨Tryz.call225⟩
instance fnb226 : FnB Tryz.prog 226 := ⟨Tryz.call226⟩
end Go.Gx.S
-- 175 225 174 176 226 173 89 169 170 171 222 88
end

section
/- Lists that rise. -/
namespace Go.Gx
open Go

theorem eq_of_rising {α : Type} {r : α → α → Prop} (hirr : ∀ a, ¬ r a a) (has : ∀ a b, r a b → ¬ r b a) : ∀ {l k : List α}, l.Pairwise r → k.Pairwise r → (∀ x, x ∈ l ↔ x ∈ k) → l = k
  | [], [], _, _, _ => rfl
  | [], b :: k, _, _, h => absurd ((h b).2 (List.mem_cons_self ..)) (by simp)
  | a :: l, [], _, _, h => absurd ((h a).1 (List.mem_cons_self ..)) (by simp)
  | a :: l, b :: k, h1, h2, h => by
    rw [List.pairwise_cons] at h1 h2
    have hab : a = b := by
      rcases List.mem_cons.1 ((h a).1 (List.mem_cons_self ..)) with e | e
      · exact e
      · rcases List.mem_cons.1 ((h b).2 (List.mem_cons_self ..)) with e2 | e2
        · exact e2.symm
        · exact absurd (h1.1 b e2) (has _ _ (h2.1 a e))
    subst hab
    congr 1
    refine eq_of_rising hirr has h1.2 h2.2 fun x => ⟨fun hx => ?_, fun hx => ?_⟩
    · rcases List.mem_cons.1 ((h x).1 (List.mem_cons_of_mem _ hx)) with e | e
      · subst e; exact absurd (h1.1 x hx) (hirr x)
      · exact e
    · rcases List.mem_cons.1 ((h x).2 (List.mem_cons_of_mem _ hx)) with e | e
      · subst e; exact absurd (h2.1 x hx) (hirr x)
      · exact e

end Go.Gx
end

section
/- Bytes that are compared; entries in order; what changes make of them. -/
namespace Go.Gx
open Go
variable {P : Program} {K : Value → World → Prop} {w : World}

/-! ### A function without a body -/

/-! ### Addresses as numbers -/

def macN (m : Mac) : Int := ((((m.b0 * 256 + m.b1) * 256 + m.b2) * 256 + m.b3) * 256 + m.b4) * 256 + m.b5
def macL (m : Mac) : List Int := [m.b0, m.b1, m.b2, m.b3, m.b4, m.b5]
def cmpI (a b : Int) : Int := if a < b then -1 else if b < a then 1 else 0
def cmpM (a b : Mac) : Int := cmpI (macN a) (macN b)

theorem macL_ok {m : Mac} (h : m.ok) : ∀ x ∈ macL m, isB x := by
  obtain ⟨h0, h1, h2, h3, h4, h5⟩ := h
  intro x hx
  simp only [macL, List.mem_cons, List.not_mem_nil, or_false] at hx
  rcases hx with rfl | rfl | rfl | rfl | rfl | rfl <;> assumption

theorem macN_inj {a b : Mac} (ha : a.ok) (hb : b.ok) (h : macN a = macN b) : a = b := by
  obtain ⟨a0, a1, a2, a3, a4, a5⟩ := ha
  obtain ⟨b0, b1, b2, b3, b4, b5⟩ := hb
  unfold macN at h
  unfold isB at *
  apply Mac.ext <;> omega
end Go.Gx
end

section
/- Rows that are sorted. -/
namespace Go.Gx
open Go Go.Sort
variable {P : Program} {K : Value → World → Prop} {w : World}

end Go.Gx
end

section
/- Rows of structs that are sorted by a function. -/
namespace Go.Gx
open Go Go.Sort Go.Proofs
variable {P : Program} {K : Value → World → Prop} {w : World}

/-- draws, and new blocks: nothing else -/
def Gr (w w' : World) : Prop := ∃ q os, w' = grow (w.drewN q) os
theorem Gr.refl (w : World) : Gr w w := ⟨0, #[], by rw [grow_empty]; rfl⟩
theorem Gr.step_alloc {w w' : World} (h : Gr w w') (o : Obj) : Gr w (w'.alloc o) := by
  obtain ⟨q, os, rfl⟩ := h
  exact ⟨q, os ++ #[o], by rw [alloc_eq_grow, grow_grow]⟩
theorem Gr.step_drew {w w' : World} (h : Gr w w') : Gr w w'.drew := by
  obtain ⟨q, os, rfl⟩ := h
  exact ⟨q + 1, os, by rw [drew_grow]; rfl⟩
theorem Gr.trans {w w' w'' : World} (h : Gr w w') (h' : Gr w' w'') : Gr w w'' := by
  obtain ⟨q, os, rfl⟩ := h
  obtain ⟨q', os', rfl⟩ := h'
  refine ⟨q + q', os ++ os', ?_⟩
  show grow ((grow (w.drewN q) os).drewN q') os' = _
  rw [← grow_grow]
  have : (grow (w.drewN q) os).drewN q' = grow (w.drewN (q + q')) os := by
    unfold grow World.drewN
    simp [Nat.add_assoc]
  rw [this]
theorem Gr.heap {w w' : World} (h : Gr w w') {b : Nat} {o : Obj} (hb : w.heap[b]? = some o) : w'.heap[b]? = some o := by
  obtain ⟨q, os, rfl⟩ := h
  show (w.heap ++ os)[b]? = _
  rw [Array.getElem?_append_left (lt_of_heap hb)]
  exact hb
theorem Gr.fr {w w' : World} (h : Gr w w') : Fr none_ w w' := by
  obtain ⟨q, os, rfl⟩ := h
  refine ⟨?_, fun x hx hn => ?_, fun a ha => ?_, rfl, rfl, rfl⟩
  · show w.heap.size ≤ (w.heap ++ os).size
    rw [Array.size_append]; omega
  · show (w.heap ++ os)[x]? = _
    rw [Array.getElem?_append_left hx]
  · rw [frozen_eq, frozen_eq]
    show (match (w.heap ++ os)[a.block]? with | some (.cells _ _ fz) => (decide (fz.1 ≤ a.off) && decide (a.off < fz.2)) | _ => false) = _
    rw [Array.getElem?_append_left ha]
    rfl

end Go.Gx
end
