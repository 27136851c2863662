/- What the functions of this program ask. -/
import Derived.Test.YtdmkkbgjidpmkaaTy
set_option linter.unusedVariables false
set_option maxRecDepth 100000
namespace Go.Gx.S
open Go Go.Gx Go.Proofs
-- (*gemel/gemelref08.Table).Look
def p12 (P : Program) (K : Value → World → Prop) (x0 : Value) (x1 : Value) (x2 : Value) : World → Prop :=
  opS P (S.box 24 x2) fun x3 =>
  opS P (S.alloc 33) fun x4 =>
  opS P (S.ld 24 x3) fun x5 =>
  opS P (S.cl 27 [x0, x1, x5]) fun x6 =>
  opS P (S.binI .lss x6 (.int .i64 0)) fun x7 =>
  brn x7 (
    opS P (S.build 33 []) fun x8 =>
    opS P (S.st 33 x4 x8) fun x9 =>
    opS P (S.ld 33 x4) fun x10 =>
    K (.tuple #[x10, (.bool false)])
  ) (
    opS P (S.nc x0) fun x8 =>
    opS P (S.fa 40 x8 1) fun x9 =>
    opS P (S.ld 37 x9) fun x10 =>
    opS P (S.ia 37 x10 x6) fun x11 =>
    opS P (S.ld 33 x11) fun x12 =>
    opS P (S.st 33 x4 x12) fun x13 =>
    opS P (S.ld 33 x4) fun x14 =>
    K (.tuple #[x14, (.bool true)])
  )
instance fnb12 : FnB Try.prog 12 := ⟨Try.call12⟩
theorem e12 : p12 Try.prog = fun K x0 x1 x2 => denF Try.prog Try.f12 [x0, x1, x2] K := by kernel_rfl
theorem c12 {K : Value → World → Prop} {x0 x1 x2 : Value} {w : World} (h : p12 Try.prog K x0 x1 x2 w) : CallsR Try.prog 12 #[x0, x1, x2] K w := by
  rw [e12] at h
  exact denF_sound mixed Try.func12 h

-- gemel/gemelref08.New
def p24 (P : Program) (K : Value → World → Prop) (x0 : Value) : World → Prop :=
  opS P (S.binI .lss x0 (.int .i64 1)) fun x1 =>
  brn x1 (
    K (.tuple #[(.pointer none), (.int .i64 1)])
  ) (
    opS P (S.binI .gtr x0 (.int .i64 1024)) fun x2 =>
    brn x2 (
      K (.tuple #[(.pointer none), (.int .i64 1)])
    ) (
      opS P (S.build 40 [(0, x0)]) fun x3 =>
      opS P (S.box 40 x3) fun x4 =>
      K (.tuple #[x4, (.int .i64 0)])
    )
  )
instance fnb24 : FnB Try.prog 24 := ⟨Try.call24⟩
theorem e24 : p24 Try.prog = fun K x0 => denF Try.prog Try.f24 [x0] K := by kernel_rfl
theorem c24 {K : Value → World → Prop} {x0 : Value} {w : World} (h : p24 Try.prog K x0 w) : CallsR Try.prog 24 #[x0] K w := by
  rw [e24] at h
  exact denF_sound mixed Try.func24 h

-- (*gemel/gemelref08.Table).Find
def p27 (P : Program) (K : Value → World → Prop) (x0 : Value) (x1 : Value) (x2 : Value) : World → Prop :=
  opS P (S.box 24 x2) fun x3 =>
  jnJ 0 (
    K (.int .i64 (-1))
  ) fun j0 =>
  loopJ 1 (fun j1 x4 =>
    opS P (S.nc x0) fun x5 =>
    opS P (S.fa 40 x5 1) fun x6 =>
    opS P (S.ld 37 x6) fun x7 =>
    opS P (S.len x7) fun x8 =>
    opS P (S.binI .lss x4 x8) fun x9 =>
    brn x9 (
      drw <|
      opS P (S.nc x0) fun x10 =>
      opS P (S.fa 40 x10 1) fun x11 =>
      opS P (S.ld 37 x11) fun x12 =>
      opS P (S.ia 37 x12 x4) fun x13 =>
      opS P (S.fa 33 x13 0) fun x14 =>
      opS P (S.ld 3 x14) fun x15 =>
      opS P (S.binI .eql x15 x1) fun x16 =>
      brn x16 (
        opS P (S.nc x0) fun x17 =>
        opS P (S.fa 40 x17 1) fun x18 =>
        opS P (S.ld 37 x18) fun x19 =>
        opS P (S.ia 37 x19 x4) fun x20 =>
        opS P (S.fa 33 x20 1) fun x21 =>
        opS P (S.ld 24 x21) fun x22 =>
        opS P (S.ld 24 x3) fun x23 =>
        opS P (S.binG .eql 24 x22 x23) fun x24 =>
        brn x24 (
          K x4
        ) (
          opS P (S.binI .add x4 (.int .i64 1)) fun x25 =>
          j1 x25
        )
      ) (
        opS P (S.binI .add x4 (.int .i64 1)) fun x17 =>
        j1 x17
      )
    ) (
      j0
    )
  ) (.int .i64 0)
instance fnb27 : FnB Try.prog 27 := ⟨Try.call27⟩
theorem e27 : p27 Try.prog = fun K x0 x1 x2 => denF Try.prog Try.f27 [x0, x1, x2] K := by kernel_rfl
theorem c27 {K : Value → World → Prop} {x0 x1 x2 : Value} {w : World} (h : p27 Try.prog K x0 x1 x2 w) : CallsR Try.prog 27 #[x0, x1, x2] K w := by
  rw [e27] at h
  exact denF_sound mixed Try.func27 h

-- (*gemel/gemelref08.Table).Learn
def p44 (P : Program) (K : Value → World → Prop) (x0 : Value) (x1 : Value) (x2 : Value) (x3 : Value) (x4 : Value) : World → Prop :=
  opS P (S.box 24 x2) fun x5 =>
  opS P (S.ld 24 x5) fun x6 =>
  opS P (S.cl 60 [x1, x6, x3]) fun x7 =>
  opS P (S.un .not x7) fun x8 =>
  brn x8 (
    K (.tuple #[(.int .i64 0), (.int .i64 1)])
  ) (
    opS P (S.binI .lss x4 (.int .i64 0)) fun x9 =>
    brn x9 (
      K (.tuple #[(.int .i64 0), (.int .i64 1)])
    ) (
      opS P (S.binI .gtr x4 (.int .i64 1099511627776)) fun x10 =>
      brn x10 (
        K (.tuple #[(.int .i64 0), (.int .i64 1)])
      ) (
        opS P (S.ld 24 x5) fun x11 =>
        opS P (S.cl 27 [x0, x1, x11]) fun x12 =>
        opS P (S.binI .geq x12 (.int .i64 0)) fun x13 =>
        brn x13 (
          opS P (S.nc x0) fun x14 =>
          opS P (S.fa 40 x14 1) fun x15 =>
          opS P (S.ld 37 x15) fun x16 =>
          opS P (S.ia 37 x16 x12) fun x17 =>
          opS P (S.fa 33 x17 4) fun x18 =>
          opS P (S.ld 4 x18) fun x19 =>
          brn x19 (
            K (.tuple #[(.int .i64 0), (.int .i64 0)])
          ) (
            opS P (S.nc x0) fun x20 =>
            opS P (S.fa 40 x20 1) fun x21 =>
            opS P (S.ld 37 x21) fun x22 =>
            opS P (S.ia 37 x22 x12) fun x23 =>
            opS P (S.fa 33 x23 2) fun x24 =>
            opS P (S.ld 3 x24) fun x25 =>
            opS P (S.nc x0) fun x26 =>
            opS P (S.fa 40 x26 1) fun x27 =>
            opS P (S.ld 37 x27) fun x28 =>
            opS P (S.ia 37 x28 x12) fun x29 =>
            opS P (S.fa 33 x29 2) fun x30 =>
            opS P (S.st 3 x30 x3) fun x31 =>
            opS P (S.nc x0) fun x32 =>
            opS P (S.fa 40 x32 1) fun x33 =>
            opS P (S.ld 37 x33) fun x34 =>
            opS P (S.ia 37 x34 x12) fun x35 =>
            opS P (S.fa 33 x35 3) fun x36 =>
            opS P (S.st 3 x36 x4) fun x37 =>
            opS P (S.binI .eql x25 x3) fun x38 =>
            brn x38 (
              K (.tuple #[(.int .i64 0), (.int .i64 0)])
            ) (
              K (.tuple #[(.int .i64 2), (.int .i64 0)])
            )
          )
        ) (
          drw <|
          opS P (S.nc x0) fun x14 =>
          opS P (S.fa 40 x14 1) fun x15 =>
          opS P (S.ld 37 x15) fun x16 =>
          opS P (S.len x16) fun x17 =>
          opS P (S.nc x0) fun x18 =>
          opS P (S.fa 40 x18 0) fun x19 =>
          opS P (S.ld 3 x19) fun x20 =>
          opS P (S.binI .geq x17 x20) fun x21 =>
          brn x21 (
            K (.tuple #[(.int .i64 0), (.int .i64 3)])
          ) (
            opS P (S.ld 24 x5) fun x22 =>
            opS P (S.build 33 [(0, x1), (1, x22), (2, x3), (3, x4)]) fun x23 =>
            opS P (S.cl 61 [x0, x23]) fun x24 =>
            K (.tuple #[(.int .i64 1), (.int .i64 0)])
          )
        )
      )
    )
  )
instance fnb44 : FnB Try.prog 44 := ⟨Try.call44⟩
theorem e44 : p44 Try.prog = fun K x0 x1 x2 x3 x4 => denF Try.prog Try.f44 [x0, x1, x2, x3, x4] K := by kernel_rfl
theorem c44 {K : Value → World → Prop} {x0 x1 x2 x3 x4 : Value} {w : World} (h : p44 Try.prog K x0 x1 x2 x3 x4 w) : CallsR Try.prog 44 #[x0, x1, x2, x3, x4] K w := by
  rw [e44] at h
  exact denF_sound mixed Try.func44 h

-- (*gemel/gemelref08.Table).Put
def p45 (P : Program) (K : Value → World → Prop) (x0 : Value) (x1 : Value) (x2 : Value) (x3 : Value) : World → Prop :=
  opS P (S.box 24 x2) fun x4 =>
  opS P (S.ld 24 x4) fun x5 =>
  opS P (S.cl 60 [x1, x5, x3]) fun x6 =>
  opS P (S.un .not x6) fun x7 =>
  brn x7 (
    K (.int .i64 1)
  ) (
    opS P (S.ld 24 x4) fun x8 =>
    opS P (S.build 33 [(0, x1), (1, x8), (2, x3), (4, (.bool true))]) fun x9 =>
    opS P (S.alloc 33) fun x10 =>
    opS P (S.st 33 x10 x9) fun x11 =>
    opS P (S.ld 24 x4) fun x12 =>
    opS P (S.cl 27 [x0, x1, x12]) fun x13 =>
    opS P (S.binI .geq x13 (.int .i64 0)) fun x14 =>
    brn x14 (
      drw <|
      opS P (S.nc x0) fun x15 =>
      opS P (S.fa 40 x15 1) fun x16 =>
      opS P (S.ld 37 x16) fun x17 =>
      opS P (S.ld 33 x10) fun x18 =>
      opS P (S.ia 37 x17 x13) fun x19 =>
      opS P (S.st 33 x19 x18) fun x20 =>
      K (.int .i64 0)
    ) (
      drw <|
      opS P (S.nc x0) fun x15 =>
      opS P (S.fa 40 x15 1) fun x16 =>
      opS P (S.ld 37 x16) fun x17 =>
      opS P (S.len x17) fun x18 =>
      opS P (S.nc x0) fun x19 =>
      opS P (S.fa 40 x19 0) fun x20 =>
      opS P (S.ld 3 x20) fun x21 =>
      opS P (S.binI .geq x18 x21) fun x22 =>
      brn x22 (
        K (.int .i64 3)
      ) (
        opS P (S.ld 33 x10) fun x23 =>
        opS P (S.cl 61 [x0, x23]) fun x24 =>
        K (.int .i64 0)
      )
    )
  )
instance fnb45 : FnB Try.prog 45 := ⟨Try.call45⟩
theorem e45 : p45 Try.prog = fun K x0 x1 x2 x3 => denF Try.prog Try.f45 [x0, x1, x2, x3] K := by kernel_rfl
theorem c45 {K : Value → World → Prop} {x0 x1 x2 x3 : Value} {w : World} (h : p45 Try.prog K x0 x1 x2 x3 w) : CallsR Try.prog 45 #[x0, x1, x2, x3] K w := by
  rw [e45] at h
  exact denF_sound mixed Try.func45 h

-- (*gemel/gemelref08.Table).Remove
def p47 (P : Program) (K : Value → World → Prop) (x0 : Value) (x1 : Value) (x2 : Value) : World → Prop :=
  opS P (S.box 24 x2) fun x3 =>
  opS P (S.ld 24 x3) fun x4 =>
  opS P (S.cl 27 [x0, x1, x4]) fun x5 =>
  opS P (S.binI .lss x5 (.int .i64 0)) fun x6 =>
  brn x6 (
    K (.bool false)
  ) (
    drw <|
    opS P (S.nc x0) fun x7 =>
    opS P (S.fa 40 x7 1) fun x8 =>
    opS P (S.nc x0) fun x9 =>
    opS P (S.fa 40 x9 1) fun x10 =>
    opS P (S.binI .add x5 (.int .i64 1)) fun x11 =>
    allW (
      opS P (S.buildS 37 0 []) fun x12 =>
      opS P (S.ld 37 x8) fun x13 =>
      opS P (S.slc 37 x13 none (some x5) none) fun x14 =>
      allW (
        opS P (S.bi .append #[37, 37] 37 [x12, x14]) fun x15 =>
        opS P (S.ld 37 x10) fun x16 =>
        opS P (S.slc 37 x16 (some x11) none none) fun x17 =>
        opS P (S.bi .append #[37, 37] 37 [x15, x17]) fun x18 =>
        opS P (S.nc x0) fun x19 =>
        opS P (S.fa 40 x19 1) fun x20 =>
        opS P (S.st 37 x20 x18) fun x21 =>
        K (.bool true)
      ) (
        opS P (S.ld 37 x10) fun x15 =>
        opS P (S.bi .append #[37, 37] 37 [x12, x14]) fun x16 =>
        opS P (S.slc 37 x15 (some x11) none none) fun x17 =>
        opS P (S.bi .append #[37, 37] 37 [x16, x17]) fun x18 =>
        opS P (S.nc x0) fun x19 =>
        opS P (S.fa 40 x19 1) fun x20 =>
        opS P (S.st 37 x20 x18) fun x21 =>
        K (.bool true)
      )
    ) (
      allW (
        opS P (S.ld 37 x8) fun x12 =>
        opS P (S.slc 37 x12 none (some x5) none) fun x13 =>
        allW (
          opS P (S.buildS 37 0 []) fun x14 =>
          allW (
            opS P (S.bi .append #[37, 37] 37 [x14, x13]) fun x15 =>
            opS P (S.ld 37 x10) fun x16 =>
            opS P (S.slc 37 x16 (some x11) none none) fun x17 =>
            opS P (S.bi .append #[37, 37] 37 [x15, x17]) fun x18 =>
            opS P (S.nc x0) fun x19 =>
            opS P (S.fa 40 x19 1) fun x20 =>
            opS P (S.st 37 x20 x18) fun x21 =>
            K (.bool true)
          ) (
            opS P (S.ld 37 x10) fun x15 =>
            opS P (S.bi .append #[37, 37] 37 [x14, x13]) fun x16 =>
            opS P (S.slc 37 x15 (some x11) none none) fun x17 =>
            opS P (S.bi .append #[37, 37] 37 [x16, x17]) fun x18 =>
            opS P (S.nc x0) fun x19 =>
            opS P (S.fa 40 x19 1) fun x20 =>
            opS P (S.st 37 x20 x18) fun x21 =>
            K (.bool true)
          )
        ) (
          opS P (S.ld 37 x10) fun x14 =>
          opS P (S.buildS 37 0 []) fun x15 =>
          opS P (S.bi .append #[37, 37] 37 [x15, x13]) fun x16 =>
          opS P (S.slc 37 x14 (some x11) none none) fun x17 =>
          opS P (S.bi .append #[37, 37] 37 [x16, x17]) fun x18 =>
          opS P (S.nc x0) fun x19 =>
          opS P (S.fa 40 x19 1) fun x20 =>
          opS P (S.st 37 x20 x18) fun x21 =>
          K (.bool true)
        )
      ) (
        opS P (S.ld 37 x10) fun x12 =>
        opS P (S.slc 37 x12 (some x11) none none) fun x13 =>
        allW (
          opS P (S.buildS 37 0 []) fun x14 =>
          opS P (S.ld 37 x8) fun x15 =>
          opS P (S.slc 37 x15 none (some x5) none) fun x16 =>
          opS P (S.bi .append #[37, 37] 37 [x14, x16]) fun x17 =>
          opS P (S.bi .append #[37, 37] 37 [x17, x13]) fun x18 =>
          opS P (S.nc x0) fun x19 =>
          opS P (S.fa 40 x19 1) fun x20 =>
          opS P (S.st 37 x20 x18) fun x21 =>
          K (.bool true)
        ) (
          opS P (S.ld 37 x8) fun x14 =>
          opS P (S.buildS 37 0 []) fun x15 =>
          opS P (S.slc 37 x14 none (some x5) none) fun x16 =>
          opS P (S.bi .append #[37, 37] 37 [x15, x16]) fun x17 =>
          opS P (S.bi .append #[37, 37] 37 [x17, x13]) fun x18 =>
          opS P (S.nc x0) fun x19 =>
          opS P (S.fa 40 x19 1) fun x20 =>
          opS P (S.st 37 x20 x18) fun x21 =>
          K (.bool true)
        )
      )
    )
  )
instance fnb47 : FnB Try.prog 47 := ⟨Try.call47⟩
theorem e47 : p47 Try.prog = fun K x0 x1 x2 => denF Try.prog Try.f47 [x0, x1, x2] K := by kernel_rfl
theorem c47 {K : Value → World → Prop} {x0 x1 x2 : Value} {w : World} (h : p47 Try.prog K x0 x1 x2 w) : CallsR Try.prog 47 #[x0, x1, x2] K w := by
  rw [e47] at h
  exact denF_sound mixed Try.func47 h

-- (*gemel/gemelref08.Table).Age
def p48 (P : Program) (K : Value → World → Prop) (x0 : Value) (x1 : Value) (x2 : Value) : World → Prop :=
  opS P (S.binI .lss x1 (.int .i64 0)) fun x3 =>
  brn x3 (
    K (.slice none 0 0)
  ) (
    opS P (S.binI .gtr x1 (.int .i64 1099511627776)) fun x4 =>
    brn x4 (
      K (.slice none 0 0)
    ) (
      opS P (S.binI .lss x2 (.int .i64 0)) fun x5 =>
      brn x5 (
        K (.slice none 0 0)
      ) (
        opS P (S.binI .gtr x2 (.int .i64 1099511627776)) fun x6 =>
        brn x6 (
          K (.slice none 0 0)
        ) (
          opS P (S.cl 63 [x0, (.int .i64 0), x1, x2]) fun x7 =>
          K x7
        )
      )
    )
  )
instance fnb48 : FnB Try.prog 48 := ⟨Try.call48⟩
theorem e48 : p48 Try.prog = fun K x0 x1 x2 => denF Try.prog Try.f48 [x0, x1, x2] K := by kernel_rfl
theorem c48 {K : Value → World → Prop} {x0 x1 x2 : Value} {w : World} (h : p48 Try.prog K x0 x1 x2 w) : CallsR Try.prog 48 #[x0, x1, x2] K w := by
  rw [e48] at h
  exact denF_sound mixed Try.func48 h

-- (*gemel/gemelref08.Table).FlushPort
def p49 (P : Program) (K : Value → World → Prop) (x0 : Value) (x1 : Value) : World → Prop :=
  opS P (S.cl 63 [x0, (.int .i64 1), x1, (.int .i64 0)]) fun x2 =>
  K x2
instance fnb49 : FnB Try.prog 49 := ⟨Try.call49⟩
theorem e49 : p49 Try.prog = fun K x0 x1 => denF Try.prog Try.f49 [x0, x1] K := by kernel_rfl
theorem c49 {K : Value → World → Prop} {x0 x1 : Value} {w : World} (h : p49 Try.prog K x0 x1 w) : CallsR Try.prog 49 #[x0, x1] K w := by
  rw [e49] at h
  exact denF_sound mixed Try.func49 h

-- (*gemel/gemelref08.Table).FlushVlan
def p50 (P : Program) (K : Value → World → Prop) (x0 : Value) (x1 : Value) : World → Prop :=
  opS P (S.cl 63 [x0, (.int .i64 2), x1, (.int .i64 0)]) fun x2 =>
  K x2
instance fnb50 : FnB Try.prog 50 := ⟨Try.call50⟩
theorem e50 : p50 Try.prog = fun K x0 x1 => denF Try.prog Try.f50 [x0, x1] K := by kernel_rfl
theorem c50 {K : Value → World → Prop} {x0 x1 : Value} {w : World} (h : p50 Try.prog K x0 x1 w) : CallsR Try.prog 50 #[x0, x1] K w := by
  rw [e50] at h
  exact denF_sound mixed Try.func50 h

-- (*gemel/gemelref08.Table).put
def p61 (P : Program) (K : Value → World → Prop) (x0 : Value) (x1 : Value) : World → Prop :=
  opS P (S.box 33 x1) fun x2 =>
  jnJ 1 (fun x3 =>
    opS P (S.buildS 37 0 []) fun x4 =>
    opS P (S.nc x0) fun x5 =>
    opS P (S.fa 40 x5 1) fun x6 =>
    opS P (S.ld 37 x6) fun x7 =>
    opS P (S.slc 37 x7 none (some x3) none) fun x8 =>
    opS P (S.bi .append #[37, 37] 37 [x4, x8]) fun x9 =>
    opS P (S.ld 33 x2) fun x10 =>
    opS P (S.buildS 37 1 [(0, x10)]) fun x11 =>
    opS P (S.bi .append #[37, 37] 37 [x9, x11]) fun x12 =>
    opS P (S.nc x0) fun x13 =>
    opS P (S.fa 40 x13 1) fun x14 =>
    opS P (S.ld 37 x14) fun x15 =>
    opS P (S.slc 37 x15 (some x3) none none) fun x16 =>
    opS P (S.bi .append #[37, 37] 37 [x12, x16]) fun x17 =>
    opS P (S.nc x0) fun x18 =>
    opS P (S.fa 40 x18 1) fun x19 =>
    opS P (S.st 37 x19 x17) fun x20 =>
    K (.tuple #[])
  ) fun j0 =>
  loopJ 1 (fun j1 x3 =>
    drw <|
    opS P (S.nc x0) fun x4 =>
    opS P (S.fa 40 x4 1) fun x5 =>
    opS P (S.ld 37 x5) fun x6 =>
    opS P (S.len x6) fun x7 =>
    opS P (S.binI .lss x3 x7) fun x8 =>
    brn x8 (
      opS P (S.nc x0) fun x9 =>
      opS P (S.fa 40 x9 1) fun x10 =>
      opS P (S.ld 37 x10) fun x11 =>
      opS P (S.ia 37 x11 x3) fun x12 =>
      opS P (S.fa 33 x12 0) fun x13 =>
      opS P (S.ld 3 x13) fun x14 =>
      opS P (S.fa 33 x2 0) fun x15 =>
      opS P (S.ld 3 x15) fun x16 =>
      opS P (S.binI .lss x14 x16) fun x17 =>
      brn x17 (
        opS P (S.binI .add x3 (.int .i64 1)) fun x18 =>
        j1 x18
      ) (
        opS P (S.nc x0) fun x18 =>
        opS P (S.fa 40 x18 1) fun x19 =>
        opS P (S.ld 37 x19) fun x20 =>
        opS P (S.ia 37 x20 x3) fun x21 =>
        opS P (S.fa 33 x21 0) fun x22 =>
        opS P (S.ld 3 x22) fun x23 =>
        opS P (S.fa 33 x2 0) fun x24 =>
        opS P (S.ld 3 x24) fun x25 =>
        opS P (S.binI .eql x23 x25) fun x26 =>
        brn x26 (
          opS P (S.nc x0) fun x27 =>
          opS P (S.fa 40 x27 1) fun x28 =>
          opS P (S.ld 37 x28) fun x29 =>
          opS P (S.ia 37 x29 x3) fun x30 =>
          opS P (S.fa 33 x30 1) fun x31 =>
          opS P (S.ld 24 x31) fun x32 =>
          opS P (S.fa 33 x2 1) fun x33 =>
          opS P (S.ld 24 x33) fun x34 =>
          opS P (S.cl 23 [x32, x34]) fun x35 =>
          opS P (S.binI .lss x35 (.int .i64 0)) fun x36 =>
          brn x36 (
            opS P (S.binI .add x3 (.int .i64 1)) fun x37 =>
            j1 x37
          ) (
            j0 x3
          )
        ) (
          j0 x3
        )
      )
    ) (
      j0 x3
    )
  ) (.int .i64 0)
instance fnb61 : FnB Try.prog 61 := ⟨Try.call61⟩
theorem e61 : p61 Try.prog = fun K x0 x1 => denF Try.prog Try.f61 [x0, x1] K := by kernel_rfl
theorem c61 {K : Value → World → Prop} {x0 x1 : Value} {w : World} (h : p61 Try.prog K x0 x1 w) : CallsR Try.prog 61 #[x0, x1] K w := by
  rw [e61] at h
  exact denF_sound mixed Try.func61 h

-- (*gemel/gemelref08.Table).forget
def p63 (P : Program) (K : Value → World → Prop) (x0 : Value) (x1 : Value) (x2 : Value) (x3 : Value) : World → Prop :=
  jnJ 2 (fun x4 x5 =>
    opS P (S.nc x0) fun x6 =>
    opS P (S.fa 40 x6 1) fun x7 =>
    opS P (S.st 37 x7 x4) fun x8 =>
    K x5
  ) fun j0 =>
  loopJ 3 (fun j1 x4 x5 x6 =>
    opS P (S.nc x0) fun x7 =>
    opS P (S.fa 40 x7 1) fun x8 =>
    opS P (S.ld 37 x8) fun x9 =>
    opS P (S.len x9) fun x10 =>
    opS P (S.binI .lss x6 x10) fun x11 =>
    brn x11 (
      opS P (S.nc x0) fun x12 =>
      opS P (S.fa 40 x12 1) fun x13 =>
      opS P (S.ld 37 x13) fun x14 =>
      opS P (S.ia 37 x14 x6) fun x15 =>
      opS P (S.ld 33 x15) fun x16 =>
      opS P (S.alloc 33) fun x17 =>
      opS P (S.st 33 x17 x16) fun x18 =>
      jnJ 1 (fun x19 =>
        jnJ 0 (
          opS P (S.ld 33 x17) fun x20 =>
          opS P (S.buildS 37 1 [(0, x20)]) fun x21 =>
          opS P (S.bi .append #[37, 37] 37 [x4, x21]) fun x22 =>
          opS P (S.binI .add x6 (.int .i64 1)) fun x23 =>
          j1 x22 x5 x23
        ) fun j2 =>
        brn x19 (
          opS P (S.fa 33 x17 4) fun x20 =>
          opS P (S.ld 4 x20) fun x21 =>
          opS P (S.un .not x21) fun x22 =>
          brn x22 (
            opS P (S.ld 33 x17) fun x23 =>
            opS P (S.buildS 37 1 [(0, x23)]) fun x24 =>
            opS P (S.bi .append #[37, 37] 37 [x5, x24]) fun x25 =>
            opS P (S.binI .add x6 (.int .i64 1)) fun x26 =>
            j1 x4 x25 x26
          ) (
            j2
          )
        ) (
          j2
        )
      ) fun j2 =>
      opS P (S.binI .eql x1 (.int .i64 0)) fun x19 =>
      brn x19 (
        opS P (S.fa 33 x17 3) fun x20 =>
        opS P (S.ld 3 x20) fun x21 =>
        opS P (S.binI .sub x2 x3) fun x22 =>
        opS P (S.binI .leq x21 x22) fun x23 =>
        j2 x23
      ) (
        jnJ 1 (fun x20 =>
          j2 x20
        ) fun j3 =>
        opS P (S.binI .eql x1 (.int .i64 1)) fun x20 =>
        brn x20 (
          opS P (S.fa 33 x17 2) fun x21 =>
          opS P (S.ld 3 x21) fun x22 =>
          opS P (S.binI .eql x22 x2) fun x23 =>
          j3 x23
        ) (
          jnJ 1 (fun x21 =>
            j3 x21
          ) fun j4 =>
          opS P (S.binI .eql x1 (.int .i64 2)) fun x21 =>
          brn x21 (
            opS P (S.fa 33 x17 0) fun x22 =>
            opS P (S.ld 3 x22) fun x23 =>
            opS P (S.binI .eql x23 x2) fun x24 =>
            j4 x24
          ) (
            j4 (.bool false)
          )
        )
      )
    ) (
      j0 x4 x5
    )
  ) (.slice none 0 0) (.slice none 0 0) (.int .i64 0)
instance fnb63 : FnB Try.prog 63 := ⟨Try.call63⟩
theorem e63 : p63 Try.prog = fun K x0 x1 x2 x3 => denF Try.prog Try.f63 [x0, x1, x2, x3] K := by kernel_rfl
theorem c63 {K : Value → World → Prop} {x0 x1 x2 x3 : Value} {w : World} (h : p63 Try.prog K x0 x1 x2 x3 w) : CallsR Try.prog 63 #[x0, x1, x2, x3] K w := by
  rw [e63] at h
  exact denF_sound mixed Try.func63 h

end Go.Gx.S
-- 24 27 61 44 45 12 47 63 48 49 50
