/- What the functions of this program ask. -/
import Derived.Test.YtdnidegmlplocaaTy
set_option linter.unusedVariables false
set_option maxRecDepth 100000
namespace Go.Gx.S
open Go Go.Gx Go.Proofs
-- (*gemel/gemelref07.Table).In
def p13 (P : Program) (K : Value → World → Prop) (x0 : Value) (x1 : Value) (x2 : Value) : World → Prop :=
  opS P (S.box 27 x2) fun x3 =>
  opS P (S.ld 27 x3) fun x4 =>
  opS P (S.cl 30 [x4]) fun x5 =>
  opS P (S.un .not x5) fun x6 =>
  brn x6 (
    K (.tuple #[(.int .i64 0), (.int .i64 1)])
  ) (
    opS P (S.binI .lss x1 (.int .i64 0)) fun x7 =>
    brn x7 (
      K (.tuple #[(.int .i64 0), (.int .i64 1)])
    ) (
      opS P (S.nc x0) fun x8 =>
      opS P (S.fa 69 x8 0) fun x9 =>
      opS P (S.ld 3 x9) fun x10 =>
      opS P (S.binI .geq x1 x10) fun x11 =>
      brn x11 (
        K (.tuple #[(.int .i64 0), (.int .i64 1)])
      ) (
        opS P (S.nc x0) fun x12 =>
        opS P (S.fa 69 x12 2) fun x13 =>
        opS P (S.ld 43 x13) fun x14 =>
        opS P (S.ia 43 x14 x1) fun x15 =>
        opS P (S.ld 3 x15) fun x16 =>
        jnJ 1 (fun x17 =>
          opS P (S.binI .eql x17 (.int .i64 0)) fun x18 =>
          brn x18 (
            K (.tuple #[(.int .i64 0), (.int .i64 4)])
          ) (
            opS P (S.cl 31 [x0, x17, x1]) fun x19 =>
            opS P (S.binI .lss x19 (.int .i64 0)) fun x20 =>
            brn x20 (
              K (.tuple #[(.int .i64 0), (.int .i64 4)])
            ) (
              K (.tuple #[x17, (.int .i64 0)])
            )
          )
        ) fun j0 =>
        jnJ 0 (
          j0 x16
        ) fun j1 =>
        opS P (S.fa 27 x3 2) fun x17 =>
        opS P (S.ld 4 x17) fun x18 =>
        brn x18 (
          opS P (S.fa 27 x3 3) fun x19 =>
          opS P (S.ld 3 x19) fun x20 =>
          opS P (S.binI .neq x20 (.int .i64 0)) fun x21 =>
          brn x21 (
            opS P (S.fa 27 x3 3) fun x22 =>
            opS P (S.ld 3 x22) fun x23 =>
            j0 x23
          ) (
            j1
          )
        ) (
          j1
        )
      )
    )
  )
instance fnb13 : FnB Try.prog 13 := ⟨Try.call13⟩
theorem e13 : p13 Try.prog = fun K x0 x1 x2 => denF Try.prog Try.f13 [x0, x1, x2] K := by kernel_rfl
theorem c13 {K : Value → World → Prop} {x0 x1 x2 : Value} {w : World} (h : p13 Try.prog K x0 x1 x2 w) : CallsR Try.prog 13 #[x0, x1, x2] K w := by
  rw [e13] at h
  exact denF_sound mixed Try.func13 h

-- (*gemel/gemelref07.Table).Out
def p15 (P : Program) (K : Value → World → Prop) (x0 : Value) (x1 : Value) (x2 : Value) (x3 : Value) : World → Prop :=
  opS P (S.box 27 x3) fun x4 =>
  opS P (S.alloc 27) fun x5 =>
  opS P (S.ld 27 x4) fun x6 =>
  opS P (S.cl 30 [x6]) fun x7 =>
  opS P (S.cl 35 [x0, x1, x2]) fun x8 =>
  opS P (S.un .not x7) fun x9 =>
  brn x9 (
    opS P (S.build 27 []) fun x10 =>
    opS P (S.st 27 x5 x10) fun x11 =>
    opS P (S.ld 27 x5) fun x12 =>
    K (.tuple #[x12, (.int .i64 1)])
  ) (
    opS P (S.un .not x8) fun x10 =>
    brn x10 (
      opS P (S.build 27 []) fun x11 =>
      opS P (S.st 27 x5 x11) fun x12 =>
      opS P (S.ld 27 x5) fun x13 =>
      K (.tuple #[x13, (.int .i64 1)])
    ) (
      opS P (S.cl 31 [x0, x1, x2]) fun x11 =>
      opS P (S.binI .lss x11 (.int .i64 0)) fun x12 =>
      brn x12 (
        opS P (S.build 27 []) fun x13 =>
        opS P (S.st 27 x5 x13) fun x14 =>
        opS P (S.ld 27 x5) fun x15 =>
        K (.tuple #[x15, (.int .i64 4)])
      ) (
        opS P (S.nc x0) fun x13 =>
        opS P (S.fa 69 x13 1) fun x14 =>
        opS P (S.ld 67 x14) fun x15 =>
        opS P (S.ia 67 x15 x11) fun x16 =>
        opS P (S.fa 75 x16 2) fun x17 =>
        opS P (S.ld 4 x17) fun x18 =>
        brn x18 (
          opS P (S.ld 27 x4) fun x19 =>
          opS P (S.fa 27 x4 4) fun x20 =>
          opS P (S.ld 3 x20) fun x21 =>
          opS P (S.cl 36 [x19, x1, x21]) fun x22 =>
          opS P (S.ext x22 0) fun x23 =>
          opS P (S.ext x22 1) fun x24 =>
          opS P (S.alloc 27) fun x25 =>
          opS P (S.st 27 x25 x23) fun x26 =>
          opS P (S.ld 27 x25) fun x27 =>
          opS P (S.st 27 x5 x27) fun x28 =>
          opS P (S.ld 27 x5) fun x29 =>
          K (.tuple #[x29, (.int .i64 0)])
        ) (
          opS P (S.ld 27 x4) fun x19 =>
          opS P (S.cl 37 [x19]) fun x20 =>
          opS P (S.st 27 x5 x20) fun x21 =>
          opS P (S.ld 27 x5) fun x22 =>
          K (.tuple #[x22, (.int .i64 0)])
        )
      )
    )
  )
instance fnb15 : FnB Try.prog 15 := ⟨Try.call15⟩
theorem e15 : p15 Try.prog = fun K x0 x1 x2 x3 => denF Try.prog Try.f15 [x0, x1, x2, x3] K := by kernel_rfl
theorem c15 {K : Value → World → Prop} {x0 x1 x2 x3 : Value} {w : World} (h : p15 Try.prog K x0 x1 x2 x3 w) : CallsR Try.prog 15 #[x0, x1, x2, x3] K w := by
  rw [e15] at h
  exact denF_sound mixed Try.func15 h

-- gemel/gemelref07.SameInts
def p21 (P : Program) (K : Value → World → Prop) (x0 : Value) (x1 : Value) : World → Prop :=
  opS P (S.len x0) fun x2 =>
  opS P (S.len x1) fun x3 =>
  opS P (S.binI .neq x2 x3) fun x4 =>
  brn x4 (
    K (.bool false)
  ) (
    jnJ 0 (
      K (.bool true)
    ) fun j0 =>
    loopJ 1 (fun j1 x5 =>
      opS P (S.len x0) fun x6 =>
      opS P (S.binI .lss x5 x6) fun x7 =>
      brn x7 (
        drw <|
        opS P (S.ia 43 x0 x5) fun x8 =>
        opS P (S.ld 3 x8) fun x9 =>
        opS P (S.ia 43 x1 x5) fun x10 =>
        opS P (S.ld 3 x10) fun x11 =>
        opS P (S.binI .neq x9 x11) fun x12 =>
        brn x12 (
          K (.bool false)
        ) (
          opS P (S.binI .add x5 (.int .i64 1)) fun x13 =>
          j1 x13
        )
      ) (
        j0
      )
    ) (.int .i64 0)
  )
instance fnb21 : FnB Try.prog 21 := ⟨Try.call21⟩
theorem e21 : p21 Try.prog = fun K x0 x1 => denF Try.prog Try.f21 [x0, x1] K := by kernel_rfl
theorem c21 {K : Value → World → Prop} {x0 x1 : Value} {w : World} (h : p21 Try.prog K x0 x1 w) : CallsR Try.prog 21 #[x0, x1] K w := by
  rw [e21] at h
  exact denF_sound mixed Try.func21 h

-- (*gemel/gemelref07.Table).Members
def p22 (P : Program) (K : Value → World → Prop) (x0 : Value) (x1 : Value) : World → Prop :=
  jnJ 1 (fun x2 =>
    K x2
  ) fun j0 =>
  loopJ 2 (fun j1 x2 x3 =>
    opS P (S.nc x0) fun x4 =>
    opS P (S.fa 69 x4 0) fun x5 =>
    opS P (S.ld 3 x5) fun x6 =>
    opS P (S.binI .lss x3 x6) fun x7 =>
    brn x7 (
      opS P (S.cl 31 [x0, x1, x3]) fun x8 =>
      opS P (S.binI .geq x8 (.int .i64 0)) fun x9 =>
      brn x9 (
        opS P (S.buildS 43 1 [(0, x3)]) fun x10 =>
        opS P (S.bi .append #[43, 43] 43 [x2, x10]) fun x11 =>
        opS P (S.binI .add x3 (.int .i64 1)) fun x12 =>
        j1 x11 x12
      ) (
        opS P (S.binI .add x3 (.int .i64 1)) fun x10 =>
        j1 x2 x10
      )
    ) (
      j0 x2
    )
  ) (.slice none 0 0) (.int .i64 0)
instance fnb22 : FnB Try.prog 22 := ⟨Try.call22⟩
theorem e22 : p22 Try.prog = fun K x0 x1 => denF Try.prog Try.f22 [x0, x1] K := by kernel_rfl
theorem c22 {K : Value → World → Prop} {x0 x1 : Value} {w : World} (h : p22 Try.prog K x0 x1 w) : CallsR Try.prog 22 #[x0, x1] K w := by
  rw [e22] at h
  exact denF_sound mixed Try.func22 h

-- gemel/gemelref07.New
def p26 (P : Program) (K : Value → World → Prop) (x0 : Value) : World → Prop :=
  opS P (S.binI .lss x0 (.int .i64 1)) fun x1 =>
  brn x1 (
    K (.tuple #[(.pointer none), (.int .i64 1)])
  ) (
    opS P (S.binI .gtr x0 (.int .i64 64)) fun x2 =>
    brn x2 (
      K (.tuple #[(.pointer none), (.int .i64 1)])
    ) (
      opS P (S.mks 43 x0 x0) fun x3 =>
      opS P (S.build 69 [(0, x0), (2, x3)]) fun x4 =>
      opS P (S.box 69 x4) fun x5 =>
      K (.tuple #[x5, (.int .i64 0)])
    )
  )
instance fnb26 : FnB Try.prog 26 := ⟨Try.call26⟩
theorem e26 : p26 Try.prog = fun K x0 => denF Try.prog Try.f26 [x0] K := by kernel_rfl
theorem c26 {K : Value → World → Prop} {x0 : Value} {w : World} (h : p26 Try.prog K x0 w) : CallsR Try.prog 26 #[x0] K w := by
  rw [e26] at h
  exact denF_sound mixed Try.func26 h

-- (*gemel/gemelref07.Table).Find
def p31 (P : Program) (K : Value → World → Prop) (x0 : Value) (x1 : Value) (x2 : Value) : World → Prop :=
  jnJ 0 (
    K (.int .i64 (-1))
  ) fun j0 =>
  loopJ 1 (fun j1 x3 =>
    opS P (S.nc x0) fun x4 =>
    opS P (S.fa 69 x4 1) fun x5 =>
    opS P (S.ld 67 x5) fun x6 =>
    opS P (S.len x6) fun x7 =>
    opS P (S.binI .lss x3 x7) fun x8 =>
    brn x8 (
      opS P (S.nc x0) fun x9 =>
      opS P (S.fa 69 x9 1) fun x10 =>
      opS P (S.ld 67 x10) fun x11 =>
      opS P (S.ia 67 x11 x3) fun x12 =>
      opS P (S.fa 75 x12 0) fun x13 =>
      opS P (S.ld 3 x13) fun x14 =>
      opS P (S.binI .eql x14 x1) fun x15 =>
      brn x15 (
        opS P (S.nc x0) fun x16 =>
        opS P (S.fa 69 x16 1) fun x17 =>
        opS P (S.ld 67 x17) fun x18 =>
        opS P (S.ia 67 x18 x3) fun x19 =>
        opS P (S.fa 75 x19 1) fun x20 =>
        opS P (S.ld 3 x20) fun x21 =>
        opS P (S.binI .eql x21 x2) fun x22 =>
        brn x22 (
          K x3
        ) (
          opS P (S.binI .add x3 (.int .i64 1)) fun x23 =>
          j1 x23
        )
      ) (
        opS P (S.binI .add x3 (.int .i64 1)) fun x16 =>
        j1 x16
      )
    ) (
      j0
    )
  ) (.int .i64 0)
instance fnb31 : FnB Try.prog 31 := ⟨Try.call31⟩
theorem e31 : p31 Try.prog = fun K x0 x1 x2 => denF Try.prog Try.f31 [x0, x1, x2] K := by kernel_rfl
theorem c31 {K : Value → World → Prop} {x0 x1 x2 : Value} {w : World} (h : p31 Try.prog K x0 x1 x2 w) : CallsR Try.prog 31 #[x0, x1, x2] K w := by
  rw [e31] at h
  exact denF_sound mixed Try.func31 h

-- (*gemel/gemelref07.Table).right
def p35 (P : Program) (K : Value → World → Prop) (x0 : Value) (x1 : Value) (x2 : Value) : World → Prop :=
  opS P (S.binI .geq x1 (.int .i64 1)) fun x3 =>
  brn x3 (
    opS P (S.binI .leq x1 (.int .i64 4094)) fun x4 =>
    brn x4 (
      opS P (S.binI .geq x2 (.int .i64 0)) fun x5 =>
      brn x5 (
        opS P (S.nc x0) fun x6 =>
        opS P (S.fa 69 x6 0) fun x7 =>
        opS P (S.ld 3 x7) fun x8 =>
        opS P (S.binI .lss x2 x8) fun x9 =>
        K x9
      ) (
        K (.bool false)
      )
    ) (
      K (.bool false)
    )
  ) (
    K (.bool false)
  )
instance fnb35 : FnB Try.prog 35 := ⟨Try.call35⟩
theorem e35 : p35 Try.prog = fun K x0 x1 x2 => denF Try.prog Try.f35 [x0, x1, x2] K := by kernel_rfl
theorem c35 {K : Value → World → Prop} {x0 x1 x2 : Value} {w : World} (h : p35 Try.prog K x0 x1 x2 w) : CallsR Try.prog 35 #[x0, x1, x2] K w := by
  rw [e35] at h
  exact denF_sound mixed Try.func35 h

-- (*gemel/gemelref07.Table).Add
def p41 (P : Program) (K : Value → World → Prop) (x0 : Value) (x1 : Value) (x2 : Value) (x3 : Value) : World → Prop :=
  opS P (S.cl 35 [x0, x1, x2]) fun x4 =>
  opS P (S.un .not x4) fun x5 =>
  brn x5 (
    K (.int .i64 1)
  ) (
    opS P (S.cl 31 [x0, x1, x2]) fun x6 =>
    opS P (S.binI .geq x6 (.int .i64 0)) fun x7 =>
    brn x7 (
      opS P (S.nc x0) fun x8 =>
      opS P (S.fa 69 x8 1) fun x9 =>
      opS P (S.ld 67 x9) fun x10 =>
      opS P (S.ia 67 x10 x6) fun x11 =>
      opS P (S.fa 75 x11 2) fun x12 =>
      opS P (S.st 4 x12 x3) fun x13 =>
      K (.int .i64 0)
    ) (
      opS P (S.buildS 67 0 []) fun x8 =>
      opS P (S.nc x0) fun x9 =>
      opS P (S.fa 69 x9 1) fun x10 =>
      opS P (S.ld 67 x10) fun x11 =>
      opS P (S.bi .append #[67, 67] 67 [x8, x11]) fun x12 =>
      opS P (S.build 75 [(0, x1), (1, x2), (2, x3)]) fun x13 =>
      opS P (S.buildS 67 1 [(0, x13)]) fun x14 =>
      opS P (S.bi .append #[67, 67] 67 [x12, x14]) fun x15 =>
      opS P (S.nc x0) fun x16 =>
      opS P (S.fa 69 x16 1) fun x17 =>
      opS P (S.st 67 x17 x15) fun x18 =>
      K (.int .i64 0)
    )
  )
instance fnb41 : FnB Try.prog 41 := ⟨Try.call41⟩
theorem e41 : p41 Try.prog = fun K x0 x1 x2 x3 => denF Try.prog Try.f41 [x0, x1, x2, x3] K := by kernel_rfl
theorem c41 {K : Value → World → Prop} {x0 x1 x2 x3 : Value} {w : World} (h : p41 Try.prog K x0 x1 x2 x3 w) : CallsR Try.prog 41 #[x0, x1, x2, x3] K w := by
  rw [e41] at h
  exact denF_sound mixed Try.func41 h

-- (*gemel/gemelref07.Table).Remove
def p42 (P : Program) (K : Value → World → Prop) (x0 : Value) (x1 : Value) (x2 : Value) : World → Prop :=
  opS P (S.cl 35 [x0, x1, x2]) fun x3 =>
  opS P (S.un .not x3) fun x4 =>
  brn x4 (
    K (.int .i64 1)
  ) (
    opS P (S.cl 31 [x0, x1, x2]) fun x5 =>
    opS P (S.binI .lss x5 (.int .i64 0)) fun x6 =>
    brn x6 (
      K (.int .i64 4)
    ) (
      drw <|
      opS P (S.nc x0) fun x7 =>
      opS P (S.fa 69 x7 1) fun x8 =>
      opS P (S.nc x0) fun x9 =>
      opS P (S.fa 69 x9 1) fun x10 =>
      opS P (S.binI .add x5 (.int .i64 1)) fun x11 =>
      allW (
        opS P (S.buildS 67 0 []) fun x12 =>
        opS P (S.ld 67 x8) fun x13 =>
        opS P (S.slc 67 x13 none (some x5) none) fun x14 =>
        allW (
          opS P (S.bi .append #[67, 67] 67 [x12, x14]) fun x15 =>
          opS P (S.ld 67 x10) fun x16 =>
          opS P (S.slc 67 x16 (some x11) none none) fun x17 =>
          opS P (S.bi .append #[67, 67] 67 [x15, x17]) fun x18 =>
          opS P (S.nc x0) fun x19 =>
          opS P (S.fa 69 x19 1) fun x20 =>
          opS P (S.st 67 x20 x18) fun x21 =>
          K (.int .i64 0)
        ) (
          opS P (S.ld 67 x10) fun x15 =>
          opS P (S.bi .append #[67, 67] 67 [x12, x14]) fun x16 =>
          opS P (S.slc 67 x15 (some x11) none none) fun x17 =>
          opS P (S.bi .append #[67, 67] 67 [x16, x17]) fun x18 =>
          opS P (S.nc x0) fun x19 =>
          opS P (S.fa 69 x19 1) fun x20 =>
          opS P (S.st 67 x20 x18) fun x21 =>
          K (.int .i64 0)
        )
      ) (
        allW (
          opS P (S.ld 67 x8) fun x12 =>
          opS P (S.slc 67 x12 none (some x5) none) fun x13 =>
          allW (
            opS P (S.buildS 67 0 []) fun x14 =>
            allW (
              opS P (S.bi .append #[67, 67] 67 [x14, x13]) fun x15 =>
              opS P (S.ld 67 x10) fun x16 =>
              opS P (S.slc 67 x16 (some x11) none none) fun x17 =>
              opS P (S.bi .append #[67, 67] 67 [x15, x17]) fun x18 =>
              opS P (S.nc x0) fun x19 =>
              opS P (S.fa 69 x19 1) fun x20 =>
              opS P (S.st 67 x20 x18) fun x21 =>
              K (.int .i64 0)
            ) (
              opS P (S.ld 67 x10) fun x15 =>
              opS P (S.bi .append #[67, 67] 67 [x14, x13]) fun x16 =>
              opS P (S.slc 67 x15 (some x11) none none) fun x17 =>
              opS P (S.bi .append #[67, 67] 67 [x16, x17]) fun x18 =>
              opS P (S.nc x0) fun x19 =>
              opS P (S.fa 69 x19 1) fun x20 =>
              opS P (S.st 67 x20 x18) fun x21 =>
              K (.int .i64 0)
            )
          ) (
            opS P (S.ld 67 x10) fun x14 =>
            opS P (S.buildS 67 0 []) fun x15 =>
            opS P (S.bi .append #[67, 67] 67 [x15, x13]) fun x16 =>
            opS P (S.slc 67 x14 (some x11) none none) fun x17 =>
            opS P (S.bi .append #[67, 67] 67 [x16, x17]) fun x18 =>
            opS P (S.nc x0) fun x19 =>
            opS P (S.fa 69 x19 1) fun x20 =>
            opS P (S.st 67 x20 x18) fun x21 =>
            K (.int .i64 0)
          )
        ) (
          opS P (S.ld 67 x10) fun x12 =>
          opS P (S.slc 67 x12 (some x11) none none) fun x13 =>
          allW (
            opS P (S.buildS 67 0 []) fun x14 =>
            opS P (S.ld 67 x8) fun x15 =>
            opS P (S.slc 67 x15 none (some x5) none) fun x16 =>
            opS P (S.bi .append #[67, 67] 67 [x14, x16]) fun x17 =>
            opS P (S.bi .append #[67, 67] 67 [x17, x13]) fun x18 =>
            opS P (S.nc x0) fun x19 =>
            opS P (S.fa 69 x19 1) fun x20 =>
            opS P (S.st 67 x20 x18) fun x21 =>
            K (.int .i64 0)
          ) (
            opS P (S.ld 67 x8) fun x14 =>
            opS P (S.buildS 67 0 []) fun x15 =>
            opS P (S.slc 67 x14 none (some x5) none) fun x16 =>
            opS P (S.bi .append #[67, 67] 67 [x15, x16]) fun x17 =>
            opS P (S.bi .append #[67, 67] 67 [x17, x13]) fun x18 =>
            opS P (S.nc x0) fun x19 =>
            opS P (S.fa 69 x19 1) fun x20 =>
            opS P (S.st 67 x20 x18) fun x21 =>
            K (.int .i64 0)
          )
        )
      )
    )
  )
instance fnb42 : FnB Try.prog 42 := ⟨Try.call42⟩
theorem e42 : p42 Try.prog = fun K x0 x1 x2 => denF Try.prog Try.f42 [x0, x1, x2] K := by kernel_rfl
theorem c42 {K : Value → World → Prop} {x0 x1 x2 : Value} {w : World} (h : p42 Try.prog K x0 x1 x2 w) : CallsR Try.prog 42 #[x0, x1, x2] K w := by
  rw [e42] at h
  exact denF_sound mixed Try.func42 h

-- (*gemel/gemelref07.Table).Native
def p43 (P : Program) (K : Value → World → Prop) (x0 : Value) (x1 : Value) (x2 : Value) : World → Prop :=
  opS P (S.binI .lss x1 (.int .i64 0)) fun x3 =>
  brn x3 (
    K (.int .i64 1)
  ) (
    opS P (S.nc x0) fun x4 =>
    opS P (S.fa 69 x4 0) fun x5 =>
    opS P (S.ld 3 x5) fun x6 =>
    opS P (S.binI .geq x1 x6) fun x7 =>
    brn x7 (
      K (.int .i64 1)
    ) (
      opS P (S.binI .lss x2 (.int .i64 0)) fun x8 =>
      brn x8 (
        K (.int .i64 1)
      ) (
        opS P (S.binI .gtr x2 (.int .i64 4094)) fun x9 =>
        brn x9 (
          K (.int .i64 1)
        ) (
          opS P (S.nc x0) fun x10 =>
          opS P (S.fa 69 x10 2) fun x11 =>
          opS P (S.ld 43 x11) fun x12 =>
          opS P (S.ia 43 x12 x1) fun x13 =>
          opS P (S.st 3 x13 x2) fun x14 =>
          K (.int .i64 0)
        )
      )
    )
  )
instance fnb43 : FnB Try.prog 43 := ⟨Try.call43⟩
theorem e43 : p43 Try.prog = fun K x0 x1 x2 => denF Try.prog Try.f43 [x0, x1, x2] K := by kernel_rfl
theorem c43 {K : Value → World → Prop} {x0 x1 x2 : Value} {w : World} (h : p43 Try.prog K x0 x1 x2 w) : CallsR Try.prog 43 #[x0, x1, x2] K w := by
  rw [e43] at h
  exact denF_sound mixed Try.func43 h

end Go.Gx.S
-- 26 35 31 41 42 43 22 13 15 21
