/- What the functions of this program ask. -/
import Derived.Test.YtdmkkbgjidpmkaaTy
set_option linter.unusedVariables false
set_option maxRecDepth 100000
namespace Go.Gx.S
open Go Go.Gx Go.Proofs
-- (*gemel/fdb.Table).Look
def p11 (P : Program) (K : Value → World → Prop) (x0 : Value) (x1 : Value) (x2 : Value) : World → Prop :=
  opS P (S.box 24 x2) fun x3 =>
  opS P (S.alloc 33) fun x4 =>
  opS P (S.ld 24 x3) fun x5 =>
  opS P (S.cl 26 [x0, x1, x5]) fun x6 =>
  opS P (S.ext x6 0) fun x7 =>
  opS P (S.ext x6 1) fun x8 =>
  opS P (S.nc x0) fun x9 =>
  opS P (S.fa 62 x9 0) fun x10 =>
  opS P (S.ld 37 x10) fun x11 =>
  opS P (S.ia 37 x11 x7) fun x12 =>
  opS P (S.ld 33 x12) fun x13 =>
  opS P (S.st 33 x4 x13) fun x14 =>
  opS P (S.ld 33 x4) fun x15 =>
  K (.tuple #[x15, x8])
instance fnb11 : FnB Try.prog 11 := ⟨Try.call11⟩
theorem e11 : p11 Try.prog = fun K x0 x1 x2 => denF Try.prog Try.f11 [x0, x1, x2] K := by kernel_rfl
theorem c11 {K : Value → World → Prop} {x0 x1 x2 : Value} {w : World} (h : p11 Try.prog K x0 x1 x2 w) : CallsR Try.prog 11 #[x0, x1, x2] K w := by
  rw [e11] at h
  exact denF_sound mixed Try.func11 h

-- (*gemel/fdb.Table).Len
def p15 (P : Program) (K : Value → World → Prop) (x0 : Value) : World → Prop :=
  opS P (S.nc x0) fun x1 =>
  opS P (S.fa 62 x1 1) fun x2 =>
  opS P (S.ld 3 x2) fun x3 =>
  K x3
instance fnb15 : FnB Try.prog 15 := ⟨Try.call15⟩
theorem e15 : p15 Try.prog = fun K x0 => denF Try.prog Try.f15 [x0] K := by kernel_rfl
theorem c15 {K : Value → World → Prop} {x0 : Value} {w : World} (h : p15 Try.prog K x0 w) : CallsR Try.prog 15 #[x0] K w := by
  rw [e15] at h
  exact denF_sound mixed Try.func15 h

-- (*gemel/fdb.Table).Learn
def p16 (P : Program) (K : Value → World → Prop) (x0 : Value) (x1 : Value) (x2 : Value) (x3 : Value) (x4 : Value) : World → Prop :=
  opS P (S.box 24 x2) fun x5 =>
  opS P (S.ld 24 x5) fun x6 =>
  opS P (S.cl 36 [x1, x6, x3]) fun x7 =>
  opS P (S.un .not x7) fun x8 =>
  brn x8 (
    K (.tuple #[(.int .i64 0), (.int .i64 1)])
  ) (
    opS P (S.cl 37 [x4]) fun x9 =>
    opS P (S.un .not x9) fun x10 =>
    brn x10 (
      K (.tuple #[(.int .i64 0), (.int .i64 1)])
    ) (
      opS P (S.ld 24 x5) fun x11 =>
      opS P (S.cl 26 [x0, x1, x11]) fun x12 =>
      opS P (S.ext x12 0) fun x13 =>
      opS P (S.ext x12 1) fun x14 =>
      opS P (S.nc x0) fun x15 =>
      opS P (S.fa 62 x15 0) fun x16 =>
      opS P (S.ld 37 x16) fun x17 =>
      opS P (S.ia 37 x17 x13) fun x18 =>
      opS P (S.ld 33 x18) fun x19 =>
      opS P (S.alloc 33) fun x20 =>
      opS P (S.st 33 x20 x19) fun x21 =>
      jnJ 0 (
        jnJ 0 (
          drw <|
          opS P (S.nc x0) fun x22 =>
          opS P (S.fa 62 x22 0) fun x23 =>
          opS P (S.ld 37 x23) fun x24 =>
          opS P (S.ld 24 x5) fun x25 =>
          opS P (S.build 33 [(0, x1), (1, x25), (2, x3), (3, x4)]) fun x26 =>
          opS P (S.ia 37 x24 x13) fun x27 =>
          opS P (S.st 33 x27 x26) fun x28 =>
          opS P (S.un .not x14) fun x29 =>
          brn x29 (
            opS P (S.nc x0) fun x30 =>
            opS P (S.fa 62 x30 1) fun x31 =>
            opS P (S.ld 3 x31) fun x32 =>
            opS P (S.binI .add x32 (.int .i64 1)) fun x33 =>
            opS P (S.nc x0) fun x34 =>
            opS P (S.fa 62 x34 1) fun x35 =>
            opS P (S.st 3 x35 x33) fun x36 =>
            K (.tuple #[(.int .i64 1), (.int .i64 0)])
          ) (
            opS P (S.fa 33 x20 2) fun x30 =>
            opS P (S.ld 3 x30) fun x31 =>
            opS P (S.binI .neq x31 x3) fun x32 =>
            brn x32 (
              K (.tuple #[(.int .i64 2), (.int .i64 0)])
            ) (
              K (.tuple #[(.int .i64 0), (.int .i64 0)])
            )
          )
        ) fun j0 =>
        opS P (S.un .not x14) fun x22 =>
        brn x22 (
          opS P (S.cl 38 [x0]) fun x23 =>
          brn x23 (
            K (.tuple #[(.int .i64 0), (.int .i64 3)])
          ) (
            j0
          )
        ) (
          j0
        )
      ) fun j0 =>
      brn x14 (
        opS P (S.fa 33 x20 4) fun x22 =>
        opS P (S.ld 4 x22) fun x23 =>
        brn x23 (
          K (.tuple #[(.int .i64 0), (.int .i64 0)])
        ) (
          j0
        )
      ) (
        j0
      )
    )
  )
instance fnb16 : FnB Try.prog 16 := ⟨Try.call16⟩
theorem e16 : p16 Try.prog = fun K x0 x1 x2 x3 x4 => denF Try.prog Try.f16 [x0, x1, x2, x3, x4] K := by kernel_rfl
theorem c16 {K : Value → World → Prop} {x0 x1 x2 x3 x4 : Value} {w : World} (h : p16 Try.prog K x0 x1 x2 x3 x4 w) : CallsR Try.prog 16 #[x0, x1, x2, x3, x4] K w := by
  rw [e16] at h
  exact denF_sound mixed Try.func16 h

-- gemel/fdb.New
def p17 (P : Program) (K : Value → World → Prop) (x0 : Value) : World → Prop :=
  opS P (S.binI .lss x0 (.int .i64 1)) fun x1 =>
  brn x1 (
    K (.tuple #[(.pointer none), (.int .i64 1)])
  ) (
    opS P (S.binI .gtr x0 (.int .i64 1024)) fun x2 =>
    brn x2 (
      K (.tuple #[(.pointer none), (.int .i64 1)])
    ) (
      opS P (S.binI .mul (.int .i64 2) x0) fun x3 =>
      opS P (S.mks 37 x3 x3) fun x4 =>
      opS P (S.build 62 [(0, x4)]) fun x5 =>
      opS P (S.box 62 x5) fun x6 =>
      K (.tuple #[x6, (.int .i64 0)])
    )
  )
instance fnb17 : FnB Try.prog 17 := ⟨Try.call17⟩
theorem e17 : p17 Try.prog = fun K x0 => denF Try.prog Try.f17 [x0] K := by kernel_rfl
theorem c17 {K : Value → World → Prop} {x0 : Value} {w : World} (h : p17 Try.prog K x0 w) : CallsR Try.prog 17 #[x0] K w := by
  rw [e17] at h
  exact denF_sound mixed Try.func17 h

-- (*gemel/fdb.Table).Put
def p18 (P : Program) (K : Value → World → Prop) (x0 : Value) (x1 : Value) (x2 : Value) (x3 : Value) : World → Prop :=
  opS P (S.box 24 x2) fun x4 =>
  opS P (S.ld 24 x4) fun x5 =>
  opS P (S.cl 36 [x1, x5, x3]) fun x6 =>
  opS P (S.un .not x6) fun x7 =>
  brn x7 (
    K (.int .i64 1)
  ) (
    opS P (S.ld 24 x4) fun x8 =>
    opS P (S.cl 26 [x0, x1, x8]) fun x9 =>
    opS P (S.ext x9 0) fun x10 =>
    opS P (S.ext x9 1) fun x11 =>
    jnJ 0 (
      jnJ 0 (
        drw <|
        opS P (S.nc x0) fun x12 =>
        opS P (S.fa 62 x12 0) fun x13 =>
        opS P (S.ld 37 x13) fun x14 =>
        opS P (S.ld 24 x4) fun x15 =>
        opS P (S.build 33 [(0, x1), (1, x15), (2, x3), (4, (.bool true))]) fun x16 =>
        opS P (S.ia 37 x14 x10) fun x17 =>
        opS P (S.st 33 x17 x16) fun x18 =>
        K (.int .i64 0)
      ) fun j0 =>
      opS P (S.un .not x11) fun x12 =>
      brn x12 (
        opS P (S.nc x0) fun x13 =>
        opS P (S.fa 62 x13 1) fun x14 =>
        opS P (S.ld 3 x14) fun x15 =>
        opS P (S.binI .add x15 (.int .i64 1)) fun x16 =>
        opS P (S.nc x0) fun x17 =>
        opS P (S.fa 62 x17 1) fun x18 =>
        opS P (S.st 3 x18 x16) fun x19 =>
        j0
      ) (
        j0
      )
    ) fun j0 =>
    opS P (S.un .not x11) fun x12 =>
    brn x12 (
      opS P (S.cl 38 [x0]) fun x13 =>
      brn x13 (
        K (.int .i64 3)
      ) (
        j0
      )
    ) (
      j0
    )
  )
instance fnb18 : FnB Try.prog 18 := ⟨Try.call18⟩
theorem e18 : p18 Try.prog = fun K x0 x1 x2 x3 => denF Try.prog Try.f18 [x0, x1, x2, x3] K := by kernel_rfl
theorem c18 {K : Value → World → Prop} {x0 x1 x2 x3 : Value} {w : World} (h : p18 Try.prog K x0 x1 x2 x3 w) : CallsR Try.prog 18 #[x0, x1, x2, x3] K w := by
  rw [e18] at h
  exact denF_sound mixed Try.func18 h

-- gemel/gemelref01.Group
def p22 (P : Program) (K : Value → World → Prop) (x0 : Value) : World → Prop :=
  opS P (S.box 24 x0) fun x1 =>
  opS P (S.ia 24 x1 (.int .i64 0)) fun x2 =>
  opS P (S.ld 5 x2) fun x3 =>
  opS P (S.binI .rem x3 (.int .u8 2)) fun x4 =>
  opS P (S.binI .eql x4 (.int .u8 1)) fun x5 =>
  K x5
instance fnb22 : FnB Try.prog 22 := ⟨Try.call22⟩
theorem e22 : p22 Try.prog = fun K x0 => denF Try.prog Try.f22 [x0] K := by kernel_rfl
theorem c22 {K : Value → World → Prop} {x0 : Value} {w : World} (h : p22 Try.prog K x0 w) : CallsR Try.prog 22 #[x0] K w := by
  rw [e22] at h
  exact denF_sound mixed Try.func22 h

-- (*gemel/fdb.Table).find
def p26 (P : Program) (K : Value → World → Prop) (x0 : Value) (x1 : Value) (x2 : Value) : World → Prop :=
  opS P (S.box 24 x2) fun x3 =>
  opS P (S.ld 24 x3) fun x4 =>
  opS P (S.cl 51 [x0, x1, x4]) fun x5 =>
  jnJ 2 (fun x6 x7 =>
    K (.tuple #[x6, x7])
  ) fun j0 =>
  loopJ 2 (fun j1 x6 x7 =>
    opS P (S.nc x0) fun x8 =>
    opS P (S.fa 62 x8 0) fun x9 =>
    opS P (S.ld 37 x9) fun x10 =>
    opS P (S.ia 37 x10 x6) fun x11 =>
    opS P (S.ld 33 x11) fun x12 =>
    opS P (S.build 33 []) fun x13 =>
    opS P (S.binG .neq 33 x12 x13) fun x14 =>
    brn x14 (
      drw <|
      opS P (S.nc x0) fun x15 =>
      opS P (S.fa 62 x15 0) fun x16 =>
      opS P (S.ld 37 x16) fun x17 =>
      opS P (S.ia 37 x17 x6) fun x18 =>
      opS P (S.fa 33 x18 0) fun x19 =>
      opS P (S.ld 3 x19) fun x20 =>
      opS P (S.binI .eql x20 x1) fun x21 =>
      brn x21 (
        opS P (S.nc x0) fun x22 =>
        opS P (S.fa 62 x22 0) fun x23 =>
        opS P (S.ld 37 x23) fun x24 =>
        opS P (S.ia 37 x24 x6) fun x25 =>
        opS P (S.fa 33 x25 1) fun x26 =>
        opS P (S.ld 24 x26) fun x27 =>
        opS P (S.ld 24 x3) fun x28 =>
        opS P (S.binG .eql 24 x27 x28) fun x29 =>
        brn x29 (
          j0 x6 x29
        ) (
          opS P (S.cl 52 [x0, x6]) fun x30 =>
          j1 x30 x29
        )
      ) (
        opS P (S.cl 52 [x0, x6]) fun x22 =>
        j1 x22 (.bool false)
      )
    ) (
      j0 x6 x7
    )
  ) x5 (.bool false)
instance fnb26 : FnB Try.prog 26 := ⟨Try.call26⟩
theorem e26 : p26 Try.prog = fun K x0 x1 x2 => denF Try.prog Try.f26 [x0, x1, x2] K := by kernel_rfl
theorem c26 {K : Value → World → Prop} {x0 x1 x2 : Value} {w : World} (h : p26 Try.prog K x0 x1 x2 w) : CallsR Try.prog 26 #[x0, x1, x2] K w := by
  rw [e26] at h
  exact denF_sound mixed Try.func26 h

-- gemel/fdb.right
def p36 (P : Program) (K : Value → World → Prop) (x0 : Value) (x1 : Value) (x2 : Value) : World → Prop :=
  opS P (S.box 24 x1) fun x3 =>
  opS P (S.binI .geq x0 (.int .i64 1)) fun x4 =>
  brn x4 (
    opS P (S.binI .leq x0 (.int .i64 4094)) fun x5 =>
    brn x5 (
      opS P (S.binI .geq x2 (.int .i64 0)) fun x6 =>
      brn x6 (
        opS P (S.binI .leq x2 (.int .i64 1000)) fun x7 =>
        brn x7 (
          opS P (S.ld 24 x3) fun x8 =>
          opS P (S.cl 58 [x8]) fun x9 =>
          opS P (S.un .not x9) fun x10 =>
          K x10
        ) (
          K (.bool false)
        )
      ) (
        K (.bool false)
      )
    ) (
      K (.bool false)
    )
  ) (
    K (.bool false)
  )
instance fnb36 : FnB Try.prog 36 := ⟨Try.call36⟩
theorem e36 : p36 Try.prog = fun K x0 x1 x2 => denF Try.prog Try.f36 [x0, x1, x2] K := by kernel_rfl
theorem c36 {K : Value → World → Prop} {x0 x1 x2 : Value} {w : World} (h : p36 Try.prog K x0 x1 x2 w) : CallsR Try.prog 36 #[x0, x1, x2] K w := by
  rw [e36] at h
  exact denF_sound mixed Try.func36 h

-- gemel/fdb.timed
def p37 (P : Program) (K : Value → World → Prop) (x0 : Value) : World → Prop :=
  opS P (S.binI .geq x0 (.int .i64 0)) fun x1 =>
  brn x1 (
    opS P (S.binI .leq x0 (.int .i64 1099511627776)) fun x2 =>
    K x2
  ) (
    K (.bool false)
  )
instance fnb37 : FnB Try.prog 37 := ⟨Try.call37⟩
theorem e37 : p37 Try.prog = fun K x0 => denF Try.prog Try.f37 [x0] K := by kernel_rfl
theorem c37 {K : Value → World → Prop} {x0 : Value} {w : World} (h : p37 Try.prog K x0 w) : CallsR Try.prog 37 #[x0] K w := by
  rw [e37] at h
  exact denF_sound mixed Try.func37 h

-- (*gemel/fdb.Table).full
def p38 (P : Program) (K : Value → World → Prop) (x0 : Value) : World → Prop :=
  drw <|
  opS P (S.nc x0) fun x1 =>
  opS P (S.fa 62 x1 1) fun x2 =>
  opS P (S.ld 3 x2) fun x3 =>
  opS P (S.binI .mul (.int .i64 2) x3) fun x4 =>
  opS P (S.nc x0) fun x5 =>
  opS P (S.fa 62 x5 0) fun x6 =>
  opS P (S.ld 37 x6) fun x7 =>
  opS P (S.len x7) fun x8 =>
  opS P (S.binI .geq x4 x8) fun x9 =>
  K x9
instance fnb38 : FnB Try.prog 38 := ⟨Try.call38⟩
theorem e38 : p38 Try.prog = fun K x0 => denF Try.prog Try.f38 [x0] K := by kernel_rfl
theorem c38 {K : Value → World → Prop} {x0 : Value} {w : World} (h : p38 Try.prog K x0 w) : CallsR Try.prog 38 #[x0] K w := by
  rw [e38] at h
  exact denF_sound mixed Try.func38 h

-- (*gemel/fdb.Table).Remove
def p46 (P : Program) (K : Value → World → Prop) (x0 : Value) (x1 : Value) (x2 : Value) : World → Prop :=
  opS P (S.box 24 x2) fun x3 =>
  opS P (S.ld 24 x3) fun x4 =>
  opS P (S.cl 26 [x0, x1, x4]) fun x5 =>
  opS P (S.ext x5 0) fun x6 =>
  opS P (S.ext x5 1) fun x7 =>
  brn x7 (
    opS P (S.cl 62 [x0, x6]) fun x8 =>
    K x7
  ) (
    K x7
  )
instance fnb46 : FnB Try.prog 46 := ⟨Try.call46⟩
theorem e46 : p46 Try.prog = fun K x0 x1 x2 => denF Try.prog Try.f46 [x0, x1, x2] K := by kernel_rfl
theorem c46 {K : Value → World → Prop} {x0 x1 x2 : Value} {w : World} (h : p46 Try.prog K x0 x1 x2 w) : CallsR Try.prog 46 #[x0, x1, x2] K w := by
  rw [e46] at h
  exact denF_sound mixed Try.func46 h

-- (*gemel/fdb.Table).home
def p51 (P : Program) (K : Value → World → Prop) (x0 : Value) (x1 : Value) (x2 : Value) : World → Prop :=
  opS P (S.box 24 x2) fun x3 =>
  opS P (S.ld 24 x3) fun x4 =>
  opS P (S.cl 64 [x4]) fun x5 =>
  opS P (S.convI .u64 x1) fun x6 =>
  opS P (S.binI .shl x6 (.int .u64 48)) fun x7 =>
  opS P (S.binI .xor x5 x7) fun x8 =>
  opS P (S.binI .mul x8 (.int .u64 11400714819323198485)) fun x9 =>
  opS P (S.binI .shr x9 (.int .u64 33)) fun x10 =>
  opS P (S.convI .i64 x10) fun x11 =>
  opS P (S.nc x0) fun x12 =>
  opS P (S.fa 62 x12 0) fun x13 =>
  opS P (S.ld 37 x13) fun x14 =>
  opS P (S.len x14) fun x15 =>
  opS P (S.binI .rem x11 x15) fun x16 =>
  K x16
instance fnb51 : FnB Try.prog 51 := ⟨Try.call51⟩
theorem e51 : p51 Try.prog = fun K x0 x1 x2 => denF Try.prog Try.f51 [x0, x1, x2] K := by kernel_rfl
theorem c51 {K : Value → World → Prop} {x0 x1 x2 : Value} {w : World} (h : p51 Try.prog K x0 x1 x2 w) : CallsR Try.prog 51 #[x0, x1, x2] K w := by
  rw [e51] at h
  exact denF_sound mixed Try.func51 h

-- (*gemel/fdb.Table).next
def p52 (P : Program) (K : Value → World → Prop) (x0 : Value) (x1 : Value) : World → Prop :=
  opS P (S.binI .add x1 (.int .i64 1)) fun x2 =>
  opS P (S.nc x0) fun x3 =>
  opS P (S.fa 62 x3 0) fun x4 =>
  opS P (S.ld 37 x4) fun x5 =>
  opS P (S.len x5) fun x6 =>
  opS P (S.binI .rem x2 x6) fun x7 =>
  K x7
instance fnb52 : FnB Try.prog 52 := ⟨Try.call52⟩
theorem e52 : p52 Try.prog = fun K x0 x1 => denF Try.prog Try.f52 [x0, x1] K := by kernel_rfl
theorem c52 {K : Value → World → Prop} {x0 x1 : Value} {w : World} (h : p52 Try.prog K x0 x1 w) : CallsR Try.prog 52 #[x0, x1] K w := by
  rw [e52] at h
  exact denF_sound mixed Try.func52 h

-- gemel/mac.Group
def p58 (P : Program) (K : Value → World → Prop) (x0 : Value) : World → Prop :=
  opS P (S.box 24 x0) fun x1 =>
  opS P (S.ia 24 x1 (.int .i64 0)) fun x2 =>
  opS P (S.ld 5 x2) fun x3 =>
  opS P (S.binI .and x3 (.int .u8 1)) fun x4 =>
  opS P (S.binI .eql x4 (.int .u8 1)) fun x5 =>
  K x5
instance fnb58 : FnB Try.prog 58 := ⟨Try.call58⟩
theorem e58 : p58 Try.prog = fun K x0 => denF Try.prog Try.f58 [x0] K := by kernel_rfl
theorem c58 {K : Value → World → Prop} {x0 : Value} {w : World} (h : p58 Try.prog K x0 w) : CallsR Try.prog 58 #[x0] K w := by
  rw [e58] at h
  exact denF_sound mixed Try.func58 h

-- gemel/gemelref08.right
def p60 (P : Program) (K : Value → World → Prop) (x0 : Value) (x1 : Value) (x2 : Value) : World → Prop :=
  opS P (S.box 24 x1) fun x3 =>
  opS P (S.binI .geq x0 (.int .i64 1)) fun x4 =>
  brn x4 (
    opS P (S.binI .leq x0 (.int .i64 4094)) fun x5 =>
    brn x5 (
      opS P (S.binI .geq x2 (.int .i64 0)) fun x6 =>
      brn x6 (
        opS P (S.binI .leq x2 (.int .i64 1000)) fun x7 =>
        brn x7 (
          opS P (S.ld 24 x3) fun x8 =>
          opS P (S.cl 22 [x8]) fun x9 =>
          opS P (S.un .not x9) fun x10 =>
          K x10
        ) (
          K (.bool false)
        )
      ) (
        K (.bool false)
      )
    ) (
      K (.bool false)
    )
  ) (
    K (.bool false)
  )
instance fnb60 : FnB Try.prog 60 := ⟨Try.call60⟩
theorem e60 : p60 Try.prog = fun K x0 x1 x2 => denF Try.prog Try.f60 [x0, x1, x2] K := by kernel_rfl
theorem c60 {K : Value → World → Prop} {x0 x1 x2 : Value} {w : World} (h : p60 Try.prog K x0 x1 x2 w) : CallsR Try.prog 60 #[x0, x1, x2] K w := by
  rw [e60] at h
  exact denF_sound mixed Try.func60 h

-- (*gemel/fdb.Table).take
def p62 (P : Program) (K : Value → World → Prop) (x0 : Value) (x1 : Value) : World → Prop :=
  opS P (S.nc x0) fun x2 =>
  opS P (S.fa 62 x2 0) fun x3 =>
  opS P (S.ld 37 x3) fun x4 =>
  opS P (S.build 33 []) fun x5 =>
  opS P (S.ia 37 x4 x1) fun x6 =>
  opS P (S.st 33 x6 x5) fun x7 =>
  opS P (S.cl 52 [x0, x1]) fun x8 =>
  jnJ 0 (
    opS P (S.nc x0) fun x9 =>
    opS P (S.fa 62 x9 1) fun x10 =>
    opS P (S.ld 3 x10) fun x11 =>
    opS P (S.binI .sub x11 (.int .i64 1)) fun x12 =>
    opS P (S.nc x0) fun x13 =>
    opS P (S.fa 62 x13 1) fun x14 =>
    opS P (S.st 3 x14 x12) fun x15 =>
    K (.tuple #[])
  ) fun j0 =>
  loopJ 1 (fun j1 x9 =>
    opS P (S.nc x0) fun x10 =>
    opS P (S.fa 62 x10 0) fun x11 =>
    opS P (S.ld 37 x11) fun x12 =>
    opS P (S.ia 37 x12 x9) fun x13 =>
    opS P (S.ld 33 x13) fun x14 =>
    opS P (S.build 33 []) fun x15 =>
    opS P (S.binG .neq 33 x14 x15) fun x16 =>
    brn x16 (
      opS P (S.nc x0) fun x17 =>
      opS P (S.fa 62 x17 0) fun x18 =>
      opS P (S.ld 37 x18) fun x19 =>
      opS P (S.ia 37 x19 x9) fun x20 =>
      opS P (S.ld 33 x20) fun x21 =>
      opS P (S.alloc 33) fun x22 =>
      opS P (S.st 33 x22 x21) fun x23 =>
      opS P (S.nc x0) fun x24 =>
      opS P (S.fa 62 x24 0) fun x25 =>
      opS P (S.ld 37 x25) fun x26 =>
      opS P (S.build 33 []) fun x27 =>
      opS P (S.ia 37 x26 x9) fun x28 =>
      opS P (S.st 33 x28 x27) fun x29 =>
      opS P (S.fa 33 x22 0) fun x30 =>
      opS P (S.ld 3 x30) fun x31 =>
      opS P (S.fa 33 x22 1) fun x32 =>
      opS P (S.ld 24 x32) fun x33 =>
      opS P (S.cl 26 [x0, x31, x33]) fun x34 =>
      opS P (S.ext x34 0) fun x35 =>
      opS P (S.ext x34 1) fun x36 =>
      drw <|
      opS P (S.nc x0) fun x37 =>
      opS P (S.fa 62 x37 0) fun x38 =>
      opS P (S.ld 37 x38) fun x39 =>
      opS P (S.ld 33 x22) fun x40 =>
      opS P (S.ia 37 x39 x35) fun x41 =>
      opS P (S.st 33 x41 x40) fun x42 =>
      opS P (S.cl 52 [x0, x9]) fun x43 =>
      j1 x43
    ) (
      j0
    )
  ) x8
instance fnb62 : FnB Try.prog 62 := ⟨Try.call62⟩
theorem e62 : p62 Try.prog = fun K x0 x1 => denF Try.prog Try.f62 [x0, x1] K := by kernel_rfl
theorem c62 {K : Value → World → Prop} {x0 x1 : Value} {w : World} (h : p62 Try.prog K x0 x1 w) : CallsR Try.prog 62 #[x0, x1] K w := by
  rw [e62] at h
  exact denF_sound mixed Try.func62 h

-- gemel/mac.Number
def p64 (P : Program) (K : Value → World → Prop) (x0 : Value) : World → Prop :=
  opS P (S.box 24 x0) fun x1 =>
  jnJ 1 (fun x2 =>
    K x2
  ) fun j0 =>
  loopJ 2 (fun j1 x2 x3 =>
    opS P (S.binI .lss x3 (.int .i64 6)) fun x4 =>
    brn x4 (
      opS P (S.binI .shl x2 (.int .u64 8)) fun x5 =>
      opS P (S.ia 24 x1 x3) fun x6 =>
      opS P (S.ld 5 x6) fun x7 =>
      opS P (S.convI .u64 x7) fun x8 =>
      opS P (S.binI .or x5 x8) fun x9 =>
      opS P (S.binI .add x3 (.int .i64 1)) fun x10 =>
      j1 x9 x10
    ) (
      j0 x2
    )
  ) (.int .u64 0) (.int .i64 0)
instance fnb64 : FnB Try.prog 64 := ⟨Try.call64⟩
theorem e64 : p64 Try.prog = fun K x0 => denF Try.prog Try.f64 [x0] K := by kernel_rfl
theorem c64 {K : Value → World → Prop} {x0 : Value} {w : World} (h : p64 Try.prog K x0 w) : CallsR Try.prog 64 #[x0] K w := by
  rw [e64] at h
  exact denF_sound mixed Try.func64 h

end Go.Gx.S
-- 17 51 64 52 26 38 36 37 58 15 22 60 16 18 11 62 46
