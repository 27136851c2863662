/- What the functions of this program ask. -/
import Derived.Test.YtclkdldkebjgpaaTy
set_option linter.unusedVariables false
set_option maxRecDepth 100000
namespace Go.Gx.S
open Go Go.Gx Go.Proofs
-- gemel/fdb.New
def p5 (P : Program) (K : Value → World → Prop) (x0 : Value) : World → Prop :=
  opS P (S.binI .lss x0 (.int .i64 1)) fun x1 =>
  brn x1 (
    K (.tuple #[(.pointer none), (.int .i64 1)])
  ) (
    opS P (S.binI .gtr x0 (.int .i64 1024)) fun x2 =>
    brn x2 (
      K (.tuple #[(.pointer none), (.int .i64 1)])
    ) (
      opS P (S.binI .mul (.int .i64 2) x0) fun x3 =>
      opS P (S.mks 30 x3 x3) fun x4 =>
      opS P (S.build 69 [(0, x4)]) fun x5 =>
      opS P (S.box 69 x5) fun x6 =>
      K (.tuple #[x6, (.int .i64 0)])
    )
  )
instance fnb5 : FnB Try.prog 5 := ⟨Try.call5⟩
theorem e5 : p5 Try.prog = fun K x0 => denF Try.prog Try.f5 [x0] K := by kernel_rfl
theorem c5 {K : Value → World → Prop} {x0 : Value} {w : World} (h : p5 Try.prog K x0 w) : CallsR Try.prog 5 #[x0] K w := by
  rw [e5] at h
  exact denF_sound mixed Try.func5 h

-- (*gemel/fdb.Table).Learn
def p9 (P : Program) (K : Value → World → Prop) (x0 : Value) (x1 : Value) (x2 : Value) (x3 : Value) (x4 : Value) : World → Prop :=
  opS P (S.box 34 x2) fun x5 =>
  opS P (S.ld 34 x5) fun x6 =>
  opS P (S.cl 32 [x1, x6, x3]) fun x7 =>
  opS P (S.un .not x7) fun x8 =>
  brn x8 (
    K (.tuple #[(.int .i64 0), (.int .i64 1)])
  ) (
    opS P (S.cl 33 [x4]) fun x9 =>
    opS P (S.un .not x9) fun x10 =>
    brn x10 (
      K (.tuple #[(.int .i64 0), (.int .i64 1)])
    ) (
      opS P (S.ld 34 x5) fun x11 =>
      opS P (S.cl 34 [x0, x1, x11]) fun x12 =>
      opS P (S.ext x12 0) fun x13 =>
      opS P (S.ext x12 1) fun x14 =>
      opS P (S.nc x0) fun x15 =>
      opS P (S.fa 69 x15 0) fun x16 =>
      opS P (S.ld 30 x16) fun x17 =>
      opS P (S.ia 30 x17 x13) fun x18 =>
      opS P (S.ld 40 x18) fun x19 =>
      opS P (S.alloc 40) fun x20 =>
      opS P (S.st 40 x20 x19) fun x21 =>
      jnJ 0 (
        jnJ 0 (
          drw <|
          opS P (S.nc x0) fun x22 =>
          opS P (S.fa 69 x22 0) fun x23 =>
          opS P (S.ld 30 x23) fun x24 =>
          opS P (S.ld 34 x5) fun x25 =>
          opS P (S.build 40 [(0, x1), (1, x25), (2, x3), (3, x4)]) fun x26 =>
          opS P (S.ia 30 x24 x13) fun x27 =>
          opS P (S.st 40 x27 x26) fun x28 =>
          opS P (S.un .not x14) fun x29 =>
          brn x29 (
            opS P (S.nc x0) fun x30 =>
            opS P (S.fa 69 x30 1) fun x31 =>
            opS P (S.ld 3 x31) fun x32 =>
            opS P (S.binI .add x32 (.int .i64 1)) fun x33 =>
            opS P (S.nc x0) fun x34 =>
            opS P (S.fa 69 x34 1) fun x35 =>
            opS P (S.st 3 x35 x33) fun x36 =>
            K (.tuple #[(.int .i64 1), (.int .i64 0)])
          ) (
            opS P (S.fa 40 x20 2) fun x30 =>
            opS P (S.ld 3 x30) fun x31 =>
            opS P (S.binI .neq x31 x3) fun x32 =>
            brn x32 (
              K (.tuple #[(.int .i64 2), (.int .i64 0)])
            ) (
              K (.tuple #[(.int .i64 0), (.int .i64 0)])
            )
          )
        ) fun j0 =>
        opS P (S.un .not x14) fun x22 =>
        brn x22 (
          opS P (S.cl 35 [x0]) fun x23 =>
          brn x23 (
            K (.tuple #[(.int .i64 0), (.int .i64 3)])
          ) (
            j0
          )
        ) (
          j0
        )
      ) fun j0 =>
      brn x14 (
        opS P (S.fa 40 x20 4) fun x22 =>
        opS P (S.ld 4 x22) fun x23 =>
        brn x23 (
          K (.tuple #[(.int .i64 0), (.int .i64 0)])
        ) (
          j0
        )
      ) (
        j0
      )
    )
  )
instance fnb9 : FnB Try.prog 9 := ⟨Try.call9⟩
theorem e9 : p9 Try.prog = fun K x0 x1 x2 x3 x4 => denF Try.prog Try.f9 [x0, x1, x2, x3, x4] K := by kernel_rfl
theorem c9 {K : Value → World → Prop} {x0 x1 x2 x3 x4 : Value} {w : World} (h : p9 Try.prog K x0 x1 x2 x3 x4 w) : CallsR Try.prog 9 #[x0, x1, x2, x3, x4] K w := by
  rw [e9] at h
  exact denF_sound mixed Try.func9 h

-- (*gemel/fdb.Table).Look
def p10 (P : Program) (K : Value → World → Prop) (x0 : Value) (x1 : Value) (x2 : Value) : World → Prop :=
  opS P (S.box 34 x2) fun x3 =>
  opS P (S.alloc 40) fun x4 =>
  opS P (S.ld 34 x3) fun x5 =>
  opS P (S.cl 34 [x0, x1, x5]) fun x6 =>
  opS P (S.ext x6 0) fun x7 =>
  opS P (S.ext x6 1) fun x8 =>
  opS P (S.nc x0) fun x9 =>
  opS P (S.fa 69 x9 0) fun x10 =>
  opS P (S.ld 30 x10) fun x11 =>
  opS P (S.ia 30 x11 x7) fun x12 =>
  opS P (S.ld 40 x12) fun x13 =>
  opS P (S.st 40 x4 x13) fun x14 =>
  opS P (S.ld 40 x4) fun x15 =>
  K (.tuple #[x15, x8])
instance fnb10 : FnB Try.prog 10 := ⟨Try.call10⟩
theorem e10 : p10 Try.prog = fun K x0 x1 x2 => denF Try.prog Try.f10 [x0, x1, x2] K := by kernel_rfl
theorem c10 {K : Value → World → Prop} {x0 x1 x2 : Value} {w : World} (h : p10 Try.prog K x0 x1 x2 w) : CallsR Try.prog 10 #[x0, x1, x2] K w := by
  rw [e10] at h
  exact denF_sound mixed Try.func10 h

-- (*gemel/fdb.Table).Remove
def p12 (P : Program) (K : Value → World → Prop) (x0 : Value) (x1 : Value) (x2 : Value) : World → Prop :=
  opS P (S.box 34 x2) fun x3 =>
  opS P (S.ld 34 x3) fun x4 =>
  opS P (S.cl 34 [x0, x1, x4]) fun x5 =>
  opS P (S.ext x5 0) fun x6 =>
  opS P (S.ext x5 1) fun x7 =>
  brn x7 (
    opS P (S.cl 36 [x0, x6]) fun x8 =>
    K x7
  ) (
    K x7
  )
instance fnb12 : FnB Try.prog 12 := ⟨Try.call12⟩
theorem e12 : p12 Try.prog = fun K x0 x1 x2 => denF Try.prog Try.f12 [x0, x1, x2] K := by kernel_rfl
theorem c12 {K : Value → World → Prop} {x0 x1 x2 : Value} {w : World} (h : p12 Try.prog K x0 x1 x2 w) : CallsR Try.prog 12 #[x0, x1, x2] K w := by
  rw [e12] at h
  exact denF_sound mixed Try.func12 h

-- gemel/fdb.right
def p32 (P : Program) (K : Value → World → Prop) (x0 : Value) (x1 : Value) (x2 : Value) : World → Prop :=
  opS P (S.box 34 x1) fun x3 =>
  opS P (S.binI .geq x0 (.int .i64 1)) fun x4 =>
  brn x4 (
    opS P (S.binI .leq x0 (.int .i64 4094)) fun x5 =>
    brn x5 (
      opS P (S.binI .geq x2 (.int .i64 0)) fun x6 =>
      brn x6 (
        opS P (S.binI .leq x2 (.int .i64 1000)) fun x7 =>
        brn x7 (
          opS P (S.ld 34 x3) fun x8 =>
          opS P (S.cl 73 [x8]) fun x9 =>
          opS P (S.un .not x9) fun x10 =>
          K x10
        ) (
          K (.bool false)
        )
      ) (
        K (.bool false)
      )
    ) (
      K (.bool false)
    )
  ) (
    K (.bool false)
  )
instance fnb32 : FnB Try.prog 32 := ⟨Try.call32⟩
theorem e32 : p32 Try.prog = fun K x0 x1 x2 => denF Try.prog Try.f32 [x0, x1, x2] K := by kernel_rfl
theorem c32 {K : Value → World → Prop} {x0 x1 x2 : Value} {w : World} (h : p32 Try.prog K x0 x1 x2 w) : CallsR Try.prog 32 #[x0, x1, x2] K w := by
  rw [e32] at h
  exact denF_sound mixed Try.func32 h

-- gemel/fdb.timed
def p33 (P : Program) (K : Value → World → Prop) (x0 : Value) : World → Prop :=
  opS P (S.binI .geq x0 (.int .i64 0)) fun x1 =>
  brn x1 (
    opS P (S.binI .leq x0 (.int .i64 1099511627776)) fun x2 =>
    K x2
  ) (
    K (.bool false)
  )
instance fnb33 : FnB Try.prog 33 := ⟨Try.call33⟩
theorem e33 : p33 Try.prog = fun K x0 => denF Try.prog Try.f33 [x0] K := by kernel_rfl
theorem c33 {K : Value → World → Prop} {x0 : Value} {w : World} (h : p33 Try.prog K x0 w) : CallsR Try.prog 33 #[x0] K w := by
  rw [e33] at h
  exact denF_sound mixed Try.func33 h

-- (*gemel/fdb.Table).find
def p34 (P : Program) (K : Value → World → Prop) (x0 : Value) (x1 : Value) (x2 : Value) : World → Prop :=
  opS P (S.box 34 x2) fun x3 =>
  opS P (S.ld 34 x3) fun x4 =>
  opS P (S.cl 74 [x0, x1, x4]) fun x5 =>
  jnJ 2 (fun x6 x7 =>
    K (.tuple #[x6, x7])
  ) fun j0 =>
  loopJ 2 (fun j1 x6 x7 =>
    opS P (S.nc x0) fun x8 =>
    opS P (S.fa 69 x8 0) fun x9 =>
    opS P (S.ld 30 x9) fun x10 =>
    opS P (S.ia 30 x10 x6) fun x11 =>
    opS P (S.ld 40 x11) fun x12 =>
    opS P (S.build 40 []) fun x13 =>
    opS P (S.binG .neq 40 x12 x13) fun x14 =>
    brn x14 (
      drw <|
      opS P (S.nc x0) fun x15 =>
      opS P (S.fa 69 x15 0) fun x16 =>
      opS P (S.ld 30 x16) fun x17 =>
      opS P (S.ia 30 x17 x6) fun x18 =>
      opS P (S.fa 40 x18 0) fun x19 =>
      opS P (S.ld 3 x19) fun x20 =>
      opS P (S.binI .eql x20 x1) fun x21 =>
      brn x21 (
        opS P (S.nc x0) fun x22 =>
        opS P (S.fa 69 x22 0) fun x23 =>
        opS P (S.ld 30 x23) fun x24 =>
        opS P (S.ia 30 x24 x6) fun x25 =>
        opS P (S.fa 40 x25 1) fun x26 =>
        opS P (S.ld 34 x26) fun x27 =>
        opS P (S.ld 34 x3) fun x28 =>
        opS P (S.binG .eql 34 x27 x28) fun x29 =>
        brn x29 (
          j0 x6 x29
        ) (
          opS P (S.cl 75 [x0, x6]) fun x30 =>
          j1 x30 x29
        )
      ) (
        opS P (S.cl 75 [x0, x6]) fun x22 =>
        j1 x22 (.bool false)
      )
    ) (
      j0 x6 x7
    )
  ) x5 (.bool false)
instance fnb34 : FnB Try.prog 34 := ⟨Try.call34⟩
theorem e34 : p34 Try.prog = fun K x0 x1 x2 => denF Try.prog Try.f34 [x0, x1, x2] K := by kernel_rfl
theorem c34 {K : Value → World → Prop} {x0 x1 x2 : Value} {w : World} (h : p34 Try.prog K x0 x1 x2 w) : CallsR Try.prog 34 #[x0, x1, x2] K w := by
  rw [e34] at h
  exact denF_sound mixed Try.func34 h

-- (*gemel/fdb.Table).full
def p35 (P : Program) (K : Value → World → Prop) (x0 : Value) : World → Prop :=
  drw <|
  opS P (S.nc x0) fun x1 =>
  opS P (S.fa 69 x1 1) fun x2 =>
  opS P (S.ld 3 x2) fun x3 =>
  opS P (S.binI .mul (.int .i64 2) x3) fun x4 =>
  opS P (S.nc x0) fun x5 =>
  opS P (S.fa 69 x5 0) fun x6 =>
  opS P (S.ld 30 x6) fun x7 =>
  opS P (S.len x7) fun x8 =>
  opS P (S.binI .geq x4 x8) fun x9 =>
  K x9
instance fnb35 : FnB Try.prog 35 := ⟨Try.call35⟩
theorem e35 : p35 Try.prog = fun K x0 => denF Try.prog Try.f35 [x0] K := by kernel_rfl
theorem c35 {K : Value → World → Prop} {x0 : Value} {w : World} (h : p35 Try.prog K x0 w) : CallsR Try.prog 35 #[x0] K w := by
  rw [e35] at h
  exact denF_sound mixed Try.func35 h

-- (*gemel/fdb.Table).take
def p36 (P : Program) (K : Value → World → Prop) (x0 : Value) (x1 : Value) : World → Prop :=
  opS P (S.nc x0) fun x2 =>
  opS P (S.fa 69 x2 0) fun x3 =>
  opS P (S.ld 30 x3) fun x4 =>
  opS P (S.build 40 []) fun x5 =>
  opS P (S.ia 30 x4 x1) fun x6 =>
  opS P (S.st 40 x6 x5) fun x7 =>
  opS P (S.cl 75 [x0, x1]) fun x8 =>
  jnJ 0 (
    opS P (S.nc x0) fun x9 =>
    opS P (S.fa 69 x9 1) fun x10 =>
    opS P (S.ld 3 x10) fun x11 =>
    opS P (S.binI .sub x11 (.int .i64 1)) fun x12 =>
    opS P (S.nc x0) fun x13 =>
    opS P (S.fa 69 x13 1) fun x14 =>
    opS P (S.st 3 x14 x12) fun x15 =>
    K (.tuple #[])
  ) fun j0 =>
  loopJ 1 (fun j1 x9 =>
    opS P (S.nc x0) fun x10 =>
    opS P (S.fa 69 x10 0) fun x11 =>
    opS P (S.ld 30 x11) fun x12 =>
    opS P (S.ia 30 x12 x9) fun x13 =>
    opS P (S.ld 40 x13) fun x14 =>
    opS P (S.build 40 []) fun x15 =>
    opS P (S.binG .neq 40 x14 x15) fun x16 =>
    brn x16 (
      opS P (S.nc x0) fun x17 =>
      opS P (S.fa 69 x17 0) fun x18 =>
      opS P (S.ld 30 x18) fun x19 =>
      opS P (S.ia 30 x19 x9) fun x20 =>
      opS P (S.ld 40 x20) fun x21 =>
      opS P (S.alloc 40) fun x22 =>
      opS P (S.st 40 x22 x21) fun x23 =>
      opS P (S.nc x0) fun x24 =>
      opS P (S.fa 69 x24 0) fun x25 =>
      opS P (S.ld 30 x25) fun x26 =>
      opS P (S.build 40 []) fun x27 =>
      opS P (S.ia 30 x26 x9) fun x28 =>
      opS P (S.st 40 x28 x27) fun x29 =>
      opS P (S.fa 40 x22 0) fun x30 =>
      opS P (S.ld 3 x30) fun x31 =>
      opS P (S.fa 40 x22 1) fun x32 =>
      opS P (S.ld 34 x32) fun x33 =>
      opS P (S.cl 34 [x0, x31, x33]) fun x34 =>
      opS P (S.ext x34 0) fun x35 =>
      opS P (S.ext x34 1) fun x36 =>
      drw <|
      opS P (S.nc x0) fun x37 =>
      opS P (S.fa 69 x37 0) fun x38 =>
      opS P (S.ld 30 x38) fun x39 =>
      opS P (S.ld 40 x22) fun x40 =>
      opS P (S.ia 30 x39 x35) fun x41 =>
      opS P (S.st 40 x41 x40) fun x42 =>
      opS P (S.cl 75 [x0, x9]) fun x43 =>
      j1 x43
    ) (
      j0
    )
  ) x8
instance fnb36 : FnB Try.prog 36 := ⟨Try.call36⟩
theorem e36 : p36 Try.prog = fun K x0 x1 => denF Try.prog Try.f36 [x0, x1] K := by kernel_rfl
theorem c36 {K : Value → World → Prop} {x0 x1 : Value} {w : World} (h : p36 Try.prog K x0 x1 w) : CallsR Try.prog 36 #[x0, x1] K w := by
  rw [e36] at h
  exact denF_sound mixed Try.func36 h

-- gemel/mac.Group
def p73 (P : Program) (K : Value → World → Prop) (x0 : Value) : World → Prop :=
  opS P (S.box 34 x0) fun x1 =>
  opS P (S.ia 34 x1 (.int .i64 0)) fun x2 =>
  opS P (S.ld 5 x2) fun x3 =>
  opS P (S.binI .and x3 (.int .u8 1)) fun x4 =>
  opS P (S.binI .eql x4 (.int .u8 1)) fun x5 =>
  K x5
instance fnb73 : FnB Try.prog 73 := ⟨Try.call73⟩
theorem e73 : p73 Try.prog = fun K x0 => denF Try.prog Try.f73 [x0] K := by kernel_rfl
theorem c73 {K : Value → World → Prop} {x0 : Value} {w : World} (h : p73 Try.prog K x0 w) : CallsR Try.prog 73 #[x0] K w := by
  rw [e73] at h
  exact denF_sound mixed Try.func73 h

-- (*gemel/fdb.Table).home
def p74 (P : Program) (K : Value → World → Prop) (x0 : Value) (x1 : Value) (x2 : Value) : World → Prop :=
  opS P (S.box 34 x2) fun x3 =>
  opS P (S.ld 34 x3) fun x4 =>
  opS P (S.cl 113 [x4]) fun x5 =>
  opS P (S.convI .u64 x1) fun x6 =>
  opS P (S.binI .shl x6 (.int .u64 48)) fun x7 =>
  opS P (S.binI .xor x5 x7) fun x8 =>
  opS P (S.binI .mul x8 (.int .u64 11400714819323198485)) fun x9 =>
  opS P (S.binI .shr x9 (.int .u64 33)) fun x10 =>
  opS P (S.convI .i64 x10) fun x11 =>
  opS P (S.nc x0) fun x12 =>
  opS P (S.fa 69 x12 0) fun x13 =>
  opS P (S.ld 30 x13) fun x14 =>
  opS P (S.len x14) fun x15 =>
  opS P (S.binI .rem x11 x15) fun x16 =>
  K x16
instance fnb74 : FnB Try.prog 74 := ⟨Try.call74⟩
theorem e74 : p74 Try.prog = fun K x0 x1 x2 => denF Try.prog Try.f74 [x0, x1, x2] K := by kernel_rfl
theorem c74 {K : Value → World → Prop} {x0 x1 x2 : Value} {w : World} (h : p74 Try.prog K x0 x1 x2 w) : CallsR Try.prog 74 #[x0, x1, x2] K w := by
  rw [e74] at h
  exact denF_sound mixed Try.func74 h

-- (*gemel/fdb.Table).next
def p75 (P : Program) (K : Value → World → Prop) (x0 : Value) (x1 : Value) : World → Prop :=
  opS P (S.binI .add x1 (.int .i64 1)) fun x2 =>
  opS P (S.nc x0) fun x3 =>
  opS P (S.fa 69 x3 0) fun x4 =>
  opS P (S.ld 30 x4) fun x5 =>
  opS P (S.len x5) fun x6 =>
  opS P (S.binI .rem x2 x6) fun x7 =>
  K x7
instance fnb75 : FnB Try.prog 75 := ⟨Try.call75⟩
theorem e75 : p75 Try.prog = fun K x0 x1 => denF Try.prog Try.f75 [x0, x1] K := by kernel_rfl
theorem c75 {K : Value → World → Prop} {x0 x1 : Value} {w : World} (h : p75 Try.prog K x0 x1 w) : CallsR Try.prog 75 #[x0, x1] K w := by
  rw [e75] at h
  exact denF_sound mixed Try.func75 h

-- gemel/mac.Number
def p113 (P : Program) (K : Value → World → Prop) (x0 : Value) : World → Prop :=
  opS P (S.box 34 x0) fun x1 =>
  jnJ 1 (fun x2 =>
    K x2
  ) fun j0 =>
  loopJ 2 (fun j1 x2 x3 =>
    opS P (S.binI .lss x3 (.int .i64 6)) fun x4 =>
    brn x4 (
      opS P (S.binI .shl x2 (.int .u64 8)) fun x5 =>
      opS P (S.ia 34 x1 x3) fun x6 =>
      opS P (S.ld 5 x6) fun x7 =>
      opS P (S.convI .u64 x7) fun x8 =>
      opS P (S.binI .or x5 x8) fun x9 =>
      opS P (S.binI .add x3 (.int .i64 1)) fun x10 =>
      j1 x9 x10
    ) (
      j0 x2
    )
  ) (.int .u64 0) (.int .i64 0)
instance fnb113 : FnB Try.prog 113 := ⟨Try.call113⟩
theorem e113 : p113 Try.prog = fun K x0 => denF Try.prog Try.f113 [x0] K := by kernel_rfl
theorem c113 {K : Value → World → Prop} {x0 : Value} {w : World} (h : p113 Try.prog K x0 w) : CallsR Try.prog 113 #[x0] K w := by
  rw [e113] at h
  exact denF_sound mixed Try.func113 h

end Go.Gx.S
-- 5 74 113 75 34 35 32 33 73 9 10 36 12
