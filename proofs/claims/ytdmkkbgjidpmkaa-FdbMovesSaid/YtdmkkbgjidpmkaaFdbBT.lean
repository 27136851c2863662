/- What the functions of this program ask. -/
import Derived.Test.YtdmkkbgjidpmkaaTy
set_option linter.unusedVariables false
set_option maxRecDepth 100000
namespace Go.Gx.S
open Go Go.Gx Go.Proofs
-- (*gemel/fdb.Table).All
def p14 (P : Program) (K : Value → World → Prop) (x0 : Value) : World → Prop :=
  opS P (S.nc x0) fun x1 =>
  opS P (S.fa 62 x1 0) fun x2 =>
  opS P (S.ld 37 x2) fun x3 =>
  opS P (S.cl 30 [x3]) fun x4 =>
  opS P (S.cl 29 [x4, (.func (.func 28) #[] #[])]) fun x5 =>
  opS P (S.cl 31 [x5, (.func (.func 32) #[] #[])]) fun x6 =>
  K x5
instance fnb14 : FnB Try.prog 14 := ⟨Try.call14⟩
theorem e14 : p14 Try.prog = fun K x0 => denF Try.prog Try.f14 [x0] K := by kernel_rfl
theorem c14 {K : Value → World → Prop} {x0 : Value} {w : World} (h : p14 Try.prog K x0 w) : CallsR Try.prog 14 #[x0] K w := by
  rw [e14] at h
  exact denF_sound mixed Try.func14 h

-- (*gemel/fdb.Table).Age
def p19 (P : Program) (K : Value → World → Prop) (x0 : Value) (x1 : Value) (x2 : Value) : World → Prop :=
  opS P (S.box 3 x1) fun x3 =>
  opS P (S.box 3 x2) fun x4 =>
  opS P (S.ld 3 x3) fun x5 =>
  opS P (S.cl 37 [x5]) fun x6 =>
  opS P (S.un .not x6) fun x7 =>
  brn x7 (
    K (.slice none 0 0)
  ) (
    opS P (S.ld 3 x4) fun x8 =>
    opS P (S.cl 37 [x8]) fun x9 =>
    opS P (S.un .not x9) fun x10 =>
    brn x10 (
      K (.slice none 0 0)
    ) (
      opS P (S.mkf (.func 40) [] [x3, x4]) fun x11 =>
      opS P (S.cl 39 [x0, x11]) fun x12 =>
      K x12
    )
  )
instance fnb19 : FnB Try.prog 19 := ⟨Try.call19⟩
theorem e19 : p19 Try.prog = fun K x0 x1 x2 => denF Try.prog Try.f19 [x0, x1, x2] K := by kernel_rfl
theorem c19 {K : Value → World → Prop} {x0 x1 x2 : Value} {w : World} (h : p19 Try.prog K x0 x1 x2 w) : CallsR Try.prog 19 #[x0, x1, x2] K w := by
  rw [e19] at h
  exact denF_sound mixed Try.func19 h

-- (*gemel/fdb.Table).FlushPort
def p20 (P : Program) (K : Value → World → Prop) (x0 : Value) (x1 : Value) : World → Prop :=
  opS P (S.box 3 x1) fun x2 =>
  opS P (S.mkf (.func 41) [] [x2]) fun x3 =>
  opS P (S.cl 39 [x0, x3]) fun x4 =>
  K x4
instance fnb20 : FnB Try.prog 20 := ⟨Try.call20⟩
theorem e20 : p20 Try.prog = fun K x0 x1 => denF Try.prog Try.f20 [x0, x1] K := by kernel_rfl
theorem c20 {K : Value → World → Prop} {x0 x1 : Value} {w : World} (h : p20 Try.prog K x0 x1 w) : CallsR Try.prog 20 #[x0, x1] K w := by
  rw [e20] at h
  exact denF_sound mixed Try.func20 h

-- (*gemel/fdb.Table).FlushVlan
def p21 (P : Program) (K : Value → World → Prop) (x0 : Value) (x1 : Value) : World → Prop :=
  opS P (S.box 3 x1) fun x2 =>
  opS P (S.mkf (.func 42) [] [x2]) fun x3 =>
  opS P (S.cl 39 [x0, x3]) fun x4 =>
  K x4
instance fnb21 : FnB Try.prog 21 := ⟨Try.call21⟩
theorem e21 : p21 Try.prog = fun K x0 x1 => denF Try.prog Try.f21 [x0, x1] K := by kernel_rfl
theorem c21 {K : Value → World → Prop} {x0 x1 : Value} {w : World} (h : p21 Try.prog K x0 x1 w) : CallsR Try.prog 21 #[x0, x1] K w := by
  rw [e21] at h
  exact denF_sound mixed Try.func21 h

-- gemel/gemelref01.Compare
def p23 (P : Program) (K : Value → World → Prop) (x0 : Value) (x1 : Value) : World → Prop :=
  opS P (S.box 24 x0) fun x2 =>
  opS P (S.box 24 x1) fun x3 =>
  opS P (S.ld 24 x2) fun x4 =>
  opS P (S.cl 43 [x4]) fun x5 =>
  opS P (S.ld 24 x3) fun x6 =>
  opS P (S.cl 43 [x6]) fun x7 =>
  opS P (S.binI .lss x5 x7) fun x8 =>
  brn x8 (
    K (.int .i64 (-1))
  ) (
    opS P (S.binI .gtr x5 x7) fun x9 =>
    brn x9 (
      K (.int .i64 1)
    ) (
      K (.int .i64 0)
    )
  )
instance fnb23 : FnB Try.prog 23 := ⟨Try.call23⟩
theorem e23 : p23 Try.prog = fun K x0 x1 => denF Try.prog Try.f23 [x0, x1] K := by kernel_rfl
theorem c23 {K : Value → World → Prop} {x0 x1 : Value} {w : World} (h : p23 Try.prog K x0 x1 w) : CallsR Try.prog 23 #[x0, x1] K w := by
  rw [e23] at h
  exact denF_sound mixed Try.func23 h

-- (*gemel/fdb.Table).All$1
def p28 (P : Program) (K : Value → World → Prop) (x0 : Value) : World → Prop :=
  opS P (S.box 33 x0) fun x1 =>
  opS P (S.ld 33 x1) fun x2 =>
  opS P (S.build 33 []) fun x3 =>
  opS P (S.binG .eql 33 x2 x3) fun x4 =>
  K x4
instance fnb28 : FnB Try.prog 28 := ⟨Try.call28⟩
theorem e28 : p28 Try.prog = fun K x0 => denF Try.prog Try.f28 [x0] K := by kernel_rfl
theorem c28 {K : Value → World → Prop} {x0 : Value} {w : World} (h : p28 Try.prog K x0 w) : CallsR Try.prog 28 #[x0] K w := by
  rw [e28] at h
  exact denF_sound mixed Try.func28 h

-- slices.DeleteFunc[[]gemel/api.Entry,gemel/api.Entry]
def p29 (P : Program) (K : Value → World → Prop) (x0 : Value) (x1 : Value) : World → Prop :=
  opS P (S.cl 53 [x0, x1]) fun x2 =>
  opS P (S.binI .eql x2 (.int .i64 (-1))) fun x3 =>
  brn x3 (
    K x0
  ) (
    opS P (S.binI .add x2 (.int .i64 1)) fun x4 =>
    jnJ 1 (fun x5 =>
      opS P (S.slc 37 x0 (some x5) none none) fun x6 =>
      opS P (S.bi .clear #[37] 0 [x6]) fun x7 =>
      opS P (S.slc 37 x0 none (some x5) none) fun x8 =>
      K x8
    ) fun j0 =>
    loopJ 2 (fun j1 x5 x6 =>
      opS P (S.len x0) fun x7 =>
      opS P (S.binI .lss x6 x7) fun x8 =>
      brn x8 (
        opS P (S.ia 37 x0 x6) fun x9 =>
        opS P (S.ld 33 x9) fun x10 =>
        opS P (S.alloc 33) fun x11 =>
        opS P (S.st 33 x11 x10) fun x12 =>
        opS P (S.ld 33 x11) fun x13 =>
        opS P (S.call x1 [x13]) fun x14 =>
        opS P (S.un .not x14) fun x15 =>
        brn x15 (
          opS P (S.ld 33 x11) fun x16 =>
          opS P (S.ia 37 x0 x5) fun x17 =>
          opS P (S.st 33 x17 x16) fun x18 =>
          opS P (S.binI .add x5 (.int .i64 1)) fun x19 =>
          opS P (S.binI .add x6 (.int .i64 1)) fun x20 =>
          j1 x19 x20
        ) (
          opS P (S.binI .add x6 (.int .i64 1)) fun x16 =>
          j1 x5 x16
        )
      ) (
        j0 x5
      )
    ) x2 x4
  )
instance fnb29 : FnB Try.prog 29 := ⟨Try.call29⟩
theorem e29 : p29 Try.prog = fun K x0 x1 => denF Try.prog Try.f29 [x0, x1] K := by kernel_rfl
theorem c29 {K : Value → World → Prop} {x0 x1 : Value} {w : World} (h : p29 Try.prog K x0 x1 w) : CallsR Try.prog 29 #[x0, x1] K w := by
  rw [e29] at h
  exact denF_sound mixed Try.func29 h

-- slices.Clone[[]gemel/api.Entry,gemel/api.Entry]
def p30 (P : Program) (K : Value → World → Prop) (x0 : Value) : World → Prop :=
  opS P (S.binN .eql (S.isNilS x0)) fun x1 =>
  brn x1 (
    K (.slice none 0 0)
  ) (
    opS P (S.buildS 37 0 []) fun x2 =>
    opS P (S.bi .append #[37, 37] 37 [x2, x0]) fun x3 =>
    K x3
  )
instance fnb30 : FnB Try.prog 30 := ⟨Try.call30⟩
theorem e30 : p30 Try.prog = fun K x0 => denF Try.prog Try.f30 [x0] K := by kernel_rfl
theorem c30 {K : Value → World → Prop} {x0 : Value} {w : World} (h : p30 Try.prog K x0 w) : CallsR Try.prog 30 #[x0] K w := by
  rw [e30] at h
  exact denF_sound mixed Try.func30 h

-- (*gemel/fdb.Table).All$2
def p32 (P : Program) (K : Value → World → Prop) (x0 : Value) (x1 : Value) : World → Prop :=
  opS P (S.box 33 x0) fun x2 =>
  opS P (S.box 33 x1) fun x3 =>
  drw <|
  opS P (S.fa 33 x2 0) fun x4 =>
  opS P (S.ld 3 x4) fun x5 =>
  opS P (S.fa 33 x3 0) fun x6 =>
  opS P (S.ld 3 x6) fun x7 =>
  opS P (S.fa 33 x2 1) fun x8 =>
  opS P (S.fa 33 x3 1) fun x9 =>
  allW (
    opS P (S.cl 34 [x5, x7]) fun x10 =>
    opS P (S.ld 24 x8) fun x11 =>
    opS P (S.ld 24 x9) fun x12 =>
    opS P (S.cl 35 [x11, x12]) fun x13 =>
    opS P (S.buildS 82 2 [(0, x10), (1, x13)]) fun x14 =>
    opS P (S.cl 33 [x14]) fun x15 =>
    K x15
  ) (
    allW (
      opS P (S.ld 24 x8) fun x10 =>
      allW (
        opS P (S.cl 34 [x5, x7]) fun x11 =>
        opS P (S.ld 24 x9) fun x12 =>
        opS P (S.cl 35 [x10, x12]) fun x13 =>
        opS P (S.buildS 82 2 [(0, x11), (1, x13)]) fun x14 =>
        opS P (S.cl 33 [x14]) fun x15 =>
        K x15
      ) (
        opS P (S.ld 24 x9) fun x11 =>
        opS P (S.cl 34 [x5, x7]) fun x12 =>
        opS P (S.cl 35 [x10, x11]) fun x13 =>
        opS P (S.buildS 82 2 [(0, x12), (1, x13)]) fun x14 =>
        opS P (S.cl 33 [x14]) fun x15 =>
        K x15
      )
    ) (
      opS P (S.ld 24 x9) fun x10 =>
      allW (
        opS P (S.cl 34 [x5, x7]) fun x11 =>
        opS P (S.ld 24 x8) fun x12 =>
        opS P (S.cl 35 [x12, x10]) fun x13 =>
        opS P (S.buildS 82 2 [(0, x11), (1, x13)]) fun x14 =>
        opS P (S.cl 33 [x14]) fun x15 =>
        K x15
      ) (
        opS P (S.ld 24 x8) fun x11 =>
        opS P (S.cl 34 [x5, x7]) fun x12 =>
        opS P (S.cl 35 [x11, x10]) fun x13 =>
        opS P (S.buildS 82 2 [(0, x12), (1, x13)]) fun x14 =>
        opS P (S.cl 33 [x14]) fun x15 =>
        K x15
      )
    )
  )
instance fnb32 : FnB Try.prog 32 := ⟨Try.call32⟩
theorem e32 : p32 Try.prog = fun K x0 x1 => denF Try.prog Try.f32 [x0, x1] K := by kernel_rfl
theorem c32 {K : Value → World → Prop} {x0 x1 : Value} {w : World} (h : p32 Try.prog K x0 x1 w) : CallsR Try.prog 32 #[x0, x1] K w := by
  rw [e32] at h
  exact denF_sound mixed Try.func32 h

-- cmp.Or[int]
def p33 (P : Program) (K : Value → World → Prop) (x0 : Value) : World → Prop :=
  opS P (S.len x0) fun x1 =>
  jnJ 0 (
    K (.int .i64 0)
  ) fun j0 =>
  loopJ 1 (fun j1 x2 =>
    opS P (S.binI .lss x2 x1) fun x3 =>
    brn x3 (
      opS P (S.ia 82 x0 x2) fun x4 =>
      opS P (S.ld 3 x4) fun x5 =>
      opS P (S.binI .neq x5 (.int .i64 0)) fun x6 =>
      brn x6 (
        K x5
      ) (
        opS P (S.binI .add x2 (.int .i64 1)) fun x7 =>
        j1 x7
      )
    ) (
      j0
    )
  ) (.int .i64 0)
instance fnb33 : FnB Try.prog 33 := ⟨Try.call33⟩
theorem e33 : p33 Try.prog = fun K x0 => denF Try.prog Try.f33 [x0] K := by kernel_rfl
theorem c33 {K : Value → World → Prop} {x0 : Value} {w : World} (h : p33 Try.prog K x0 w) : CallsR Try.prog 33 #[x0] K w := by
  rw [e33] at h
  exact denF_sound mixed Try.func33 h

-- cmp.Compare[int]
def p34 (P : Program) (K : Value → World → Prop) (x0 : Value) (x1 : Value) : World → Prop :=
  opS P (S.cl 56 [x0]) fun x2 =>
  opS P (S.cl 56 [x1]) fun x3 =>
  brn x2 (
    brn x3 (
      K (.int .i64 0)
    ) (
      K (.int .i64 (-1))
    )
  ) (
    brn x3 (
      K (.int .i64 1)
    ) (
      opS P (S.binI .lss x0 x1) fun x4 =>
      brn x4 (
        K (.int .i64 (-1))
      ) (
        opS P (S.binI .gtr x0 x1) fun x5 =>
        brn x5 (
          K (.int .i64 1)
        ) (
          K (.int .i64 0)
        )
      )
    )
  )
instance fnb34 : FnB Try.prog 34 := ⟨Try.call34⟩
theorem e34 : p34 Try.prog = fun K x0 x1 => denF Try.prog Try.f34 [x0, x1] K := by kernel_rfl
theorem c34 {K : Value → World → Prop} {x0 x1 : Value} {w : World} (h : p34 Try.prog K x0 x1 w) : CallsR Try.prog 34 #[x0, x1] K w := by
  rw [e34] at h
  exact denF_sound mixed Try.func34 h

-- gemel/mac.Compare
def p35 (P : Program) (K : Value → World → Prop) (x0 : Value) (x1 : Value) : World → Prop :=
  opS P (S.box 24 x0) fun x2 =>
  opS P (S.box 24 x1) fun x3 =>
  drw <|
  opS P (S.slc 24 x2 none none none) fun x4 =>
  opS P (S.slc 24 x3 none none none) fun x5 =>
  opS P (S.cl 57 [x4, x5]) fun x6 =>
  K x6
instance fnb35 : FnB Try.prog 35 := ⟨Try.call35⟩
theorem e35 : p35 Try.prog = fun K x0 x1 => denF Try.prog Try.f35 [x0, x1] K := by kernel_rfl
theorem c35 {K : Value → World → Prop} {x0 x1 : Value} {w : World} (h : p35 Try.prog K x0 x1 w) : CallsR Try.prog 35 #[x0, x1] K w := by
  rw [e35] at h
  exact denF_sound mixed Try.func35 h

-- (*gemel/fdb.Table).forget
def p39 (P : Program) (K : Value → World → Prop) (x0 : Value) (x1 : Value) : World → Prop :=
  opS P (S.box 64 x1) fun x2 =>
  opS P (S.cl 14 [x0]) fun x3 =>
  opS P (S.mkf (.func 59) [] [x2]) fun x4 =>
  opS P (S.cl 29 [x3, x4]) fun x5 =>
  opS P (S.len x5) fun x6 =>
  jnJ 0 (
    K x5
  ) fun j0 =>
  loopJ 1 (fun j1 x7 =>
    opS P (S.binI .lss x7 x6) fun x8 =>
    brn x8 (
      opS P (S.ia 37 x5 x7) fun x9 =>
      opS P (S.ld 33 x9) fun x10 =>
      opS P (S.alloc 33) fun x11 =>
      opS P (S.st 33 x11 x10) fun x12 =>
      opS P (S.fa 33 x11 0) fun x13 =>
      opS P (S.ld 3 x13) fun x14 =>
      opS P (S.fa 33 x11 1) fun x15 =>
      opS P (S.ld 24 x15) fun x16 =>
      opS P (S.cl 46 [x0, x14, x16]) fun x17 =>
      opS P (S.binI .add x7 (.int .i64 1)) fun x18 =>
      j1 x18
    ) (
      j0
    )
  ) (.int .i64 0)
instance fnb39 : FnB Try.prog 39 := ⟨Try.call39⟩
theorem e39 : p39 Try.prog = fun K x0 x1 => denF Try.prog Try.f39 [x0, x1] K := by kernel_rfl
theorem c39 {K : Value → World → Prop} {x0 x1 : Value} {w : World} (h : p39 Try.prog K x0 x1 w) : CallsR Try.prog 39 #[x0, x1] K w := by
  rw [e39] at h
  exact denF_sound mixed Try.func39 h

-- (*gemel/fdb.Table).Age$1
def p40 (P : Program) (K : Value → World → Prop) (x0 : Value) (x1 : Value) (x2 : Value) : World → Prop :=
  opS P (S.box 33 x0) fun x3 =>
  opS P (S.ld 3 x1) fun x4 =>
  opS P (S.fa 33 x3 3) fun x5 =>
  opS P (S.ld 3 x5) fun x6 =>
  opS P (S.binI .sub x4 x6) fun x7 =>
  opS P (S.ld 3 x2) fun x8 =>
  opS P (S.binI .geq x7 x8) fun x9 =>
  K x9
instance fnb40 : FnB Try.prog 40 := ⟨Try.call40⟩
theorem e40 : p40 Try.prog = fun K x0 x1 x2 => denF Try.prog Try.f40 [x0, x1, x2] K := by kernel_rfl
theorem c40 {K : Value → World → Prop} {x0 x1 x2 : Value} {w : World} (h : p40 Try.prog K x0 x1 x2 w) : CallsR Try.prog 40 #[x0, x1, x2] K w := by
  rw [e40] at h
  exact denF_sound mixed Try.func40 h

-- (*gemel/fdb.Table).FlushPort$1
def p41 (P : Program) (K : Value → World → Prop) (x0 : Value) (x1 : Value) : World → Prop :=
  opS P (S.box 33 x0) fun x2 =>
  opS P (S.fa 33 x2 2) fun x3 =>
  opS P (S.ld 3 x3) fun x4 =>
  opS P (S.ld 3 x1) fun x5 =>
  opS P (S.binI .eql x4 x5) fun x6 =>
  K x6
instance fnb41 : FnB Try.prog 41 := ⟨Try.call41⟩
theorem e41 : p41 Try.prog = fun K x0 x1 => denF Try.prog Try.f41 [x0, x1] K := by kernel_rfl
theorem c41 {K : Value → World → Prop} {x0 x1 : Value} {w : World} (h : p41 Try.prog K x0 x1 w) : CallsR Try.prog 41 #[x0, x1] K w := by
  rw [e41] at h
  exact denF_sound mixed Try.func41 h

-- (*gemel/fdb.Table).FlushVlan$1
def p42 (P : Program) (K : Value → World → Prop) (x0 : Value) (x1 : Value) : World → Prop :=
  opS P (S.box 33 x0) fun x2 =>
  opS P (S.fa 33 x2 0) fun x3 =>
  opS P (S.ld 3 x3) fun x4 =>
  opS P (S.ld 3 x1) fun x5 =>
  opS P (S.binI .eql x4 x5) fun x6 =>
  K x6
instance fnb42 : FnB Try.prog 42 := ⟨Try.call42⟩
theorem e42 : p42 Try.prog = fun K x0 x1 => denF Try.prog Try.f42 [x0, x1] K := by kernel_rfl
theorem c42 {K : Value → World → Prop} {x0 x1 : Value} {w : World} (h : p42 Try.prog K x0 x1 w) : CallsR Try.prog 42 #[x0, x1] K w := by
  rw [e42] at h
  exact denF_sound mixed Try.func42 h

-- gemel/gemelref01.Number
def p43 (P : Program) (K : Value → World → Prop) (x0 : Value) : World → Prop :=
  opS P (S.box 24 x0) fun x1 =>
  jnJ 1 (fun x2 =>
    K x2
  ) fun j0 =>
  loopJ 2 (fun j1 x2 x3 =>
    opS P (S.binI .lss x3 (.int .i64 6)) fun x4 =>
    brn x4 (
      opS P (S.binI .mul x2 (.int .u64 256)) fun x5 =>
      opS P (S.ia 24 x1 x3) fun x6 =>
      opS P (S.ld 5 x6) fun x7 =>
      opS P (S.convI .u64 x7) fun x8 =>
      opS P (S.binI .add x5 x8) fun x9 =>
      opS P (S.binI .add x3 (.int .i64 1)) fun x10 =>
      j1 x9 x10
    ) (
      j0 x2
    )
  ) (.int .u64 0) (.int .i64 0)
instance fnb43 : FnB Try.prog 43 := ⟨Try.call43⟩
theorem e43 : p43 Try.prog = fun K x0 => denF Try.prog Try.f43 [x0] K := by kernel_rfl
theorem c43 {K : Value → World → Prop} {x0 : Value} {w : World} (h : p43 Try.prog K x0 w) : CallsR Try.prog 43 #[x0] K w := by
  rw [e43] at h
  exact denF_sound mixed Try.func43 h

-- slices.IndexFunc[[]gemel/api.Entry,gemel/api.Entry]
def p53 (P : Program) (K : Value → World → Prop) (x0 : Value) (x1 : Value) : World → Prop :=
  opS P (S.len x0) fun x2 =>
  jnJ 0 (
    K (.int .i64 (-1))
  ) fun j0 =>
  loopJ 1 (fun j1 x3 =>
    opS P (S.binI .lss x3 x2) fun x4 =>
    brn x4 (
      opS P (S.ia 37 x0 x3) fun x5 =>
      opS P (S.ld 33 x5) fun x6 =>
      opS P (S.call x1 [x6]) fun x7 =>
      brn x7 (
        K x3
      ) (
        opS P (S.binI .add x3 (.int .i64 1)) fun x8 =>
        j1 x8
      )
    ) (
      j0
    )
  ) (.int .i64 0)
instance fnb53 : FnB Try.prog 53 := ⟨Try.call53⟩
theorem e53 : p53 Try.prog = fun K x0 x1 => denF Try.prog Try.f53 [x0, x1] K := by kernel_rfl
theorem c53 {K : Value → World → Prop} {x0 x1 : Value} {w : World} (h : p53 Try.prog K x0 x1 w) : CallsR Try.prog 53 #[x0, x1] K w := by
  rw [e53] at h
  exact denF_sound mixed Try.func53 h

-- cmp.isNaN[int]
def p56 (P : Program) (K : Value → World → Prop) (x0 : Value) : World → Prop :=
  opS P (S.binI .neq x0 x0) fun x1 =>
  K x1
instance fnb56 : FnB Try.prog 56 := ⟨Try.call56⟩
theorem e56 : p56 Try.prog = fun K x0 => denF Try.prog Try.f56 [x0] K := by kernel_rfl
theorem c56 {K : Value → World → Prop} {x0 : Value} {w : World} (h : p56 Try.prog K x0 w) : CallsR Try.prog 56 #[x0] K w := by
  rw [e56] at h
  exact denF_sound mixed Try.func56 h

-- bytes.Compare
def p57 (P : Program) (K : Value → World → Prop) (x0 : Value) (x1 : Value) : World → Prop :=
  opS P (S.cl 75 [x0, x1]) fun x2 =>
  K x2
instance fnb57 : FnB Try.prog 57 := ⟨Try.call57⟩
theorem e57 : p57 Try.prog = fun K x0 x1 => denF Try.prog Try.f57 [x0, x1] K := by kernel_rfl
theorem c57 {K : Value → World → Prop} {x0 x1 : Value} {w : World} (h : p57 Try.prog K x0 x1 w) : CallsR Try.prog 57 #[x0, x1] K w := by
  rw [e57] at h
  exact denF_sound mixed Try.func57 h

-- (*gemel/fdb.Table).forget$1
def p59 (P : Program) (K : Value → World → Prop) (x0 : Value) (x1 : Value) : World → Prop :=
  opS P (S.box 33 x0) fun x2 =>
  opS P (S.fa 33 x2 4) fun x3 =>
  opS P (S.ld 4 x3) fun x4 =>
  brn x4 (
    K (.bool true)
  ) (
    opS P (S.ld 64 x1) fun x5 =>
    opS P (S.ld 33 x2) fun x6 =>
    opS P (S.call x5 [x6]) fun x7 =>
    opS P (S.un .not x7) fun x8 =>
    K x8
  )
instance fnb59 : FnB Try.prog 59 := ⟨Try.call59⟩
theorem e59 : p59 Try.prog = fun K x0 x1 => denF Try.prog Try.f59 [x0, x1] K := by kernel_rfl
theorem c59 {K : Value → World → Prop} {x0 x1 : Value} {w : World} (h : p59 Try.prog K x0 x1 w) : CallsR Try.prog 59 #[x0, x1] K w := by
  rw [e59] at h
  exact denF_sound mixed Try.func59 h

end Go.Gx.S
-- 34 56 33 35 57 32 23 43 14 28 29 30 53 39 59 19 20 21 40 41 42
