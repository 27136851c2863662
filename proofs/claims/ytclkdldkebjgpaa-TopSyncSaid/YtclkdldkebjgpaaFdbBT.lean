/- What the functions of this program ask. -/
import Derived.Test.YtclkdldkebjgpaaTy
set_option linter.unusedVariables false
set_option maxRecDepth 100000
namespace Go.Gx.S
open Go Go.Gx Go.Proofs
-- (*gemel/fdb.Table).All
def p7 (P : Program) (K : Value → World → Prop) (x0 : Value) : World → Prop :=
  opS P (S.nc x0) fun x1 =>
  opS P (S.fa 69 x1 0) fun x2 =>
  opS P (S.ld 30 x2) fun x3 =>
  opS P (S.cl 26 [x3]) fun x4 =>
  opS P (S.cl 25 [x4, (.func (.func 24) #[] #[])]) fun x5 =>
  opS P (S.cl 27 [x5, (.func (.func 28) #[] #[])]) fun x6 =>
  K x5
instance fnb7 : FnB Try.prog 7 := ⟨Try.call7⟩
theorem e7 : p7 Try.prog = fun K x0 => denF Try.prog Try.f7 [x0] K := by kernel_rfl
theorem c7 {K : Value → World → Prop} {x0 : Value} {w : World} (h : p7 Try.prog K x0 w) : CallsR Try.prog 7 #[x0] K w := by
  rw [e7] at h
  exact denF_sound mixed Try.func7 h

-- (*gemel/fdb.Table).FlushPort
def p13 (P : Program) (K : Value → World → Prop) (x0 : Value) (x1 : Value) : World → Prop :=
  opS P (S.box 3 x1) fun x2 =>
  opS P (S.mkf (.func 38) [] [x2]) fun x3 =>
  opS P (S.cl 37 [x0, x3]) fun x4 =>
  K x4
instance fnb13 : FnB Try.prog 13 := ⟨Try.call13⟩
theorem e13 : p13 Try.prog = fun K x0 x1 => denF Try.prog Try.f13 [x0, x1] K := by kernel_rfl
theorem c13 {K : Value → World → Prop} {x0 x1 : Value} {w : World} (h : p13 Try.prog K x0 x1 w) : CallsR Try.prog 13 #[x0, x1] K w := by
  rw [e13] at h
  exact denF_sound mixed Try.func13 h

-- (*gemel/fdb.Table).Age
def p14 (P : Program) (K : Value → World → Prop) (x0 : Value) (x1 : Value) (x2 : Value) : World → Prop :=
  opS P (S.box 3 x1) fun x3 =>
  opS P (S.box 3 x2) fun x4 =>
  opS P (S.ld 3 x3) fun x5 =>
  opS P (S.cl 33 [x5]) fun x6 =>
  opS P (S.un .not x6) fun x7 =>
  brn x7 (
    K (.slice none 0 0)
  ) (
    opS P (S.ld 3 x4) fun x8 =>
    opS P (S.cl 33 [x8]) fun x9 =>
    opS P (S.un .not x9) fun x10 =>
    brn x10 (
      K (.slice none 0 0)
    ) (
      opS P (S.mkf (.func 39) [] [x3, x4]) fun x11 =>
      opS P (S.cl 37 [x0, x11]) fun x12 =>
      K x12
    )
  )
instance fnb14 : FnB Try.prog 14 := ⟨Try.call14⟩
theorem e14 : p14 Try.prog = fun K x0 x1 x2 => denF Try.prog Try.f14 [x0, x1, x2] K := by kernel_rfl
theorem c14 {K : Value → World → Prop} {x0 x1 x2 : Value} {w : World} (h : p14 Try.prog K x0 x1 x2 w) : CallsR Try.prog 14 #[x0, x1, x2] K w := by
  rw [e14] at h
  exact denF_sound mixed Try.func14 h

-- gemel/gemelref08.Same
def p16 (P : Program) (K : Value → World → Prop) (x0 : Value) (x1 : Value) : World → Prop :=
  opS P (S.len x0) fun x2 =>
  opS P (S.len x1) fun x3 =>
  opS P (S.binI .neq x2 x3) fun x4 =>
  brn x4 (
    K (.bool false)
  ) (
    jnJ 0 (
      K (.bool true)
    ) fun j0 =>
    loopJ 1 (fun j1 x5 =>
      opS P (S.len x0) fun x6 =>
      opS P (S.binI .lss x5 x6) fun x7 =>
      brn x7 (
        drw <|
        opS P (S.ia 30 x0 x5) fun x8 =>
        opS P (S.ld 40 x8) fun x9 =>
        opS P (S.ia 30 x1 x5) fun x10 =>
        opS P (S.ld 40 x10) fun x11 =>
        opS P (S.binG .neq 40 x9 x11) fun x12 =>
        brn x12 (
          K (.bool false)
        ) (
          opS P (S.binI .add x5 (.int .i64 1)) fun x13 =>
          j1 x13
        )
      ) (
        j0
      )
    ) (.int .i64 0)
  )
instance fnb16 : FnB Try.prog 16 := ⟨Try.call16⟩
theorem e16 : p16 Try.prog = fun K x0 x1 => denF Try.prog Try.f16 [x0, x1] K := by kernel_rfl
theorem c16 {K : Value → World → Prop} {x0 x1 : Value} {w : World} (h : p16 Try.prog K x0 x1 w) : CallsR Try.prog 16 #[x0, x1] K w := by
  rw [e16] at h
  exact denF_sound mixed Try.func16 h

-- (*gemel/fdb.Table).All$1
def p24 (P : Program) (K : Value → World → Prop) (x0 : Value) : World → Prop :=
  opS P (S.box 40 x0) fun x1 =>
  opS P (S.ld 40 x1) fun x2 =>
  opS P (S.build 40 []) fun x3 =>
  opS P (S.binG .eql 40 x2 x3) fun x4 =>
  K x4
instance fnb24 : FnB Try.prog 24 := ⟨Try.call24⟩
theorem e24 : p24 Try.prog = fun K x0 => denF Try.prog Try.f24 [x0] K := by kernel_rfl
theorem c24 {K : Value → World → Prop} {x0 : Value} {w : World} (h : p24 Try.prog K x0 w) : CallsR Try.prog 24 #[x0] K w := by
  rw [e24] at h
  exact denF_sound mixed Try.func24 h

-- slices.DeleteFunc[[]gemel/api.Entry,gemel/api.Entry]
def p25 (P : Program) (K : Value → World → Prop) (x0 : Value) (x1 : Value) : World → Prop :=
  opS P (S.cl 68 [x0, x1]) fun x2 =>
  opS P (S.binI .eql x2 (.int .i64 (-1))) fun x3 =>
  brn x3 (
    K x0
  ) (
    opS P (S.binI .add x2 (.int .i64 1)) fun x4 =>
    jnJ 1 (fun x5 =>
      opS P (S.slc 30 x0 (some x5) none none) fun x6 =>
      opS P (S.bi .clear #[30] 0 [x6]) fun x7 =>
      opS P (S.slc 30 x0 none (some x5) none) fun x8 =>
      K x8
    ) fun j0 =>
    loopJ 2 (fun j1 x5 x6 =>
      opS P (S.len x0) fun x7 =>
      opS P (S.binI .lss x6 x7) fun x8 =>
      brn x8 (
        opS P (S.ia 30 x0 x6) fun x9 =>
        opS P (S.ld 40 x9) fun x10 =>
        opS P (S.alloc 40) fun x11 =>
        opS P (S.st 40 x11 x10) fun x12 =>
        opS P (S.ld 40 x11) fun x13 =>
        opS P (S.call x1 [x13]) fun x14 =>
        opS P (S.un .not x14) fun x15 =>
        brn x15 (
          opS P (S.ld 40 x11) fun x16 =>
          opS P (S.ia 30 x0 x5) fun x17 =>
          opS P (S.st 40 x17 x16) fun x18 =>
          opS P (S.binI .add x5 (.int .i64 1)) fun x19 =>
          opS P (S.binI .add x6 (.int .i64 1)) fun x20 =>
          j1 x19 x20
        ) (
          opS P (S.binI .add x6 (.int .i64 1)) fun x16 =>
          j1 x5 x16
        )
      ) (
        j0 x5
      )
    ) x2 x4
  )
instance fnb25 : FnB Try.prog 25 := ⟨Try.call25⟩
theorem e25 : p25 Try.prog = fun K x0 x1 => denF Try.prog Try.f25 [x0, x1] K := by kernel_rfl
theorem c25 {K : Value → World → Prop} {x0 x1 : Value} {w : World} (h : p25 Try.prog K x0 x1 w) : CallsR Try.prog 25 #[x0, x1] K w := by
  rw [e25] at h
  exact denF_sound mixed Try.func25 h

-- slices.Clone[[]gemel/api.Entry,gemel/api.Entry]
def p26 (P : Program) (K : Value → World → Prop) (x0 : Value) : World → Prop :=
  opS P (S.binN .eql (S.isNilS x0)) fun x1 =>
  brn x1 (
    K (.slice none 0 0)
  ) (
    opS P (S.buildS 30 0 []) fun x2 =>
    opS P (S.bi .append #[30, 30] 30 [x2, x0]) fun x3 =>
    K x3
  )
instance fnb26 : FnB Try.prog 26 := ⟨Try.call26⟩
theorem e26 : p26 Try.prog = fun K x0 => denF Try.prog Try.f26 [x0] K := by kernel_rfl
theorem c26 {K : Value → World → Prop} {x0 : Value} {w : World} (h : p26 Try.prog K x0 w) : CallsR Try.prog 26 #[x0] K w := by
  rw [e26] at h
  exact denF_sound mixed Try.func26 h

-- (*gemel/fdb.Table).All$2
def p28 (P : Program) (K : Value → World → Prop) (x0 : Value) (x1 : Value) : World → Prop :=
  opS P (S.box 40 x0) fun x2 =>
  opS P (S.box 40 x1) fun x3 =>
  drw <|
  opS P (S.fa 40 x2 0) fun x4 =>
  opS P (S.ld 3 x4) fun x5 =>
  opS P (S.fa 40 x3 0) fun x6 =>
  opS P (S.ld 3 x6) fun x7 =>
  opS P (S.fa 40 x2 1) fun x8 =>
  opS P (S.fa 40 x3 1) fun x9 =>
  allW (
    opS P (S.cl 30 [x5, x7]) fun x10 =>
    opS P (S.ld 34 x8) fun x11 =>
    opS P (S.ld 34 x9) fun x12 =>
    opS P (S.cl 31 [x11, x12]) fun x13 =>
    opS P (S.buildS 59 2 [(0, x10), (1, x13)]) fun x14 =>
    opS P (S.cl 29 [x14]) fun x15 =>
    K x15
  ) (
    allW (
      opS P (S.ld 34 x8) fun x10 =>
      allW (
        opS P (S.cl 30 [x5, x7]) fun x11 =>
        opS P (S.ld 34 x9) fun x12 =>
        opS P (S.cl 31 [x10, x12]) fun x13 =>
        opS P (S.buildS 59 2 [(0, x11), (1, x13)]) fun x14 =>
        opS P (S.cl 29 [x14]) fun x15 =>
        K x15
      ) (
        opS P (S.ld 34 x9) fun x11 =>
        opS P (S.cl 30 [x5, x7]) fun x12 =>
        opS P (S.cl 31 [x10, x11]) fun x13 =>
        opS P (S.buildS 59 2 [(0, x12), (1, x13)]) fun x14 =>
        opS P (S.cl 29 [x14]) fun x15 =>
        K x15
      )
    ) (
      opS P (S.ld 34 x9) fun x10 =>
      allW (
        opS P (S.cl 30 [x5, x7]) fun x11 =>
        opS P (S.ld 34 x8) fun x12 =>
        opS P (S.cl 31 [x12, x10]) fun x13 =>
        opS P (S.buildS 59 2 [(0, x11), (1, x13)]) fun x14 =>
        opS P (S.cl 29 [x14]) fun x15 =>
        K x15
      ) (
        opS P (S.ld 34 x8) fun x11 =>
        opS P (S.cl 30 [x5, x7]) fun x12 =>
        opS P (S.cl 31 [x11, x10]) fun x13 =>
        opS P (S.buildS 59 2 [(0, x12), (1, x13)]) fun x14 =>
        opS P (S.cl 29 [x14]) fun x15 =>
        K x15
      )
    )
  )
instance fnb28 : FnB Try.prog 28 := ⟨Try.call28⟩
theorem e28 : p28 Try.prog = fun K x0 x1 => denF Try.prog Try.f28 [x0, x1] K := by kernel_rfl
theorem c28 {K : Value → World → Prop} {x0 x1 : Value} {w : World} (h : p28 Try.prog K x0 x1 w) : CallsR Try.prog 28 #[x0, x1] K w := by
  rw [e28] at h
  exact denF_sound mixed Try.func28 h

-- cmp.Or[int]
def p29 (P : Program) (K : Value → World → Prop) (x0 : Value) : World → Prop :=
  opS P (S.len x0) fun x1 =>
  jnJ 0 (
    K (.int .i64 0)
  ) fun j0 =>
  loopJ 1 (fun j1 x2 =>
    opS P (S.binI .lss x2 x1) fun x3 =>
    brn x3 (
      opS P (S.ia 59 x0 x2) fun x4 =>
      opS P (S.ld 3 x4) fun x5 =>
      opS P (S.binI .neq x5 (.int .i64 0)) fun x6 =>
      brn x6 (
        K x5
      ) (
        opS P (S.binI .add x2 (.int .i64 1)) fun x7 =>
        j1 x7
      )
    ) (
      j0
    )
  ) (.int .i64 0)
instance fnb29 : FnB Try.prog 29 := ⟨Try.call29⟩
theorem e29 : p29 Try.prog = fun K x0 => denF Try.prog Try.f29 [x0] K := by kernel_rfl
theorem c29 {K : Value → World → Prop} {x0 : Value} {w : World} (h : p29 Try.prog K x0 w) : CallsR Try.prog 29 #[x0] K w := by
  rw [e29] at h
  exact denF_sound mixed Try.func29 h

-- cmp.Compare[int]
def p30 (P : Program) (K : Value → World → Prop) (x0 : Value) (x1 : Value) : World → Prop :=
  opS P (S.cl 71 [x0]) fun x2 =>
  opS P (S.cl 71 [x1]) fun x3 =>
  brn x2 (
    brn x3 (
      K (.int .i64 0)
    ) (
      K (.int .i64 (-1))
    )
  ) (
    brn x3 (
      K (.int .i64 1)
    ) (
      opS P (S.binI .lss x0 x1) fun x4 =>
      brn x4 (
        K (.int .i64 (-1))
      ) (
        opS P (S.binI .gtr x0 x1) fun x5 =>
        brn x5 (
          K (.int .i64 1)
        ) (
          K (.int .i64 0)
        )
      )
    )
  )
instance fnb30 : FnB Try.prog 30 := ⟨Try.call30⟩
theorem e30 : p30 Try.prog = fun K x0 x1 => denF Try.prog Try.f30 [x0, x1] K := by kernel_rfl
theorem c30 {K : Value → World → Prop} {x0 x1 : Value} {w : World} (h : p30 Try.prog K x0 x1 w) : CallsR Try.prog 30 #[x0, x1] K w := by
  rw [e30] at h
  exact denF_sound mixed Try.func30 h

-- gemel/mac.Compare
def p31 (P : Program) (K : Value → World → Prop) (x0 : Value) (x1 : Value) : World → Prop :=
  opS P (S.box 34 x0) fun x2 =>
  opS P (S.box 34 x1) fun x3 =>
  drw <|
  opS P (S.slc 34 x2 none none none) fun x4 =>
  opS P (S.slc 34 x3 none none none) fun x5 =>
  opS P (S.cl 72 [x4, x5]) fun x6 =>
  K x6
instance fnb31 : FnB Try.prog 31 := ⟨Try.call31⟩
theorem e31 : p31 Try.prog = fun K x0 x1 => denF Try.prog Try.f31 [x0, x1] K := by kernel_rfl
theorem c31 {K : Value → World → Prop} {x0 x1 : Value} {w : World} (h : p31 Try.prog K x0 x1 w) : CallsR Try.prog 31 #[x0, x1] K w := by
  rw [e31] at h
  exact denF_sound mixed Try.func31 h

-- (*gemel/fdb.Table).forget
def p37 (P : Program) (K : Value → World → Prop) (x0 : Value) (x1 : Value) : World → Prop :=
  opS P (S.box 72 x1) fun x2 =>
  opS P (S.cl 7 [x0]) fun x3 =>
  opS P (S.mkf (.func 76) [] [x2]) fun x4 =>
  opS P (S.cl 25 [x3, x4]) fun x5 =>
  opS P (S.len x5) fun x6 =>
  jnJ 0 (
    K x5
  ) fun j0 =>
  loopJ 1 (fun j1 x7 =>
    opS P (S.binI .lss x7 x6) fun x8 =>
    brn x8 (
      opS P (S.ia 30 x5 x7) fun x9 =>
      opS P (S.ld 40 x9) fun x10 =>
      opS P (S.alloc 40) fun x11 =>
      opS P (S.st 40 x11 x10) fun x12 =>
      opS P (S.fa 40 x11 0) fun x13 =>
      opS P (S.ld 3 x13) fun x14 =>
      opS P (S.fa 40 x11 1) fun x15 =>
      opS P (S.ld 34 x15) fun x16 =>
      opS P (S.cl 12 [x0, x14, x16]) fun x17 =>
      opS P (S.binI .add x7 (.int .i64 1)) fun x18 =>
      j1 x18
    ) (
      j0
    )
  ) (.int .i64 0)
instance fnb37 : FnB Try.prog 37 := ⟨Try.call37⟩
theorem e37 : p37 Try.prog = fun K x0 x1 => denF Try.prog Try.f37 [x0, x1] K := by kernel_rfl
theorem c37 {K : Value → World → Prop} {x0 x1 : Value} {w : World} (h : p37 Try.prog K x0 x1 w) : CallsR Try.prog 37 #[x0, x1] K w := by
  rw [e37] at h
  exact denF_sound mixed Try.func37 h

-- (*gemel/fdb.Table).FlushPort$1
def p38 (P : Program) (K : Value → World → Prop) (x0 : Value) (x1 : Value) : World → Prop :=
  opS P (S.box 40 x0) fun x2 =>
  opS P (S.fa 40 x2 2) fun x3 =>
  opS P (S.ld 3 x3) fun x4 =>
  opS P (S.ld 3 x1) fun x5 =>
  opS P (S.binI .eql x4 x5) fun x6 =>
  K x6
instance fnb38 : FnB Try.prog 38 := ⟨Try.call38⟩
theorem e38 : p38 Try.prog = fun K x0 x1 => denF Try.prog Try.f38 [x0, x1] K := by kernel_rfl
theorem c38 {K : Value → World → Prop} {x0 x1 : Value} {w : World} (h : p38 Try.prog K x0 x1 w) : CallsR Try.prog 38 #[x0, x1] K w := by
  rw [e38] at h
  exact denF_sound mixed Try.func38 h

-- (*gemel/fdb.Table).Age$1
def p39 (P : Program) (K : Value → World → Prop) (x0 : Value) (x1 : Value) (x2 : Value) : World → Prop :=
  opS P (S.box 40 x0) fun x3 =>
  opS P (S.ld 3 x1) fun x4 =>
  opS P (S.fa 40 x3 3) fun x5 =>
  opS P (S.ld 3 x5) fun x6 =>
  opS P (S.binI .sub x4 x6) fun x7 =>
  opS P (S.ld 3 x2) fun x8 =>
  opS P (S.binI .geq x7 x8) fun x9 =>
  K x9
instance fnb39 : FnB Try.prog 39 := ⟨Try.call39⟩
theorem e39 : p39 Try.prog = fun K x0 x1 x2 => denF Try.prog Try.f39 [x0, x1, x2] K := by kernel_rfl
theorem c39 {K : Value → World → Prop} {x0 x1 x2 : Value} {w : World} (h : p39 Try.prog K x0 x1 x2 w) : CallsR Try.prog 39 #[x0, x1, x2] K w := by
  rw [e39] at h
  exact denF_sound mixed Try.func39 h

-- slices.IndexFunc[[]gemel/api.Entry,gemel/api.Entry]
def p68 (P : Program) (K : Value → World → Prop) (x0 : Value) (x1 : Value) : World → Prop :=
  opS P (S.len x0) fun x2 =>
  jnJ 0 (
    K (.int .i64 (-1))
  ) fun j0 =>
  loopJ 1 (fun j1 x3 =>
    opS P (S.binI .lss x3 x2) fun x4 =>
    brn x4 (
      opS P (S.ia 30 x0 x3) fun x5 =>
      opS P (S.ld 40 x5) fun x6 =>
      opS P (S.call x1 [x6]) fun x7 =>
      brn x7 (
        K x3
      ) (
        opS P (S.binI .add x3 (.int .i64 1)) fun x8 =>
        j1 x8
      )
    ) (
      j0
    )
  ) (.int .i64 0)
instance fnb68 : FnB Try.prog 68 := ⟨Try.call68⟩
theorem e68 : p68 Try.prog = fun K x0 x1 => denF Try.prog Try.f68 [x0, x1] K := by kernel_rfl
theorem c68 {K : Value → World → Prop} {x0 x1 : Value} {w : World} (h : p68 Try.prog K x0 x1 w) : CallsR Try.prog 68 #[x0, x1] K w := by
  rw [e68] at h
  exact denF_sound mixed Try.func68 h

-- cmp.isNaN[int]
def p71 (P : Program) (K : Value → World → Prop) (x0 : Value) : World → Prop :=
  opS P (S.binI .neq x0 x0) fun x1 =>
  K x1
instance fnb71 : FnB Try.prog 71 := ⟨Try.call71⟩
theorem e71 : p71 Try.prog = fun K x0 => denF Try.prog Try.f71 [x0] K := by kernel_rfl
theorem c71 {K : Value → World → Prop} {x0 : Value} {w : World} (h : p71 Try.prog K x0 w) : CallsR Try.prog 71 #[x0] K w := by
  rw [e71] at h
  exact denF_sound mixed Try.func71 h

-- bytes.Compare
def p72 (P : Program) (K : Value → World → Prop) (x0 : Value) (x1 : Value) : World → Prop :=
  opS P (S.cl 112 [x0, x1]) fun x2 =>
  K x2
instance fnb72 : FnB Try.prog 72 := ⟨Try.call72⟩
theorem e72 : p72 Try.prog = fun K x0 x1 => denF Try.prog Try.f72 [x0, x1] K := by kernel_rfl
theorem c72 {K : Value → World → Prop} {x0 x1 : Value} {w : World} (h : p72 Try.prog K x0 x1 w) : CallsR Try.prog 72 #[x0, x1] K w := by
  rw [e72] at h
  exact denF_sound mixed Try.func72 h

-- (*gemel/fdb.Table).forget$1
def p76 (P : Program) (K : Value → World → Prop) (x0 : Value) (x1 : Value) : World → Prop :=
  opS P (S.box 40 x0) fun x2 =>
  opS P (S.fa 40 x2 4) fun x3 =>
  opS P (S.ld 4 x3) fun x4 =>
  brn x4 (
    K (.bool true)
  ) (
    opS P (S.ld 72 x1) fun x5 =>
    opS P (S.ld 40 x2) fun x6 =>
    opS P (S.call x5 [x6]) fun x7 =>
    opS P (S.un .not x7) fun x8 =>
    K x8
  )
instance fnb76 : FnB Try.prog 76 := ⟨Try.call76⟩
theorem e76 : p76 Try.prog = fun K x0 x1 => denF Try.prog Try.f76 [x0, x1] K := by kernel_rfl
theorem c76 {K : Value → World → Prop} {x0 x1 : Value} {w : World} (h : p76 Try.prog K x0 x1 w) : CallsR Try.prog 76 #[x0, x1] K w := by
  rw [e76] at h
  exact denF_sound mixed Try.func76 h

end Go.Gx.S
-- 30 71 29 31 72 28 7 24 25 26 68 37 76 14 13 39 38 16
