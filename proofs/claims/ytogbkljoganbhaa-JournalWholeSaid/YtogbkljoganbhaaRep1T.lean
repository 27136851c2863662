/- What the functions of this program ask. -/
import Derived.Test.YtogbkljoganbhaaTy
set_option linter.unusedVariables false
set_option maxRecDepth 100000
namespace Go.Gx.S
open Go Go.Gx Go.Proofs
-- gemel/journal.Replay$1
def p26 (P : Program) (K : Value → World → Prop) (x0 : Value) (x1 : Value) : World → Prop :=
  opS P (S.box 36 x0) fun x2 =>
  opS P (S.box 36 x1) fun x3 =>
  drw <|
  opS P (S.fa 36 x2 0) fun x4 =>
  opS P (S.ld 3 x4) fun x5 =>
  opS P (S.fa 36 x3 0) fun x6 =>
  opS P (S.ld 3 x6) fun x7 =>
  opS P (S.fa 36 x2 1) fun x8 =>
  opS P (S.fa 36 x3 1) fun x9 =>
  allW (
    opS P (S.cl 28 [x5, x7]) fun x10 =>
    opS P (S.ld 34 x8) fun x11 =>
    opS P (S.ld 34 x9) fun x12 =>
    opS P (S.cl 29 [x11, x12]) fun x13 =>
    opS P (S.buildS 81 2 [(0, x10), (1, x13)]) fun x14 =>
    opS P (S.cl 27 [x14]) fun x15 =>
    K x15
  ) (
    allW (
      opS P (S.ld 34 x8) fun x10 =>
      allW (
        opS P (S.cl 28 [x5, x7]) fun x11 =>
        opS P (S.ld 34 x9) fun x12 =>
        opS P (S.cl 29 [x10, x12]) fun x13 =>
        opS P (S.buildS 81 2 [(0, x11), (1, x13)]) fun x14 =>
        opS P (S.cl 27 [x14]) fun x15 =>
        K x15
      ) (
        opS P (S.ld 34 x9) fun x11 =>
        opS P (S.cl 28 [x5, x7]) fun x12 =>
        opS P (S.cl 29 [x10, x11]) fun x13 =>
        opS P (S.buildS 81 2 [(0, x12), (1, x13)]) fun x14 =>
        opS P (S.cl 27 [x14]) fun x15 =>
        K x15
      )
    ) (
      opS P (S.ld 34 x9) fun x10 =>
      allW (
        opS P (S.cl 28 [x5, x7]) fun x11 =>
        opS P (S.ld 34 x8) fun x12 =>
        opS P (S.cl 29 [x12, x10]) fun x13 =>
        opS P (S.buildS 81 2 [(0, x11), (1, x13)]) fun x14 =>
        opS P (S.cl 27 [x14]) fun x15 =>
        K x15
      ) (
        opS P (S.ld 34 x8) fun x11 =>
        opS P (S.cl 28 [x5, x7]) fun x12 =>
        opS P (S.cl 29 [x11, x10]) fun x13 =>
        opS P (S.buildS 81 2 [(0, x12), (1, x13)]) fun x14 =>
        opS P (S.cl 27 [x14]) fun x15 =>
        K x15
      )
    )
  )
instance fnb26 : FnB Try.prog 26 := ⟨Try.call26⟩
theorem e26 : p26 Try.prog = fun K x0 x1 => denF Try.prog Try.f26 [x0, x1] K := by kernel_rfl
theorem c26 {K : Value → World → Prop} {x0 x1 : Value} {w : World} (h : p26 Try.prog K x0 x1 w) : CallsR Try.prog 26 #[x0, x1] K w := by
  rw [e26] at h
  exact denF_sound mixed Try.func26 h

-- cmp.Or[int]
def p27 (P : Program) (K : Value → World → Prop) (x0 : Value) : World → Prop :=
  opS P (S.len x0) fun x1 =>
  jnJ 0 (
    K (.int .i64 0)
  ) fun j0 =>
  loopJ 1 (fun j1 x2 =>
    opS P (S.binI .lss x2 x1) fun x3 =>
    brn x3 (
      opS P (S.ia 81 x0 x2) fun x4 =>
      opS P (S.ld 3 x4) fun x5 =>
      opS P (S.binI .neq x5 (.int .i64 0)) fun x6 =>
      brn x6 (
        K x5
      ) (
        opS P (S.binI .add x2 (.int .i64 1)) fun x7 =>
        j1 x7
      )
    ) (
      j0
    )
  ) (.int .i64 0)
instance fnb27 : FnB Try.prog 27 := ⟨Try.call27⟩
theorem e27 : p27 Try.prog = fun K x0 => denF Try.prog Try.f27 [x0] K := by kernel_rfl
theorem c27 {K : Value → World → Prop} {x0 : Value} {w : World} (h : p27 Try.prog K x0 w) : CallsR Try.prog 27 #[x0] K w := by
  rw [e27] at h
  exact denF_sound mixed Try.func27 h

-- cmp.Compare[int]
def p28 (P : Program) (K : Value → World → Prop) (x0 : Value) (x1 : Value) : World → Prop :=
  opS P (S.cl 36 [x0]) fun x2 =>
  opS P (S.cl 36 [x1]) fun x3 =>
  brn x2 (
    brn x3 (
      K (.int .i64 0)
    ) (
      K (.int .i64 (-1))
    )
  ) (
    brn x3 (
      K (.int .i64 1)
    ) (
      opS P (S.binI .lss x0 x1) fun x4 =>
      brn x4 (
        K (.int .i64 (-1))
      ) (
        opS P (S.binI .gtr x0 x1) fun x5 =>
        brn x5 (
          K (.int .i64 1)
        ) (
          K (.int .i64 0)
        )
      )
    )
  )
instance fnb28 : FnB Try.prog 28 := ⟨Try.call28⟩
theorem e28 : p28 Try.prog = fun K x0 x1 => denF Try.prog Try.f28 [x0, x1] K := by kernel_rfl
theorem c28 {K : Value → World → Prop} {x0 x1 : Value} {w : World} (h : p28 Try.prog K x0 x1 w) : CallsR Try.prog 28 #[x0, x1] K w := by
  rw [e28] at h
  exact denF_sound mixed Try.func28 h

-- gemel/mac.Compare
def p29 (P : Program) (K : Value → World → Prop) (x0 : Value) (x1 : Value) : World → Prop :=
  opS P (S.box 34 x0) fun x2 =>
  opS P (S.box 34 x1) fun x3 =>
  drw <|
  opS P (S.slc 34 x2 none none none) fun x4 =>
  opS P (S.slc 34 x3 none none none) fun x5 =>
  opS P (S.cl 37 [x4, x5]) fun x6 =>
  K x6
instance fnb29 : FnB Try.prog 29 := ⟨Try.call29⟩
theorem e29 : p29 Try.prog = fun K x0 x1 => denF Try.prog Try.f29 [x0, x1] K := by kernel_rfl
theorem c29 {K : Value → World → Prop} {x0 x1 : Value} {w : World} (h : p29 Try.prog K x0 x1 w) : CallsR Try.prog 29 #[x0, x1] K w := by
  rw [e29] at h
  exact denF_sound mixed Try.func29 h

-- cmp.isNaN[int]
def p36 (P : Program) (K : Value → World → Prop) (x0 : Value) : World → Prop :=
  opS P (S.binI .neq x0 x0) fun x1 =>
  K x1
instance fnb36 : FnB Try.prog 36 := ⟨Try.call36⟩
theorem e36 : p36 Try.prog = fun K x0 => denF Try.prog Try.f36 [x0] K := by kernel_rfl
theorem c36 {K : Value → World → Prop} {x0 : Value} {w : World} (h : p36 Try.prog K x0 w) : CallsR Try.prog 36 #[x0] K w := by
  rw [e36] at h
  exact denF_sound mixed Try.func36 h

-- bytes.Compare
def p37 (P : Program) (K : Value → World → Prop) (x0 : Value) (x1 : Value) : World → Prop :=
  opS P (S.cl 42 [x0, x1]) fun x2 =>
  K x2
instance fnb37 : FnB Try.prog 37 := ⟨Try.call37⟩
theorem e37 : p37 Try.prog = fun K x0 x1 => denF Try.prog Try.f37 [x0, x1] K := by kernel_rfl
theorem c37 {K : Value → World → Prop} {x0 x1 : Value} {w : World} (h : p37 Try.prog K x0 x1 w) : CallsR Try.prog 37 #[x0, x1] K w := by
  rw [e37] at h
  exact denF_sound mixed Try.func37 h

-- gemel/gemelref01.Compare
def p38 (P : Program) (K : Value → World → Prop) (x0 : Value) (x1 : Value) : World → Prop :=
  opS P (S.box 34 x0) fun x2 =>
  opS P (S.box 34 x1) fun x3 =>
  opS P (S.ld 34 x2) fun x4 =>
  opS P (S.cl 43 [x4]) fun x5 =>
  opS P (S.ld 34 x3) fun x6 =>
  opS P (S.cl 43 [x6]) fun x7 =>
  opS P (S.binI .lss x5 x7) fun x8 =>
  brn x8 (
    K (.int .i64 (-1))
  ) (
    opS P (S.binI .gtr x5 x7) fun x9 =>
    brn x9 (
      K (.int .i64 1)
    ) (
      K (.int .i64 0)
    )
  )
instance fnb38 : FnB Try.prog 38 := ⟨Try.call38⟩
theorem e38 : p38 Try.prog = fun K x0 x1 => denF Try.prog Try.f38 [x0, x1] K := by kernel_rfl
theorem c38 {K : Value → World → Prop} {x0 x1 : Value} {w : World} (h : p38 Try.prog K x0 x1 w) : CallsR Try.prog 38 #[x0, x1] K w := by
  rw [e38] at h
  exact denF_sound mixed Try.func38 h

-- gemel/gemelref01.Number
def p43 (P : Program) (K : Value → World → Prop) (x0 : Value) : World → Prop :=
  opS P (S.box 34 x0) fun x1 =>
  jnJ 1 (fun x2 =>
    K x2
  ) fun j0 =>
  loopJ 2 (fun j1 x2 x3 =>
    opS P (S.binI .lss x3 (.int .i64 6)) fun x4 =>
    brn x4 (
      opS P (S.binI .mul x2 (.int .u64 256)) fun x5 =>
      opS P (S.ia 34 x1 x3) fun x6 =>
      opS P (S.ld 5 x6) fun x7 =>
      opS P (S.convI .u64 x7) fun x8 =>
      opS P (S.binI .add x5 x8) fun x9 =>
      opS P (S.binI .add x3 (.int .i64 1)) fun x10 =>
      j1 x9 x10
    ) (
      j0 x2
    )
  ) (.int .u64 0) (.int .i64 0)
instance fnb43 : FnB Try.prog 43 := ⟨Try.call43⟩
theorem e43 : p43 Try.prog = fun K x0 => denF Try.prog Try.f43 [x0] K := by kernel_rfl
theorem c43 {K : Value → World → Prop} {x0 : Value} {w : World} (h : p43 Try.prog K x0 w) : CallsR Try.prog 43 #[x0] K w := by
  rw [e43] at h
  exact denF_sound mixed Try.func43 h

end Go.Gx.S
-- 28 36 27 29 37 26 38 43
