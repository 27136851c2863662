/- What the functions of this program ask. -/
import Derived.Test.YtogbkljoganbhaaTy
set_option linter.unusedVariables false
set_option maxRecDepth 100000
namespace Go.Gx.S
open Go Go.Gx Go.Proofs
-- gemel/gemellaw09.list
def p18 (P : Program) (K : Value → World → Prop) (x0 : Value) (x1 : Value) : World → Prop :=
  jnJ 1 (fun x2 =>
    K x2
  ) fun j0 =>
  loopJ 2 (fun j1 x2 x3 =>
    opS P (S.len x0) fun x4 =>
    opS P (S.binI .lss x3 x4) fun x5 =>
    brn x5 (
      drw <|
      opS P (S.binI .add x1 x3) fun x6 =>
      opS P (S.binI .add x6 (.int .i64 1)) fun x7 =>
      opS P (S.ia 22 x0 x3) fun x8 =>
      opS P (S.fa 38 x8 0) fun x9 =>
      opS P (S.ld 36 x9) fun x10 =>
      opS P (S.ia 22 x0 x3) fun x11 =>
      opS P (S.fa 38 x11 1) fun x12 =>
      opS P (S.ld 4 x12) fun x13 =>
      opS P (S.build 48 [(0, x7), (1, x10), (2, x13)]) fun x14 =>
      opS P (S.buildS 40 1 [(0, x14)]) fun x15 =>
      opS P (S.bi .append #[40, 40] 40 [x2, x15]) fun x16 =>
      opS P (S.binI .add x3 (.int .i64 1)) fun x17 =>
      j1 x16 x17
    ) (
      j0 x2
    )
  ) (.slice none 0 0) (.int .i64 0)
instance fnb18 : FnB Try.prog 18 := ⟨Try.call18⟩
theorem e18 : p18 Try.prog = fun K x0 x1 => denF Try.prog Try.f18 [x0, x1] K := by kernel_rfl
theorem c18 {K : Value → World → Prop} {x0 x1 : Value} {w : World} (h : p18 Try.prog K x0 x1 w) : CallsR Try.prog 18 #[x0, x1] K w := by
  rw [e18] at h
  exact denF_sound mixed Try.func18 h

-- gemel/gemelref08.Same
def p19 (P : Program) (K : Value → World → Prop) (x0 : Value) (x1 : Value) : World → Prop :=
  opS P (S.len x0) fun x2 =>
  opS P (S.len x1) fun x3 =>
  opS P (S.binI .neq x2 x3) fun x4 =>
  brn x4 (
    K (.bool false)
  ) (
    jnJ 0 (
      K (.bool true)
    ) fun j0 =>
    loopJ 1 (fun j1 x5 =>
      opS P (S.len x0) fun x6 =>
      opS P (S.binI .lss x5 x6) fun x7 =>
      brn x7 (
        drw <|
        opS P (S.ia 49 x0 x5) fun x8 =>
        opS P (S.ld 36 x8) fun x9 =>
        opS P (S.ia 49 x1 x5) fun x10 =>
        opS P (S.ld 36 x10) fun x11 =>
        opS P (S.binG .neq 36 x9 x11) fun x12 =>
        brn x12 (
          K (.bool false)
        ) (
          opS P (S.binI .add x5 (.int .i64 1)) fun x13 =>
          j1 x13
        )
      ) (
        j0
      )
    ) (.int .i64 0)
  )
instance fnb19 : FnB Try.prog 19 := ⟨Try.call19⟩
theorem e19 : p19 Try.prog = fun K x0 x1 => denF Try.prog Try.f19 [x0, x1] K := by kernel_rfl
theorem c19 {K : Value → World → Prop} {x0 x1 : Value} {w : World} (h : p19 Try.prog K x0 x1 w) : CallsR Try.prog 19 #[x0, x1] K w := by
  rw [e19] at h
  exact denF_sound mixed Try.func19 h

-- gemel/gemelref09.Replay
def p21 (P : Program) (K : Value → World → Prop) (x0 : Value) (x1 : Value) : World → Prop :=
  jnJ 1 (fun x2 =>
    jnJ 1 (fun x3 =>
      K x3
    ) fun j0 =>
    loopJ 2 (fun j1 x3 x4 =>
      opS P (S.len x1) fun x5 =>
      opS P (S.binI .lss x4 x5) fun x6 =>
      brn x6 (
        opS P (S.ia 40 x1 x4) fun x7 =>
        opS P (S.fa 48 x7 2) fun x8 =>
        opS P (S.ld 4 x8) fun x9 =>
        brn x9 (
          opS P (S.ia 40 x1 x4) fun x10 =>
          opS P (S.fa 48 x10 1) fun x11 =>
          opS P (S.ld 36 x11) fun x12 =>
          opS P (S.cl 31 [x3, x12]) fun x13 =>
          opS P (S.binI .add x4 (.int .i64 1)) fun x14 =>
          j1 x13 x14
        ) (
          opS P (S.ia 40 x1 x4) fun x10 =>
          opS P (S.fa 48 x10 1) fun x11 =>
          opS P (S.ld 36 x11) fun x12 =>
          opS P (S.cl 30 [x3, x12]) fun x13 =>
          opS P (S.binI .add x4 (.int .i64 1)) fun x14 =>
          j1 x13 x14
        )
      ) (
        j0 x3
      )
    ) x2 (.int .i64 0)
  ) fun j0 =>
  loopJ 2 (fun j1 x2 x3 =>
    opS P (S.len x0) fun x4 =>
    opS P (S.binI .lss x3 x4) fun x5 =>
    brn x5 (
      opS P (S.ia 49 x0 x3) fun x6 =>
      opS P (S.ld 36 x6) fun x7 =>
      opS P (S.cl 30 [x2, x7]) fun x8 =>
      opS P (S.binI .add x3 (.int .i64 1)) fun x9 =>
      j1 x8 x9
    ) (
      j0 x2
    )
  ) (.slice none 0 0) (.int .i64 0)
instance fnb21 : FnB Try.prog 21 := ⟨Try.call21⟩
theorem e21 : p21 Try.prog = fun K x0 x1 => denF Try.prog Try.f21 [x0, x1] K := by kernel_rfl
theorem c21 {K : Value → World → Prop} {x0 x1 : Value} {w : World} (h : p21 Try.prog K x0 x1 w) : CallsR Try.prog 21 #[x0, x1] K w := by
  rw [e21] at h
  exact denF_sound mixed Try.func21 h

-- gemel/gemellaw09.find
def p22 (P : Program) (K : Value → World → Prop) (x0 : Value) (x1 : Value) : World → Prop :=
  opS P (S.box 36 x1) fun x2 =>
  opS P (S.alloc 36) fun x3 =>
  jnJ 0 (
    opS P (S.build 36 []) fun x4 =>
    opS P (S.st 36 x3 x4) fun x5 =>
    opS P (S.ld 36 x3) fun x6 =>
    K (.tuple #[x6, (.bool false)])
  ) fun j0 =>
  loopJ 1 (fun j1 x4 =>
    opS P (S.len x0) fun x5 =>
    opS P (S.binI .lss x4 x5) fun x6 =>
    brn x6 (
      drw <|
      opS P (S.ia 49 x0 x4) fun x7 =>
      opS P (S.fa 36 x7 0) fun x8 =>
      opS P (S.ld 3 x8) fun x9 =>
      opS P (S.fa 36 x2 0) fun x10 =>
      opS P (S.ld 3 x10) fun x11 =>
      opS P (S.binI .eql x9 x11) fun x12 =>
      brn x12 (
        opS P (S.ia 49 x0 x4) fun x13 =>
        opS P (S.fa 36 x13 1) fun x14 =>
        opS P (S.ld 34 x14) fun x15 =>
        opS P (S.fa 36 x2 1) fun x16 =>
        opS P (S.ld 34 x16) fun x17 =>
        opS P (S.binG .eql 34 x15 x17) fun x18 =>
        brn x18 (
          opS P (S.ia 49 x0 x4) fun x19 =>
          opS P (S.ld 36 x19) fun x20 =>
          opS P (S.st 36 x3 x20) fun x21 =>
          opS P (S.ld 36 x3) fun x22 =>
          K (.tuple #[x22, (.bool true)])
        ) (
          opS P (S.binI .add x4 (.int .i64 1)) fun x19 =>
          j1 x19
        )
      ) (
        opS P (S.binI .add x4 (.int .i64 1)) fun x13 =>
        j1 x13
      )
    ) (
      j0
    )
  ) (.int .i64 0)
instance fnb22 : FnB Try.prog 22 := ⟨Try.call22⟩
theorem e22 : p22 Try.prog = fun K x0 x1 => denF Try.prog Try.f22 [x0, x1] K := by kernel_rfl
theorem c22 {K : Value → World → Prop} {x0 x1 : Value} {w : World} (h : p22 Try.prog K x0 x1 w) : CallsR Try.prog 22 #[x0, x1] K w := by
  rw [e22] at h
  exact denF_sound mixed Try.func22 h

-- gemel/gemelref09.with
def p30 (P : Program) (K : Value → World → Prop) (x0 : Value) (x1 : Value) : World → Prop :=
  opS P (S.box 36 x1) fun x2 =>
  opS P (S.ld 36 x2) fun x3 =>
  opS P (S.cl 31 [x0, x3]) fun x4 =>
  jnJ 1 (fun x5 =>
    opS P (S.buildS 49 0 []) fun x6 =>
    opS P (S.slc 49 x4 none (some x5) none) fun x7 =>
    opS P (S.bi .append #[49, 49] 49 [x6, x7]) fun x8 =>
    opS P (S.ld 36 x2) fun x9 =>
    opS P (S.buildS 49 1 [(0, x9)]) fun x10 =>
    opS P (S.bi .append #[49, 49] 49 [x8, x10]) fun x11 =>
    opS P (S.slc 49 x4 (some x5) none none) fun x12 =>
    opS P (S.bi .append #[49, 49] 49 [x11, x12]) fun x13 =>
    K x13
  ) fun j0 =>
  loopJ 1 (fun j1 x5 =>
    drw <|
    opS P (S.len x4) fun x6 =>
    opS P (S.binI .lss x5 x6) fun x7 =>
    brn x7 (
      opS P (S.ia 49 x4 x5) fun x8 =>
      opS P (S.fa 36 x8 0) fun x9 =>
      opS P (S.ld 3 x9) fun x10 =>
      opS P (S.fa 36 x2 0) fun x11 =>
      opS P (S.ld 3 x11) fun x12 =>
      opS P (S.binI .lss x10 x12) fun x13 =>
      brn x13 (
        opS P (S.binI .add x5 (.int .i64 1)) fun x14 =>
        j1 x14
      ) (
        opS P (S.ia 49 x4 x5) fun x14 =>
        opS P (S.fa 36 x14 0) fun x15 =>
        opS P (S.ld 3 x15) fun x16 =>
        opS P (S.fa 36 x2 0) fun x17 =>
        opS P (S.ld 3 x17) fun x18 =>
        opS P (S.binI .eql x16 x18) fun x19 =>
        brn x19 (
          opS P (S.ia 49 x4 x5) fun x20 =>
          opS P (S.fa 36 x20 1) fun x21 =>
          opS P (S.ld 34 x21) fun x22 =>
          opS P (S.fa 36 x2 1) fun x23 =>
          opS P (S.ld 34 x23) fun x24 =>
          opS P (S.cl 38 [x22, x24]) fun x25 =>
          opS P (S.binI .lss x25 (.int .i64 0)) fun x26 =>
          brn x26 (
            opS P (S.binI .add x5 (.int .i64 1)) fun x27 =>
            j1 x27
          ) (
            j0 x5
          )
        ) (
          j0 x5
        )
      )
    ) (
      j0 x5
    )
  ) (.int .i64 0)
instance fnb30 : FnB Try.prog 30 := ⟨Try.call30⟩
theorem e30 : p30 Try.prog = fun K x0 x1 => denF Try.prog Try.f30 [x0, x1] K := by kernel_rfl
theorem c30 {K : Value → World → Prop} {x0 x1 : Value} {w : World} (h : p30 Try.prog K x0 x1 w) : CallsR Try.prog 30 #[x0, x1] K w := by
  rw [e30] at h
  exact denF_sound mixed Try.func30 h

-- gemel/gemelref09.without
def p31 (P : Program) (K : Value → World → Prop) (x0 : Value) (x1 : Value) : World → Prop :=
  opS P (S.box 36 x1) fun x2 =>
  jnJ 1 (fun x3 =>
    K x3
  ) fun j0 =>
  loopJ 2 (fun j1 x3 x4 =>
    opS P (S.len x0) fun x5 =>
    opS P (S.binI .lss x4 x5) fun x6 =>
    brn x6 (
      jnJ 0 (
        opS P (S.ia 49 x0 x4) fun x7 =>
        opS P (S.ld 36 x7) fun x8 =>
        opS P (S.buildS 49 1 [(0, x8)]) fun x9 =>
        opS P (S.bi .append #[49, 49] 49 [x3, x9]) fun x10 =>
        opS P (S.binI .add x4 (.int .i64 1)) fun x11 =>
        j1 x10 x11
      ) fun j2 =>
      drw <|
      opS P (S.ia 49 x0 x4) fun x7 =>
      opS P (S.fa 36 x7 0) fun x8 =>
      opS P (S.ld 3 x8) fun x9 =>
      opS P (S.fa 36 x2 0) fun x10 =>
      opS P (S.ld 3 x10) fun x11 =>
      opS P (S.binI .neq x9 x11) fun x12 =>
      brn x12 (
        j2
      ) (
        opS P (S.ia 49 x0 x4) fun x13 =>
        opS P (S.fa 36 x13 1) fun x14 =>
        opS P (S.ld 34 x14) fun x15 =>
        opS P (S.fa 36 x2 1) fun x16 =>
        opS P (S.ld 34 x16) fun x17 =>
        opS P (S.binG .neq 34 x15 x17) fun x18 =>
        brn x18 (
          j2
        ) (
          opS P (S.binI .add x4 (.int .i64 1)) fun x19 =>
          j1 x3 x19
        )
      )
    ) (
      j0 x3
    )
  ) (.slice none 0 0) (.int .i64 0)
instance fnb31 : FnB Try.prog 31 := ⟨Try.call31⟩
theorem e31 : p31 Try.prog = fun K x0 x1 => denF Try.prog Try.f31 [x0, x1] K := by kernel_rfl
theorem c31 {K : Value → World → Prop} {x0 x1 : Value} {w : World} (h : p31 Try.prog K x0 x1 w) : CallsR Try.prog 31 #[x0, x1] K w := by
  rw [e31] at h
  exact denF_sound mixed Try.func31 h

end Go.Gx.S
-- 30 31 21 19 18 22
