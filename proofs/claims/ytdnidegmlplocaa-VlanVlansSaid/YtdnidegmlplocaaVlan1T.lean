/- What the functions of this program ask. -/
import Derived.Test.YtdnidegmlplocaaTy
set_option linter.unusedVariables false
set_option maxRecDepth 100000
namespace Go.Gx.S
open Go Go.Gx Go.Proofs
-- (*gemel/vlan.Table).In
def p12 (P : Program) (K : Value → World → Prop) (x0 : Value) (x1 : Value) (x2 : Value) : World → Prop :=
  opS P (S.box 27 x2) fun x3 =>
  opS P (S.cl 28 [x0, x1]) fun x4 =>
  opS P (S.un .not x4) fun x5 =>
  brn x5 (
    K (.tuple #[(.int .i64 0), (.int .i64 1)])
  ) (
    opS P (S.ld 27 x3) fun x6 =>
    opS P (S.cl 29 [x6]) fun x7 =>
    opS P (S.un .not x7) fun x8 =>
    brn x8 (
      K (.tuple #[(.int .i64 0), (.int .i64 1)])
    ) (
      opS P (S.fa 27 x3 3) fun x9 =>
      opS P (S.ld 3 x9) fun x10 =>
      jnJ 1 (fun x11 =>
        opS P (S.nc x0) fun x12 =>
        opS P (S.fa 63 x12 0) fun x13 =>
        opS P (S.ld 61 x13) fun x14 =>
        opS P (S.build 66 [(0, x11), (1, x1)]) fun x15 =>
        opS P (S.lk 61 x14 x15 true) fun x16 =>
        opS P (S.ext x16 0) fun x17 =>
        opS P (S.ext x16 1) fun x18 =>
        opS P (S.un .not x18) fun x19 =>
        brn x19 (
          K (.tuple #[(.int .i64 0), (.int .i64 4)])
        ) (
          K (.tuple #[x11, (.int .i64 0)])
        )
      ) fun j0 =>
      opS P (S.binI .eql x10 (.int .i64 0)) fun x11 =>
      brn x11 (
        opS P (S.nc x0) fun x12 =>
        opS P (S.fa 63 x12 1) fun x13 =>
        opS P (S.ld 43 x13) fun x14 =>
        opS P (S.ia 43 x14 x1) fun x15 =>
        opS P (S.ld 3 x15) fun x16 =>
        j0 x16
      ) (
        j0 x10
      )
    )
  )
instance fnb12 : FnB Try.prog 12 := ⟨Try.call12⟩
theorem e12 : p12 Try.prog = fun K x0 x1 x2 => denF Try.prog Try.f12 [x0, x1, x2] K := by kernel_rfl
theorem c12 {K : Value → World → Prop} {x0 x1 x2 : Value} {w : World} (h : p12 Try.prog K x0 x1 x2 w) : CallsR Try.prog 12 #[x0, x1, x2] K w := by
  rw [e12] at h
  exact denF_sound mixed Try.func12 h

-- (*gemel/vlan.Table).Out
def p14 (P : Program) (K : Value → World → Prop) (x0 : Value) (x1 : Value) (x2 : Value) (x3 : Value) : World → Prop :=
  opS P (S.box 27 x3) fun x4 =>
  opS P (S.alloc 27) fun x5 =>
  opS P (S.cl 32 [x0, x1, x2]) fun x6 =>
  opS P (S.un .not x6) fun x7 =>
  brn x7 (
    opS P (S.build 27 []) fun x8 =>
    opS P (S.st 27 x5 x8) fun x9 =>
    opS P (S.ld 27 x5) fun x10 =>
    K (.tuple #[x10, (.int .i64 1)])
  ) (
    opS P (S.ld 27 x4) fun x8 =>
    opS P (S.cl 29 [x8]) fun x9 =>
    opS P (S.un .not x9) fun x10 =>
    brn x10 (
      opS P (S.build 27 []) fun x11 =>
      opS P (S.st 27 x5 x11) fun x12 =>
      opS P (S.ld 27 x5) fun x13 =>
      K (.tuple #[x13, (.int .i64 1)])
    ) (
      opS P (S.nc x0) fun x11 =>
      opS P (S.fa 63 x11 0) fun x12 =>
      opS P (S.ld 61 x12) fun x13 =>
      opS P (S.build 66 [(0, x1), (1, x2)]) fun x14 =>
      opS P (S.lk 61 x13 x14 true) fun x15 =>
      opS P (S.ext x15 0) fun x16 =>
      opS P (S.ext x15 1) fun x17 =>
      opS P (S.un .not x17) fun x18 =>
      brn x18 (
        opS P (S.build 27 []) fun x19 =>
        opS P (S.st 27 x5 x19) fun x20 =>
        opS P (S.ld 27 x5) fun x21 =>
        K (.tuple #[x21, (.int .i64 4)])
      ) (
        brn x16 (
          opS P (S.ld 27 x4) fun x19 =>
          opS P (S.fa 27 x4 4) fun x20 =>
          opS P (S.ld 3 x20) fun x21 =>
          opS P (S.cl 33 [x19, x1, x21]) fun x22 =>
          opS P (S.ext x22 0) fun x23 =>
          opS P (S.ext x22 1) fun x24 =>
          opS P (S.st 27 x5 x23) fun x25 =>
          opS P (S.ld 27 x5) fun x26 =>
          K (.tuple #[x26, x24])
        ) (
          opS P (S.ld 27 x4) fun x19 =>
          opS P (S.cl 34 [x19]) fun x20 =>
          opS P (S.st 27 x5 x20) fun x21 =>
          opS P (S.ld 27 x5) fun x22 =>
          K (.tuple #[x22, (.int .i64 0)])
        )
      )
    )
  )
instance fnb14 : FnB Try.prog 14 := ⟨Try.call14⟩
theorem e14 : p14 Try.prog = fun K x0 x1 x2 x3 => denF Try.prog Try.f14 [x0, x1, x2, x3] K := by kernel_rfl
theorem c14 {K : Value → World → Prop} {x0 x1 x2 x3 : Value} {w : World} (h : p14 Try.prog K x0 x1 x2 x3 w) : CallsR Try.prog 14 #[x0, x1, x2, x3] K w := by
  rw [e14] at h
  exact denF_sound mixed Try.func14 h

-- (*gemel/vlan.Table).Native
def p17 (P : Program) (K : Value → World → Prop) (x0 : Value) (x1 : Value) (x2 : Value) : World → Prop :=
  opS P (S.cl 28 [x0, x1]) fun x3 =>
  opS P (S.un .not x3) fun x4 =>
  brn x4 (
    K (.int .i64 1)
  ) (
    opS P (S.binI .lss x2 (.int .i64 0)) fun x5 =>
    brn x5 (
      K (.int .i64 1)
    ) (
      opS P (S.binI .gtr x2 (.int .i64 4094)) fun x6 =>
      brn x6 (
        K (.int .i64 1)
      ) (
        opS P (S.nc x0) fun x7 =>
        opS P (S.fa 63 x7 1) fun x8 =>
        opS P (S.ld 43 x8) fun x9 =>
        opS P (S.ia 43 x9 x1) fun x10 =>
        opS P (S.st 3 x10 x2) fun x11 =>
        K (.int .i64 0)
      )
    )
  )
instance fnb17 : FnB Try.prog 17 := ⟨Try.call17⟩
theorem e17 : p17 Try.prog = fun K x0 x1 x2 => denF Try.prog Try.f17 [x0, x1, x2] K := by kernel_rfl
theorem c17 {K : Value → World → Prop} {x0 x1 x2 : Value} {w : World} (h : p17 Try.prog K x0 x1 x2 w) : CallsR Try.prog 17 #[x0, x1, x2] K w := by
  rw [e17] at h
  exact denF_sound mixed Try.func17 h

-- (*gemel/vlan.Table).Members
def p18 (P : Program) (K : Value → World → Prop) (x0 : Value) (x1 : Value) : World → Prop :=
  opS P (S.nc x0) fun x2 =>
  opS P (S.fa 63 x2 1) fun x3 =>
  opS P (S.ld 43 x3) fun x4 =>
  opS P (S.len x4) fun x5 =>
  jnJ 1 (fun x6 =>
    K x6
  ) fun j0 =>
  loopJ 2 (fun j1 x6 x7 =>
    opS P (S.binI .lss x7 x5) fun x8 =>
    brn x8 (
      opS P (S.nc x0) fun x9 =>
      opS P (S.fa 63 x9 0) fun x10 =>
      opS P (S.ld 61 x10) fun x11 =>
      opS P (S.build 66 [(0, x1), (1, x7)]) fun x12 =>
      opS P (S.lk 61 x11 x12 true) fun x13 =>
      opS P (S.ext x13 0) fun x14 =>
      opS P (S.ext x13 1) fun x15 =>
      brn x15 (
        opS P (S.buildS 43 1 [(0, x7)]) fun x16 =>
        opS P (S.bi .append #[43, 43] 43 [x6, x16]) fun x17 =>
        opS P (S.binI .add x7 (.int .i64 1)) fun x18 =>
        j1 x17 x18
      ) (
        opS P (S.binI .add x7 (.int .i64 1)) fun x16 =>
        j1 x6 x16
      )
    ) (
      j0 x6
    )
  ) (.slice none 0 0) (.int .i64 0)
instance fnb18 : FnB Try.prog 18 := ⟨Try.call18⟩
theorem e18 : p18 Try.prog = fun K x0 x1 => denF Try.prog Try.f18 [x0, x1] K := by kernel_rfl
theorem c18 {K : Value → World → Prop} {x0 x1 : Value} {w : World} (h : p18 Try.prog K x0 x1 w) : CallsR Try.prog 18 #[x0, x1] K w := by
  rw [e18] at h
  exact denF_sound mixed Try.func18 h

-- (*gemel/vlan.Table).Add
def p19 (P : Program) (K : Value → World → Prop) (x0 : Value) (x1 : Value) (x2 : Value) (x3 : Value) : World → Prop :=
  opS P (S.cl 32 [x0, x1, x2]) fun x4 =>
  opS P (S.un .not x4) fun x5 =>
  brn x5 (
    K (.int .i64 1)
  ) (
    opS P (S.nc x0) fun x6 =>
    opS P (S.fa 63 x6 0) fun x7 =>
    opS P (S.ld 61 x7) fun x8 =>
    opS P (S.build 66 [(0, x1), (1, x2)]) fun x9 =>
    opS P (S.mu 61 x8 x9 x3) fun x10 =>
    K (.int .i64 0)
  )
instance fnb19 : FnB Try.prog 19 := ⟨Try.call19⟩
theorem e19 : p19 Try.prog = fun K x0 x1 x2 x3 => denF Try.prog Try.f19 [x0, x1, x2, x3] K := by kernel_rfl
theorem c19 {K : Value → World → Prop} {x0 x1 x2 x3 : Value} {w : World} (h : p19 Try.prog K x0 x1 x2 x3 w) : CallsR Try.prog 19 #[x0, x1, x2, x3] K w := by
  rw [e19] at h
  exact denF_sound mixed Try.func19 h

-- (*gemel/vlan.Table).Remove
def p20 (P : Program) (K : Value → World → Prop) (x0 : Value) (x1 : Value) (x2 : Value) : World → Prop :=
  opS P (S.cl 32 [x0, x1, x2]) fun x3 =>
  opS P (S.un .not x3) fun x4 =>
  brn x4 (
    K (.int .i64 1)
  ) (
    opS P (S.nc x0) fun x5 =>
    opS P (S.fa 63 x5 0) fun x6 =>
    opS P (S.ld 61 x6) fun x7 =>
    opS P (S.build 66 [(0, x1), (1, x2)]) fun x8 =>
    opS P (S.lk 61 x7 x8 true) fun x9 =>
    opS P (S.ext x9 0) fun x10 =>
    opS P (S.ext x9 1) fun x11 =>
    opS P (S.un .not x11) fun x12 =>
    brn x12 (
      K (.int .i64 4)
    ) (
      opS P (S.nc x0) fun x13 =>
      opS P (S.fa 63 x13 0) fun x14 =>
      opS P (S.ld 61 x14) fun x15 =>
      opS P (S.build 66 [(0, x1), (1, x2)]) fun x16 =>
      opS P (S.bi .delete #[61, 66] 0 [x15, x16]) fun x17 =>
      K (.int .i64 0)
    )
  )
instance fnb20 : FnB Try.prog 20 := ⟨Try.call20⟩
theorem e20 : p20 Try.prog = fun K x0 x1 x2 => denF Try.prog Try.f20 [x0, x1, x2] K := by kernel_rfl
theorem c20 {K : Value → World → Prop} {x0 x1 x2 : Value} {w : World} (h : p20 Try.prog K x0 x1 x2 w) : CallsR Try.prog 20 #[x0, x1, x2] K w := by
  rw [e20] at h
  exact denF_sound mixed Try.func20 h

-- gemel/vlan.New
def p25 (P : Program) (K : Value → World → Prop) (x0 : Value) : World → Prop :=
  opS P (S.binI .lss x0 (.int .i64 1)) fun x1 =>
  brn x1 (
    K (.tuple #[(.pointer none), (.int .i64 1)])
  ) (
    opS P (S.binI .gtr x0 (.int .i64 64)) fun x2 =>
    brn x2 (
      K (.tuple #[(.pointer none), (.int .i64 1)])
    ) (
      opS P (S.mkm 61 none) fun x3 =>
      opS P (S.mks 43 x0 x0) fun x4 =>
      opS P (S.build 63 [(0, x3), (1, x4)]) fun x5 =>
      opS P (S.box 63 x5) fun x6 =>
      K (.tuple #[x6, (.int .i64 0)])
    )
  )
instance fnb25 : FnB Try.prog 25 := ⟨Try.call25⟩
theorem e25 : p25 Try.prog = fun K x0 => denF Try.prog Try.f25 [x0] K := by kernel_rfl
theorem c25 {K : Value → World → Prop} {x0 : Value} {w : World} (h : p25 Try.prog K x0 w) : CallsR Try.prog 25 #[x0] K w := by
  rw [e25] at h
  exact denF_sound mixed Try.func25 h

-- (*gemel/vlan.Table).port
def p28 (P : Program) (K : Value → World → Prop) (x0 : Value) (x1 : Value) : World → Prop :=
  opS P (S.binI .geq x1 (.int .i64 0)) fun x2 =>
  brn x2 (
    opS P (S.nc x0) fun x3 =>
    opS P (S.fa 63 x3 1) fun x4 =>
    opS P (S.ld 43 x4) fun x5 =>
    opS P (S.len x5) fun x6 =>
    opS P (S.binI .lss x1 x6) fun x7 =>
    K x7
  ) (
    K (.bool false)
  )
instance fnb28 : FnB Try.prog 28 := ⟨Try.call28⟩
theorem e28 : p28 Try.prog = fun K x0 x1 => denF Try.prog Try.f28 [x0, x1] K := by kernel_rfl
theorem c28 {K : Value → World → Prop} {x0 x1 : Value} {w : World} (h : p28 Try.prog K x0 x1 w) : CallsR Try.prog 28 #[x0, x1] K w := by
  rw [e28] at h
  exact denF_sound mixed Try.func28 h

-- (*gemel/vlan.Table).right
def p32 (P : Program) (K : Value → World → Prop) (x0 : Value) (x1 : Value) (x2 : Value) : World → Prop :=
  opS P (S.binI .geq x1 (.int .i64 1)) fun x3 =>
  brn x3 (
    opS P (S.binI .leq x1 (.int .i64 4094)) fun x4 =>
    brn x4 (
      opS P (S.cl 28 [x0, x2]) fun x5 =>
      K x5
    ) (
      K (.bool false)
    )
  ) (
    K (.bool false)
  )
instance fnb32 : FnB Try.prog 32 := ⟨Try.call32⟩
theorem e32 : p32 Try.prog = fun K x0 x1 x2 => denF Try.prog Try.f32 [x0, x1, x2] K := by kernel_rfl
theorem c32 {K : Value → World → Prop} {x0 x1 x2 : Value} {w : World} (h : p32 Try.prog K x0 x1 x2 w) : CallsR Try.prog 32 #[x0, x1, x2] K w := by
  rw [e32] at h
  exact denF_sound mixed Try.func32 h

end Go.Gx.S
-- 25 28 32 19 20 17 18 12 14
