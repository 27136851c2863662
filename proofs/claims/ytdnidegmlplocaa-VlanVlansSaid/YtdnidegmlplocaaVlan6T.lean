/- What the functions of this program ask. -/
import Derived.Test.YtdnidegmlplocaaTy
set_option linter.unusedVariables false
set_option maxRecDepth 100000
namespace Go.Gx.S
open Go Go.Gx Go.Proofs
-- (*gemel/vlan.Table).Vlans
def p23 (P : Program) (K : Value → World → Prop) (x0 : Value) : World → Prop :=
  opS P (S.alloc 43) fun x1 =>
  opS P (S.cl 38 [x0]) fun x2 =>
  rfS P x2 1 (fun bs K => JT.app 2 (fun x3 x4 =>
    opS P (S.beginR x3) fun x5 =>
    opS P (S.ld 43 x1) fun x6 =>
    opS P (S.buildS 43 1 [(0, x4)]) fun x7 =>
    opS P (S.bi .append #[43, 43] 43 [x6, x7]) fun x8 =>
    opS P (S.st 43 x1 x8) fun x9 =>
    opS P (S.endR x3 none) fun x10 =>
    K x10
  ) bs) (fun x3 =>
    opS P (S.ld 43 x1) fun x4 =>
    opS P (S.cl 39 [x4]) fun x5 =>
    opS P (S.ld 43 x1) fun x6 =>
    opS P (S.cl 40 [x6]) fun x7 =>
    takeD P x3 fun x8 =>
    K x7
  ) (fun x3 =>
    takeD P x3 fun x4 =>
    K (.slice none 0 0)
  ) 0 (fun x3 =>
    fun _ => False
  )
instance fnb23 : FnB Try.prog 23 := ⟨Try.call23⟩
theorem e23 : p23 Try.prog = fun K x0 => denF Try.prog Try.f23 [x0] K := by kernel_rfl
theorem c23 {K : Value → World → Prop} {x0 : Value} {w : World} (h : p23 Try.prog K x0 w) : CallsR Try.prog 23 #[x0] K w := by
  rw [e23] at h
  exact denF_sound mixed Try.func23 h

-- (*gemel/gemelref07.Table).Vlans
def p24 (P : Program) (K : Value → World → Prop) (x0 : Value) : World → Prop :=
  jnJ 1 (fun x1 =>
    K x1
  ) fun j0 =>
  loopJ 2 (fun j1 x1 x2 =>
    opS P (S.binI .leq x2 (.int .i64 4094)) fun x3 =>
    brn x3 (
      jnJ 1 (fun x4 =>
        opS P (S.binI .add x2 (.int .i64 1)) fun x5 =>
        j1 x4 x5
      ) fun j2 =>
      jnJ 1 (fun x4 =>
        j2 x4
      ) fun j3 =>
      loopJ 2 (fun j4 x4 x5 =>
        opS P (S.nc x0) fun x6 =>
        opS P (S.fa 69 x6 1) fun x7 =>
        opS P (S.ld 67 x7) fun x8 =>
        opS P (S.len x8) fun x9 =>
        opS P (S.binI .lss x5 x9) fun x10 =>
        brn x10 (
          opS P (S.nc x0) fun x11 =>
          opS P (S.fa 69 x11 1) fun x12 =>
          opS P (S.ld 67 x12) fun x13 =>
          opS P (S.ia 67 x13 x5) fun x14 =>
          opS P (S.fa 75 x14 0) fun x15 =>
          opS P (S.ld 3 x15) fun x16 =>
          opS P (S.binI .eql x16 x2) fun x17 =>
          brn x17 (
            opS P (S.buildS 43 1 [(0, x2)]) fun x18 =>
            opS P (S.bi .append #[43, 43] 43 [x4, x18]) fun x19 =>
            j3 x19
          ) (
            opS P (S.binI .add x5 (.int .i64 1)) fun x18 =>
            j4 x4 x18
          )
        ) (
          j3 x4
        )
      ) x1 (.int .i64 0)
    ) (
      j0 x1
    )
  ) (.slice none 0 0) (.int .i64 1)
instance fnb24 : FnB Try.prog 24 := ⟨Try.call24⟩
theorem e24 : p24 Try.prog = fun K x0 => denF Try.prog Try.f24 [x0] K := by kernel_rfl
theorem c24 {K : Value → World → Prop} {x0 : Value} {w : World} (h : p24 Try.prog K x0 w) : CallsR Try.prog 24 #[x0] K w := by
  rw [e24] at h
  exact denF_sound mixed Try.func24 h

-- (*gemel/vlan.Table).vlans
def p38 (P : Program) (K : Value → World → Prop) (x0 : Value) : World → Prop :=
  opS P (S.box 30 x0) fun x1 =>
  opS P (S.mkf (.func 44) [] [x1]) fun x2 =>
  K x2
instance fnb38 : FnB Try.prog 38 := ⟨Try.call38⟩
theorem e38 : p38 Try.prog = fun K x0 => denF Try.prog Try.f38 [x0] K := by kernel_rfl
theorem c38 {K : Value → World → Prop} {x0 : Value} {w : World} (h : p38 Try.prog K x0 w) : CallsR Try.prog 38 #[x0] K w := by
  rw [e38] at h
  exact denF_sound mixed Try.func38 h

-- (*gemel/vlan.Table).vlans$1
def p44 (P : Program) (K : Value → World → Prop) (x0 : Value) (x1 : Value) : World → Prop :=
  opS P (S.ld 30 x1) fun x2 =>
  opS P (S.nc x2) fun x3 =>
  opS P (S.fa 63 x3 0) fun x4 =>
  opS P (S.ld 61 x4) fun x5 =>
  opS P (S.rng 61 x5) fun x6 =>
  jnJ 0 (
    K (.tuple #[])
  ) fun j0 =>
  loopJ 0 (fun j1 =>
    opS P (S.nxt x6 false 0) fun x7 =>
    opS P (S.ext x7 0) fun x8 =>
    brn x8 (
      opS P (S.ent x6) fun x9 =>
      opS P (S.ext x9 0) fun x10 =>
      opS P (S.alloc 66) fun x11 =>
      opS P (S.st 66 x11 x10) fun x12 =>
      opS P (S.fa 66 x11 0) fun x13 =>
      opS P (S.ld 3 x13) fun x14 =>
      opS P (S.call x0 [x14]) fun x15 =>
      opS P (S.un .not x15) fun x16 =>
      brn x16 (
        K (.tuple #[])
      ) (
        j1
      )
    ) (
      j0
    )
  )
instance fnb44 : FnB Try.prog 44 := ⟨Try.call44⟩
theorem e44 : p44 Try.prog = fun K x0 x1 => denF Try.prog Try.f44 [x0, x1] K := by kernel_rfl
theorem c44 {K : Value → World → Prop} {x0 x1 : Value} {w : World} (h : p44 Try.prog K x0 x1 w) : CallsR Try.prog 44 #[x0, x1] K w := by
  rw [e44] at h
  exact denF_sound mixed Try.func44 h

end Go.Gx.S
-- 23 38 44 24
