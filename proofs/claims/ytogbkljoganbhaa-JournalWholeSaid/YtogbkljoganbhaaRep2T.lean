/- What the functions of this program ask. -/
import Derived.Test.YtogbkljoganbhaaTy
set_option linter.unusedVariables false
set_option maxRecDepth 100000
namespace Go.Gx.S
open Go Go.Gx Go.Proofs
-- gemel/journal.Replay
def p20 (P : Program) (K : Value → World → Prop) (x0 : Value) (x1 : Value) : World → Prop :=
  opS P (S.mkm 65 none) fun x2 =>
  opS P (S.len x0) fun x3 =>
  jnJ 0 (
    opS P (S.len x1) fun x4 =>
    jnJ 0 (
      opS P (S.cl 25 [x2]) fun x5 =>
      opS P (S.cl 24 [x5, (.func (.func 26) #[] #[])]) fun x6 =>
      K x6
    ) fun j0 =>
    loopJ 1 (fun j1 x5 =>
      opS P (S.binI .lss x5 x4) fun x6 =>
      brn x6 (
        opS P (S.ia 40 x1 x5) fun x7 =>
        opS P (S.ld 48 x7) fun x8 =>
        opS P (S.alloc 48) fun x9 =>
        opS P (S.st 48 x9 x8) fun x10 =>
        opS P (S.fa 48 x9 1) fun x11 =>
        opS P (S.fa 36 x11 0) fun x12 =>
        opS P (S.ld 3 x12) fun x13 =>
        opS P (S.fa 48 x9 1) fun x14 =>
        opS P (S.fa 36 x14 1) fun x15 =>
        opS P (S.ld 34 x15) fun x16 =>
        opS P (S.build 67 [(0, x13), (1, x16)]) fun x17 =>
        opS P (S.alloc 67) fun x18 =>
        opS P (S.st 67 x18 x17) fun x19 =>
        opS P (S.fa 48 x9 2) fun x20 =>
        opS P (S.ld 4 x20) fun x21 =>
        brn x21 (
          opS P (S.ld 67 x18) fun x22 =>
          opS P (S.bi .delete #[65, 67] 0 [x2, x22]) fun x23 =>
          opS P (S.binI .add x5 (.int .i64 1)) fun x24 =>
          j1 x24
        ) (
          opS P (S.ld 67 x18) fun x22 =>
          opS P (S.fa 48 x9 1) fun x23 =>
          opS P (S.ld 36 x23) fun x24 =>
          opS P (S.mu 65 x2 x22 x24) fun x25 =>
          opS P (S.binI .add x5 (.int .i64 1)) fun x26 =>
          j1 x26
        )
      ) (
        j0
      )
    ) (.int .i64 0)
  ) fun j0 =>
  loopJ 1 (fun j1 x4 =>
    opS P (S.binI .lss x4 x3) fun x5 =>
    brn x5 (
      opS P (S.ia 49 x0 x4) fun x6 =>
      opS P (S.ld 36 x6) fun x7 =>
      opS P (S.alloc 36) fun x8 =>
      opS P (S.st 36 x8 x7) fun x9 =>
      opS P (S.fa 36 x8 0) fun x10 =>
      opS P (S.ld 3 x10) fun x11 =>
      opS P (S.fa 36 x8 1) fun x12 =>
      opS P (S.ld 34 x12) fun x13 =>
      opS P (S.build 67 [(0, x11), (1, x13)]) fun x14 =>
      opS P (S.ld 36 x8) fun x15 =>
      opS P (S.mu 65 x2 x14 x15) fun x16 =>
      opS P (S.binI .add x4 (.int .i64 1)) fun x17 =>
      j1 x17
    ) (
      j0
    )
  ) (.int .i64 0)
instance fnb20 : FnB Try.prog 20 := ⟨Try.call20⟩
theorem e20 : p20 Try.prog = fun K x0 x1 => denF Try.prog Try.f20 [x0, x1] K := by kernel_rfl
theorem c20 {K : Value → World → Prop} {x0 x1 : Value} {w : World} (h : p20 Try.prog K x0 x1 w) : CallsR Try.prog 20 #[x0, x1] K w := by
  rw [e20] at h
  exact denF_sound mixed Try.func20 h

-- slices.SortedFunc[gemel/api.Entry]
def p24 (P : Program) (K : Value → World → Prop) (x0 : Value) (x1 : Value) : World → Prop :=
  opS P (S.cl 33 [x0]) fun x2 =>
  opS P (S.cl 34 [x2, x1]) fun x3 =>
  K x2
instance fnb24 : FnB Try.prog 24 := ⟨Try.call24⟩
theorem e24 : p24 Try.prog = fun K x0 x1 => denF Try.prog Try.f24 [x0, x1] K := by kernel_rfl
theorem c24 {K : Value → World → Prop} {x0 x1 : Value} {w : World} (h : p24 Try.prog K x0 x1 w) : CallsR Try.prog 24 #[x0, x1] K w := by
  rw [e24] at h
  exact denF_sound mixed Try.func24 h

-- maps.Values[map[gemel/journal.pair]gemel/api.Entry,gemel/journal.pair,gemel/api.Entry]
def p25 (P : Program) (K : Value → World → Prop) (x0 : Value) : World → Prop :=
  opS P (S.box 65 x0) fun x1 =>
  opS P (S.mkf (.func 35) [] [x1]) fun x2 =>
  K x2
instance fnb25 : FnB Try.prog 25 := ⟨Try.call25⟩
theorem e25 : p25 Try.prog = fun K x0 => denF Try.prog Try.f25 [x0] K := by kernel_rfl
theorem c25 {K : Value → World → Prop} {x0 : Value} {w : World} (h : p25 Try.prog K x0 w) : CallsR Try.prog 25 #[x0] K w := by
  rw [e25] at h
  exact denF_sound mixed Try.func25 h

-- slices.Collect[gemel/api.Entry]
def p33 (P : Program) (K : Value → World → Prop) (x0 : Value) : World → Prop :=
  opS P (S.cl 39 [(.slice none 0 0), x0]) fun x1 =>
  K x1
instance fnb33 : FnB Try.prog 33 := ⟨Try.call33⟩
theorem e33 : p33 Try.prog = fun K x0 => denF Try.prog Try.f33 [x0] K := by kernel_rfl
theorem c33 {K : Value → World → Prop} {x0 : Value} {w : World} (h : p33 Try.prog K x0 w) : CallsR Try.prog 33 #[x0] K w := by
  rw [e33] at h
  exact denF_sound mixed Try.func33 h

-- maps.Values[map[gemel/journal.pair]gemel/api.Entry,gemel/journal.pair,gemel/api.Entry]$1
def p35 (P : Program) (K : Value → World → Prop) (x0 : Value) (x1 : Value) : World → Prop :=
  opS P (S.ld 65 x1) fun x2 =>
  opS P (S.rng 65 x2) fun x3 =>
  jnJ 0 (
    K (.tuple #[])
  ) fun j0 =>
  loopJ 0 (fun j1 =>
    opS P (S.nxt x3 false 0) fun x4 =>
    opS P (S.ext x4 0) fun x5 =>
    brn x5 (
      opS P (S.ent x3) fun x6 =>
      opS P (S.ext x6 1) fun x7 =>
      opS P (S.alloc 36) fun x8 =>
      opS P (S.st 36 x8 x7) fun x9 =>
      opS P (S.ld 36 x8) fun x10 =>
      opS P (S.call x0 [x10]) fun x11 =>
      opS P (S.un .not x11) fun x12 =>
      brn x12 (
        K (.tuple #[])
      ) (
        j1
      )
    ) (
      j0
    )
  )
instance fnb35 : FnB Try.prog 35 := ⟨Try.call35⟩
theorem e35 : p35 Try.prog = fun K x0 x1 => denF Try.prog Try.f35 [x0, x1] K := by kernel_rfl
theorem c35 {K : Value → World → Prop} {x0 x1 : Value} {w : World} (h : p35 Try.prog K x0 x1 w) : CallsR Try.prog 35 #[x0, x1] K w := by
  rw [e35] at h
  exact denF_sound mixed Try.func35 h

-- slices.AppendSeq[[]gemel/api.Entry,gemel/api.Entry]
def p39 (P : Program) (K : Value → World → Prop) (x0 : Value) (x1 : Value) : World → Prop :=
  opS P (S.box 49 x0) fun x2 =>
  rfS P x1 1 (fun bs K => JT.app 2 (fun x3 x4 =>
    opS P (S.alloc 36) fun x5 =>
    opS P (S.st 36 x5 x4) fun x6 =>
    opS P (S.beginR x3) fun x7 =>
    opS P (S.ld 49 x2) fun x8 =>
    opS P (S.ld 36 x5) fun x9 =>
    opS P (S.buildS 49 1 [(0, x9)]) fun x10 =>
    opS P (S.bi .append #[49, 49] 49 [x8, x10]) fun x11 =>
    opS P (S.st 49 x2 x11) fun x12 =>
    opS P (S.endR x3 none) fun x13 =>
    K x13
  ) bs) (fun x3 =>
    opS P (S.ld 49 x2) fun x4 =>
    takeD P x3 fun x5 =>
    K x4
  ) (fun x3 =>
    takeD P x3 fun x4 =>
    K (.slice none 0 0)
  ) 0 (fun x3 =>
    fun _ => False
  )
instance fnb39 : FnB Try.prog 39 := ⟨Try.call39⟩
theorem e39 : p39 Try.prog = fun K x0 x1 => denF Try.prog Try.f39 [x0, x1] K := by kernel_rfl
theorem c39 {K : Value → World → Prop} {x0 x1 : Value} {w : World} (h : p39 Try.prog K x0 x1 w) : CallsR Try.prog 39 #[x0, x1] K w := by
  rw [e39] at h
  exact denF_sound mixed Try.func39 h

end Go.Gx.S
-- 20 24 25 35 33 39
