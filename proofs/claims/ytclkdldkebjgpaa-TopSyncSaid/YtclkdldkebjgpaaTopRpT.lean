/- What the functions of this program ask. -/
import Derived.Test.YtclkdldkebjgpaaTy
set_option linter.unusedVariables false
set_option maxRecDepth 100000
namespace Go.Gx.S
open Go Go.Gx Go.Proofs
-- gemel/journal.Replay
def p17 (P : Program) (K : Value → World → Prop) (x0 : Value) (x1 : Value) : World → Prop :=
  opS P (S.mkm 92 none) fun x2 =>
  opS P (S.len x0) fun x3 =>
  jnJ 0 (
    opS P (S.len x1) fun x4 =>
    jnJ 0 (
      opS P (S.cl 42 [x2]) fun x5 =>
      opS P (S.cl 41 [x5, (.func (.func 43) #[] #[])]) fun x6 =>
      K x6
    ) fun j0 =>
    loopJ 1 (fun j1 x5 =>
      opS P (S.binI .lss x5 x4) fun x6 =>
      brn x6 (
        opS P (S.ia 47 x1 x5) fun x7 =>
        opS P (S.ld 86 x7) fun x8 =>
        opS P (S.alloc 86) fun x9 =>
        opS P (S.st 86 x9 x8) fun x10 =>
        opS P (S.fa 86 x9 1) fun x11 =>
        opS P (S.fa 40 x11 0) fun x12 =>
        opS P (S.ld 3 x12) fun x13 =>
        opS P (S.fa 86 x9 1) fun x14 =>
        opS P (S.fa 40 x14 1) fun x15 =>
        opS P (S.ld 34 x15) fun x16 =>
        opS P (S.build 94 [(0, x13), (1, x16)]) fun x17 =>
        opS P (S.alloc 94) fun x18 =>
        opS P (S.st 94 x18 x17) fun x19 =>
        opS P (S.fa 86 x9 2) fun x20 =>
        opS P (S.ld 4 x20) fun x21 =>
        brn x21 (
          opS P (S.ld 94 x18) fun x22 =>
          opS P (S.bi .delete #[92, 94] 0 [x2, x22]) fun x23 =>
          opS P (S.binI .add x5 (.int .i64 1)) fun x24 =>
          j1 x24
        ) (
          opS P (S.ld 94 x18) fun x22 =>
          opS P (S.fa 86 x9 1) fun x23 =>
          opS P (S.ld 40 x23) fun x24 =>
          opS P (S.mu 92 x2 x22 x24) fun x25 =>
          opS P (S.binI .add x5 (.int .i64 1)) fun x26 =>
          j1 x26
        )
      ) (
        j0
      )
    ) (.int .i64 0)
  ) fun j0 =>
  loopJ 1 (fun j1 x4 =>
    opS P (S.binI .lss x4 x3) fun x5 =>
    brn x5 (
      opS P (S.ia 30 x0 x4) fun x6 =>
      opS P (S.ld 40 x6) fun x7 =>
      opS P (S.alloc 40) fun x8 =>
      opS P (S.st 40 x8 x7) fun x9 =>
      opS P (S.fa 40 x8 0) fun x10 =>
      opS P (S.ld 3 x10) fun x11 =>
      opS P (S.fa 40 x8 1) fun x12 =>
      opS P (S.ld 34 x12) fun x13 =>
      opS P (S.build 94 [(0, x11), (1, x13)]) fun x14 =>
      opS P (S.ld 40 x8) fun x15 =>
      opS P (S.mu 92 x2 x14 x15) fun x16 =>
      opS P (S.binI .add x4 (.int .i64 1)) fun x17 =>
      j1 x17
    ) (
      j0
    )
  ) (.int .i64 0)
instance fnb17 : FnB Try.prog 17 := ⟨Try.call17⟩
theorem e17 : p17 Try.prog = fun K x0 x1 => denF Try.prog Try.f17 [x0, x1] K := by kernel_rfl
theorem c17 {K : Value → World → Prop} {x0 x1 : Value} {w : World} (h : p17 Try.prog K x0 x1 w) : CallsR Try.prog 17 #[x0, x1] K w := by
  rw [e17] at h
  exact denF_sound mixed Try.func17 h

-- slices.SortedFunc[gemel/api.Entry]
def p41 (P : Program) (K : Value → World → Prop) (x0 : Value) (x1 : Value) : World → Prop :=
  opS P (S.cl 78 [x0]) fun x2 =>
  opS P (S.cl 27 [x2, x1]) fun x3 =>
  K x2
instance fnb41 : FnB Try.prog 41 := ⟨Try.call41⟩
theorem e41 : p41 Try.prog = fun K x0 x1 => denF Try.prog Try.f41 [x0, x1] K := by kernel_rfl
theorem c41 {K : Value → World → Prop} {x0 x1 : Value} {w : World} (h : p41 Try.prog K x0 x1 w) : CallsR Try.prog 41 #[x0, x1] K w := by
  rw [e41] at h
  exact denF_sound mixed Try.func41 h

-- maps.Values[map[gemel/journal.pair]gemel/api.Entry,gemel/journal.pair,gemel/api.Entry]
def p42 (P : Program) (K : Value → World → Prop) (x0 : Value) : World → Prop :=
  opS P (S.box 92 x0) fun x1 =>
  opS P (S.mkf (.func 79) [] [x1]) fun x2 =>
  K x2
instance fnb42 : FnB Try.prog 42 := ⟨Try.call42⟩
theorem e42 : p42 Try.prog = fun K x0 => denF Try.prog Try.f42 [x0] K := by kernel_rfl
theorem c42 {K : Value → World → Prop} {x0 : Value} {w : World} (h : p42 Try.prog K x0 w) : CallsR Try.prog 42 #[x0] K w := by
  rw [e42] at h
  exact denF_sound mixed Try.func42 h

-- gemel/journal.Replay$1
def p43 (P : Program) (K : Value → World → Prop) (x0 : Value) (x1 : Value) : World → Prop :=
  opS P (S.box 40 x0) fun x2 =>
  opS P (S.box 40 x1) fun x3 =>
  drw <|
  opS P (S.fa 40 x2 0) fun x4 =>
  opS P (S.ld 3 x4) fun x5 =>
  opS P (S.fa 40 x3 0) fun x6 =>
  opS P (S.ld 3 x6) fun x7 =>
  opS P (S.fa 40 x2 1) fun x8 =>
  opS P (S.fa 40 x3 1) fun x9 =>
  allW (
    opS P (S.cl 30 [x5, x7]) fun x10 =>
    opS P (S.ld 34 x8) fun x11 =>
    opS P (S.ld 34 x9) fun x12 =>
    opS P (S.cl 31 [x11, x12]) fun x13 =>
    opS P (S.buildS 59 2 [(0, x10), (1, x13)]) fun x14 =>
    opS P (S.cl 29 [x14]) fun x15 =>
    K x15
  ) (
    allW (
      opS P (S.ld 34 x8) fun x10 =>
      allW (
        opS P (S.cl 30 [x5, x7]) fun x11 =>
        opS P (S.ld 34 x9) fun x12 =>
        opS P (S.cl 31 [x10, x12]) fun x13 =>
        opS P (S.buildS 59 2 [(0, x11), (1, x13)]) fun x14 =>
        opS P (S.cl 29 [x14]) fun x15 =>
        K x15
      ) (
        opS P (S.ld 34 x9) fun x11 =>
        opS P (S.cl 30 [x5, x7]) fun x12 =>
        opS P (S.cl 31 [x10, x11]) fun x13 =>
        opS P (S.buildS 59 2 [(0, x12), (1, x13)]) fun x14 =>
        opS P (S.cl 29 [x14]) fun x15 =>
        K x15
      )
    ) (
      opS P (S.ld 34 x9) fun x10 =>
      allW (
        opS P (S.cl 30 [x5, x7]) fun x11 =>
        opS P (S.ld 34 x8) fun x12 =>
        opS P (S.cl 31 [x12, x10]) fun x13 =>
        opS P (S.buildS 59 2 [(0, x11), (1, x13)]) fun x14 =>
        opS P (S.cl 29 [x14]) fun x15 =>
        K x15
      ) (
        opS P (S.ld 34 x8) fun x11 =>
        opS P (S.cl 30 [x5, x7]) fun x12 =>
        opS P (S.cl 31 [x11, x10]) fun x13 =>
        opS P (S.buildS 59 2 [(0, x12), (1, x13)]) fun x14 =>
        opS P (S.cl 29 [x14]) fun x15 =>
        K x15
      )
    )
  )
instance fnb43 : FnB Try.prog 43 := ⟨Try.call43⟩
theorem e43 : p43 Try.prog = fun K x0 x1 => denF Try.prog Try.f43 [x0, x1] K := by kernel_rfl
theorem c43 {K : Value → World → Prop} {x0 x1 : Value} {w : World} (h : p43 Try.prog K x0 x1 w) : CallsR Try.prog 43 #[x0, x1] K w := by
  rw [e43] at h
  exact denF_sound mixed Try.func43 h

-- slices.Collect[gemel/api.Entry]
def p78 (P : Program) (K : Value → World → Prop) (x0 : Value) : World → Prop :=
  opS P (S.cl 114 [(.slice none 0 0), x0]) fun x1 =>
  K x1
instance fnb78 : FnB Try.prog 78 := ⟨Try.call78⟩
theorem e78 : p78 Try.prog = fun K x0 => denF Try.prog Try.f78 [x0] K := by kernel_rfl
theorem c78 {K : Value → World → Prop} {x0 : Value} {w : World} (h : p78 Try.prog K x0 w) : CallsR Try.prog 78 #[x0] K w := by
  rw [e78] at h
  exact denF_sound mixed Try.func78 h

-- maps.Values[map[gemel/journal.pair]gemel/api.Entry,gemel/journal.pair,gemel/api.Entry]$1
def p79 (P : Program) (K : Value → World → Prop) (x0 : Value) (x1 : Value) : World → Prop :=
  opS P (S.ld 92 x1) fun x2 =>
  opS P (S.rng 92 x2) fun x3 =>
  jnJ 0 (
    K (.tuple #[])
  ) fun j0 =>
  loopJ 0 (fun j1 =>
    opS P (S.nxt x3 false 0) fun x4 =>
    opS P (S.ext x4 0) fun x5 =>
    brn x5 (
      opS P (S.ent x3) fun x6 =>
      opS P (S.ext x6 1) fun x7 =>
      opS P (S.alloc 40) fun x8 =>
      opS P (S.st 40 x8 x7) fun x9 =>
      opS P (S.ld 40 x8) fun x10 =>
      opS P (S.call x0 [x10]) fun x11 =>
      opS P (S.un .not x11) fun x12 =>
      brn x12 (
        K (.tuple #[])
      ) (
        j1
      )
    ) (
      j0
    )
  )
instance fnb79 : FnB Try.prog 79 := ⟨Try.call79⟩
theorem e79 : p79 Try.prog = fun K x0 x1 => denF Try.prog Try.f79 [x0, x1] K := by kernel_rfl
theorem c79 {K : Value → World → Prop} {x0 x1 : Value} {w : World} (h : p79 Try.prog K x0 x1 w) : CallsR Try.prog 79 #[x0, x1] K w := by
  rw [e79] at h
  exact denF_sound mixed Try.func79 h

-- slices.AppendSeq[[]gemel/api.Entry,gemel/api.Entry]
def p114 (P : Program) (K : Value → World → Prop) (x0 : Value) (x1 : Value) : World → Prop :=
  opS P (S.box 30 x0) fun x2 =>
  rfS P x1 1 (fun bs K => JT.app 2 (fun x3 x4 =>
    opS P (S.alloc 40) fun x5 =>
    opS P (S.st 40 x5 x4) fun x6 =>
    opS P (S.beginR x3) fun x7 =>
    opS P (S.ld 30 x2) fun x8 =>
    opS P (S.ld 40 x5) fun x9 =>
    opS P (S.buildS 30 1 [(0, x9)]) fun x10 =>
    opS P (S.bi .append #[30, 30] 30 [x8, x10]) fun x11 =>
    opS P (S.st 30 x2 x11) fun x12 =>
    opS P (S.endR x3 none) fun x13 =>
    K x13
  ) bs) (fun x3 =>
    opS P (S.ld 30 x2) fun x4 =>
    takeD P x3 fun x5 =>
    K x4
  ) (fun x3 =>
    takeD P x3 fun x4 =>
    K (.slice none 0 0)
  ) 0 (fun x3 =>
    fun _ => False
  )
instance fnb114 : FnB Try.prog 114 := ⟨Try.call114⟩
theorem e114 : p114 Try.prog = fun K x0 x1 => denF Try.prog Try.f114 [x0, x1] K := by kernel_rfl
theorem c114 {K : Value → World → Prop} {x0 x1 : Value} {w : World} (h : p114 Try.prog K x0 x1 w) : CallsR Try.prog 114 #[x0, x1] K w := by
  rw [e114] at h
  exact denF_sound mixed Try.func114 h

end Go.Gx.S
-- 43 17 41 42 79 78 114
