/- What the functions of this program ask. -/
import Derived.Test.YtdmkkbgjidpmkaaTy
set_option linter.unusedVariables false
set_option maxRecDepth 100000
namespace Go.Gx.S
open Go Go.Gx Go.Proofs
-- gemel/gemellaw08.awake
def p9 (P : Program) (K : Value → World → Prop) : World → Prop :=
  opS P (S.cl 17 [(.int .i64 4)]) fun x0 =>
  opS P (S.ext x0 0) fun x1 =>
  opS P (S.ext x0 1) fun x2 =>
  opS P (S.binI .neq x2 (.int .i64 0)) fun x3 =>
  brn x3 (
    K (.bool false)
  ) (
    opS P (S.binN .eql (S.isNilP x1)) fun x4 =>
    brn x4 (
      K (.bool false)
    ) (
      opS P (S.build 24 [(0, (.int .u8 2))]) fun x5 =>
      opS P (S.cl 16 [x1, (.int .i64 1), x5, (.int .i64 3), (.int .i64 5)]) fun x6 =>
      opS P (S.ext x6 0) fun x7 =>
      opS P (S.ext x6 1) fun x8 =>
      opS P (S.build 24 [(0, (.int .u8 2))]) fun x9 =>
      opS P (S.cl 16 [x1, (.int .i64 1), x9, (.int .i64 4), (.int .i64 6)]) fun x10 =>
      opS P (S.ext x10 0) fun x11 =>
      opS P (S.ext x10 1) fun x12 =>
      opS P (S.build 24 [(0, (.int .u8 2))]) fun x13 =>
      opS P (S.cl 11 [x1, (.int .i64 1), x13]) fun x14 =>
      opS P (S.ext x14 0) fun x15 =>
      opS P (S.ext x14 1) fun x16 =>
      opS P (S.alloc 33) fun x17 =>
      opS P (S.st 33 x17 x15) fun x18 =>
      opS P (S.binI .eql x7 (.int .i64 1)) fun x19 =>
      brn x19 (
        opS P (S.binI .eql x11 (.int .i64 2)) fun x20 =>
        brn x20 (
          brn x16 (
            opS P (S.fa 33 x17 2) fun x21 =>
            opS P (S.ld 3 x21) fun x22 =>
            opS P (S.binI .eql x22 (.int .i64 4)) fun x23 =>
            brn x23 (
              opS P (S.cl 15 [x1]) fun x24 =>
              opS P (S.binI .eql x24 (.int .i64 1)) fun x25 =>
              K x25
            ) (
              K (.bool false)
            )
          ) (
            K (.bool false)
          )
        ) (
          K (.bool false)
        )
      ) (
        K (.bool false)
      )
    )
  )
instance fnb9 : FnB Try.prog 9 := ⟨Try.call9⟩
theorem e9 : p9 Try.prog = fun K => denF Try.prog Try.f9 [] K := by kernel_rfl
theorem c9 {K : Value → World → Prop} {w : World} (h : p9 Try.prog K w) : CallsR Try.prog 9 #[] K w := by
  rw [e9] at h
  exact denF_sound mixed Try.func9 h

-- gemel/gemellaw08.made
def p10 (P : Program) (K : Value → World → Prop) (x0 : Value) (x1 : Value) : World → Prop :=
  opS P (S.cl 17 [x0]) fun x2 =>
  opS P (S.ext x2 0) fun x3 =>
  opS P (S.ext x2 1) fun x4 =>
  opS P (S.cl 24 [x0]) fun x5 =>
  opS P (S.ext x5 0) fun x6 =>
  opS P (S.ext x5 1) fun x7 =>
  opS P (S.binI .neq x4 x7) fun x8 =>
  brn x8 (
    K (.tuple #[(.pointer none), (.pointer none), (.bool false)])
  ) (
    opS P (S.binN .eql (S.isNilP x3)) fun x9 =>
    opS P (S.binN .eql (S.isNilP x6)) fun x10 =>
    opS P (S.binB .neq x9 x10) fun x11 =>
    brn x11 (
      K (.tuple #[(.pointer none), (.pointer none), (.bool false)])
    ) (
      jnJ 0 (
        K (.tuple #[x3, x6, (.bool true)])
      ) fun j0 =>
      loopJ 1 (fun j1 x12 =>
        opS P (S.len x1) fun x13 =>
        opS P (S.binI .lss x12 x13) fun x14 =>
        brn x14 (
          opS P (S.binI .lss x12 (.int .i64 150)) fun x15 =>
          brn x15 (
            opS P (S.binN .neq (S.isNilP x3)) fun x16 =>
            brn x16 (
              opS P (S.ia 22 x1 x12) fun x17 =>
              opS P (S.ld 26 x17) fun x18 =>
              opS P (S.cl 25 [x3, x6, x18]) fun x19 =>
              opS P (S.un .not x19) fun x20 =>
              brn x20 (
                K (.tuple #[(.pointer none), (.pointer none), (.bool false)])
              ) (
                opS P (S.binI .add x12 (.int .i64 1)) fun x21 =>
                j1 x21
              )
            ) (
              j0
            )
          ) (
            j0
          )
        ) (
          j0
        )
      ) (.int .i64 0)
    )
  )
instance fnb10 : FnB Try.prog 10 := ⟨Try.call10⟩
theorem e10 : p10 Try.prog = fun K x0 x1 => denF Try.prog Try.f10 [x0, x1] K := by kernel_rfl
theorem c10 {K : Value → World → Prop} {x0 x1 : Value} {w : World} (h : p10 Try.prog K x0 x1 w) : CallsR Try.prog 10 #[x0, x1] K w := by
  rw [e10] at h
  exact denF_sound mixed Try.func10 h

-- gemel/gemelref08.Same
def p13 (P : Program) (K : Value → World → Prop) (x0 : Value) (x1 : Value) : World → Prop :=
  opS P (S.len x0) fun x2 =>
  opS P (S.len x1) fun x3 =>
  opS P (S.binI .neq x2 x3) fun x4 =>
  brn x4 (
    K (.bool false)
  ) (
    jnJ 0 (
      K (.bool true)
    ) fun j0 =>
    loopJ 1 (fun j1 x5 =>
      opS P (S.len x0) fun x6 =>
      opS P (S.binI .lss x5 x6) fun x7 =>
      brn x7 (
        drw <|
        opS P (S.ia 37 x0 x5) fun x8 =>
        opS P (S.ld 33 x8) fun x9 =>
        opS P (S.ia 37 x1 x5) fun x10 =>
        opS P (S.ld 33 x10) fun x11 =>
        opS P (S.binG .neq 33 x9 x11) fun x12 =>
        brn x12 (
          K (.bool false)
        ) (
          opS P (S.binI .add x5 (.int .i64 1)) fun x13 =>
          j1 x13
        )
      ) (
        j0
      )
    ) (.int .i64 0)
  )
instance fnb13 : FnB Try.prog 13 := ⟨Try.call13⟩
theorem e13 : p13 Try.prog = fun K x0 x1 => denF Try.prog Try.f13 [x0, x1] K := by kernel_rfl
theorem c13 {K : Value → World → Prop} {x0 x1 : Value} {w : World} (h : p13 Try.prog K x0 x1 w) : CallsR Try.prog 13 #[x0, x1] K w := by
  rw [e13] at h
  exact denF_sound mixed Try.func13 h

-- gemel/gemellaw08.step
def p25 (P : Program) (K : Value → World → Prop) (x0 : Value) (x1 : Value) (x2 : Value) : World → Prop :=
  opS P (S.box 26 x2) fun x3 =>
  opS P (S.fa 26 x3 0) fun x4 =>
  opS P (S.ld 3 x4) fun x5 =>
  opS P (S.binI .eql x5 (.int .i64 0)) fun x6 =>
  brn x6 (
    opS P (S.fa 26 x3 1) fun x7 =>
    opS P (S.ld 3 x7) fun x8 =>
    opS P (S.fa 26 x3 2) fun x9 =>
    opS P (S.ld 24 x9) fun x10 =>
    opS P (S.fa 26 x3 3) fun x11 =>
    opS P (S.ld 3 x11) fun x12 =>
    opS P (S.fa 26 x3 4) fun x13 =>
    opS P (S.ld 3 x13) fun x14 =>
    opS P (S.cl 16 [x0, x8, x10, x12, x14]) fun x15 =>
    opS P (S.ext x15 0) fun x16 =>
    opS P (S.ext x15 1) fun x17 =>
    opS P (S.fa 26 x3 1) fun x18 =>
    opS P (S.ld 3 x18) fun x19 =>
    opS P (S.fa 26 x3 2) fun x20 =>
    opS P (S.ld 24 x20) fun x21 =>
    opS P (S.fa 26 x3 3) fun x22 =>
    opS P (S.ld 3 x22) fun x23 =>
    opS P (S.fa 26 x3 4) fun x24 =>
    opS P (S.ld 3 x24) fun x25 =>
    opS P (S.cl 44 [x1, x19, x21, x23, x25]) fun x26 =>
    opS P (S.ext x26 0) fun x27 =>
    opS P (S.ext x26 1) fun x28 =>
    jnJ 1 (fun x29 =>
      K x29
    ) fun j0 =>
    opS P (S.binI .eql x16 x27) fun x29 =>
    brn x29 (
      opS P (S.binI .eql x17 x28) fun x30 =>
      j0 x30
    ) (
      j0 (.bool false)
    )
  ) (
    opS P (S.binI .eql x5 (.int .i64 1)) fun x7 =>
    brn x7 (
      opS P (S.fa 26 x3 1) fun x8 =>
      opS P (S.ld 3 x8) fun x9 =>
      opS P (S.fa 26 x3 2) fun x10 =>
      opS P (S.ld 24 x10) fun x11 =>
      opS P (S.fa 26 x3 3) fun x12 =>
      opS P (S.ld 3 x12) fun x13 =>
      opS P (S.cl 18 [x0, x9, x11, x13]) fun x14 =>
      opS P (S.fa 26 x3 1) fun x15 =>
      opS P (S.ld 3 x15) fun x16 =>
      opS P (S.fa 26 x3 2) fun x17 =>
      opS P (S.ld 24 x17) fun x18 =>
      opS P (S.fa 26 x3 3) fun x19 =>
      opS P (S.ld 3 x19) fun x20 =>
      opS P (S.cl 45 [x1, x16, x18, x20]) fun x21 =>
      opS P (S.binI .eql x14 x21) fun x22 =>
      K x22
    ) (
      opS P (S.binI .eql x5 (.int .i64 2)) fun x8 =>
      brn x8 (
        opS P (S.fa 26 x3 1) fun x9 =>
        opS P (S.ld 3 x9) fun x10 =>
        opS P (S.fa 26 x3 2) fun x11 =>
        opS P (S.ld 24 x11) fun x12 =>
        opS P (S.cl 46 [x0, x10, x12]) fun x13 =>
        opS P (S.fa 26 x3 1) fun x14 =>
        opS P (S.ld 3 x14) fun x15 =>
        opS P (S.fa 26 x3 2) fun x16 =>
        opS P (S.ld 24 x16) fun x17 =>
        opS P (S.cl 47 [x1, x15, x17]) fun x18 =>
        opS P (S.binB .eql x13 x18) fun x19 =>
        K x19
      ) (
        opS P (S.binI .eql x5 (.int .i64 3)) fun x9 =>
        brn x9 (
          opS P (S.fa 26 x3 4) fun x10 =>
          opS P (S.ld 3 x10) fun x11 =>
          opS P (S.fa 26 x3 5) fun x12 =>
          opS P (S.ld 3 x12) fun x13 =>
          opS P (S.cl 19 [x0, x11, x13]) fun x14 =>
          opS P (S.fa 26 x3 4) fun x15 =>
          opS P (S.ld 3 x15) fun x16 =>
          opS P (S.fa 26 x3 5) fun x17 =>
          opS P (S.ld 3 x17) fun x18 =>
          opS P (S.cl 48 [x1, x16, x18]) fun x19 =>
          opS P (S.cl 13 [x14, x19]) fun x20 =>
          K x20
        ) (
          opS P (S.binI .eql x5 (.int .i64 4)) fun x10 =>
          brn x10 (
            opS P (S.fa 26 x3 3) fun x11 =>
            opS P (S.ld 3 x11) fun x12 =>
            opS P (S.cl 20 [x0, x12]) fun x13 =>
            opS P (S.fa 26 x3 3) fun x14 =>
            opS P (S.ld 3 x14) fun x15 =>
            opS P (S.cl 49 [x1, x15]) fun x16 =>
            opS P (S.cl 13 [x13, x16]) fun x17 =>
            K x17
          ) (
            opS P (S.fa 26 x3 1) fun x11 =>
            opS P (S.ld 3 x11) fun x12 =>
            opS P (S.cl 21 [x0, x12]) fun x13 =>
            opS P (S.fa 26 x3 1) fun x14 =>
            opS P (S.ld 3 x14) fun x15 =>
            opS P (S.cl 50 [x1, x15]) fun x16 =>
            opS P (S.cl 13 [x13, x16]) fun x17 =>
            K x17
          )
        )
      )
    )
  )
instance fnb25 : FnB Try.prog 25 := ⟨Try.call25⟩
theorem e25 : p25 Try.prog = fun K x0 x1 x2 => denF Try.prog Try.f25 [x0, x1, x2] K := by kernel_rfl
theorem c25 {K : Value → World → Prop} {x0 x1 x2 : Value} {w : World} (h : p25 Try.prog K x0 x1 x2 w) : CallsR Try.prog 25 #[x0, x1, x2] K w := by
  rw [e25] at h
  exact denF_sound mixed Try.func25 h

end Go.Gx.S
-- 25 10 9 13
