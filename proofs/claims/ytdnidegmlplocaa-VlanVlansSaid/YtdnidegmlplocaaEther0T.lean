/- What the functions of this program ask. -/
import Derived.Test.YtdnidegmlplocaaTy
set_option linter.unusedVariables false
set_option maxRecDepth 100000
namespace Go.Gx.S
open Go Go.Gx Go.Proofs
-- gemel/gemelref02.Same
def p16 (P : Program) (K : Value → World → Prop) (x0 : Value) (x1 : Value) : World → Prop :=
  opS P (S.box 27 x0) fun x2 =>
  opS P (S.box 27 x1) fun x3 =>
  opS P (S.fa 27 x2 0) fun x4 =>
  opS P (S.ld 24 x4) fun x5 =>
  opS P (S.fa 27 x3 0) fun x6 =>
  opS P (S.ld 24 x6) fun x7 =>
  opS P (S.binG .eql 24 x5 x7) fun x8 =>
  brn x8 (
    opS P (S.fa 27 x2 1) fun x9 =>
    opS P (S.ld 24 x9) fun x10 =>
    opS P (S.fa 27 x3 1) fun x11 =>
    opS P (S.ld 24 x11) fun x12 =>
    opS P (S.binG .eql 24 x10 x12) fun x13 =>
    brn x13 (
      opS P (S.fa 27 x2 2) fun x14 =>
      opS P (S.ld 4 x14) fun x15 =>
      opS P (S.fa 27 x3 2) fun x16 =>
      opS P (S.ld 4 x16) fun x17 =>
      opS P (S.binB .eql x15 x17) fun x18 =>
      brn x18 (
        opS P (S.fa 27 x2 3) fun x19 =>
        opS P (S.ld 3 x19) fun x20 =>
        opS P (S.fa 27 x3 3) fun x21 =>
        opS P (S.ld 3 x21) fun x22 =>
        opS P (S.binI .eql x20 x22) fun x23 =>
        brn x23 (
          opS P (S.fa 27 x2 4) fun x24 =>
          opS P (S.ld 3 x24) fun x25 =>
          opS P (S.fa 27 x3 4) fun x26 =>
          opS P (S.ld 3 x26) fun x27 =>
          opS P (S.binI .eql x25 x27) fun x28 =>
          brn x28 (
            opS P (S.fa 27 x2 5) fun x29 =>
            opS P (S.ld 3 x29) fun x30 =>
            opS P (S.fa 27 x3 5) fun x31 =>
            opS P (S.ld 3 x31) fun x32 =>
            opS P (S.binI .eql x30 x32) fun x33 =>
            brn x33 (
              opS P (S.fa 27 x2 6) fun x34 =>
              opS P (S.ld 25 x34) fun x35 =>
              opS P (S.conv 25 9 x35) fun x36 =>
              opS P (S.fa 27 x3 6) fun x37 =>
              opS P (S.ld 25 x37) fun x38 =>
              opS P (S.conv 25 9 x38) fun x39 =>
              opS P (S.binS .eql x36 x39) fun x40 =>
              K x40
            ) (
              K (.bool false)
            )
          ) (
            K (.bool false)
          )
        ) (
          K (.bool false)
        )
      ) (
        K (.bool false)
      )
    ) (
      K (.bool false)
    )
  ) (
    K (.bool false)
  )
instance fnb16 : FnB Try.prog 16 := ⟨Try.call16⟩
theorem e16 : p16 Try.prog = fun K x0 x1 => denF Try.prog Try.f16 [x0, x1] K := by kernel_rfl
theorem c16 {K : Value → World → Prop} {x0 x1 : Value} {w : World} (h : p16 Try.prog K x0 x1 w) : CallsR Try.prog 16 #[x0, x1] K w := by
  rw [e16] at h
  exact denF_sound mixed Try.func16 h

-- gemel/ether.Right
def p29 (P : Program) (K : Value → World → Prop) (x0 : Value) : World → Prop :=
  opS P (S.box 27 x0) fun x1 =>
  opS P (S.fa 27 x1 5) fun x2 =>
  opS P (S.ld 3 x2) fun x3 =>
  opS P (S.binI .lss x3 (.int .i64 1536)) fun x4 =>
  brn x4 (
    K (.bool false)
  ) (
    opS P (S.fa 27 x1 5) fun x5 =>
    opS P (S.ld 3 x5) fun x6 =>
    opS P (S.binI .gtr x6 (.int .i64 65535)) fun x7 =>
    brn x7 (
      K (.bool false)
    ) (
      opS P (S.fa 27 x1 5) fun x8 =>
      opS P (S.ld 3 x8) fun x9 =>
      opS P (S.binI .eql x9 (.int .i64 33024)) fun x10 =>
      brn x10 (
        K (.bool false)
      ) (
        opS P (S.fa 27 x1 6) fun x11 =>
        opS P (S.ld 25 x11) fun x12 =>
        opS P (S.len x12) fun x13 =>
        opS P (S.binI .gtr x13 (.int .i64 1500)) fun x14 =>
        brn x14 (
          K (.bool false)
        ) (
          opS P (S.fa 27 x1 2) fun x15 =>
          opS P (S.ld 4 x15) fun x16 =>
          opS P (S.un .not x16) fun x17 =>
          brn x17 (
            jnJ 1 (fun x18 =>
              K x18
            ) fun j0 =>
            opS P (S.fa 27 x1 3) fun x18 =>
            opS P (S.ld 3 x18) fun x19 =>
            opS P (S.binI .eql x19 (.int .i64 0)) fun x20 =>
            brn x20 (
              opS P (S.fa 27 x1 4) fun x21 =>
              opS P (S.ld 3 x21) fun x22 =>
              opS P (S.binI .eql x22 (.int .i64 0)) fun x23 =>
              j0 x23
            ) (
              j0 (.bool false)
            )
          ) (
            opS P (S.fa 27 x1 3) fun x18 =>
            opS P (S.ld 3 x18) fun x19 =>
            opS P (S.binI .geq x19 (.int .i64 0)) fun x20 =>
            brn x20 (
              opS P (S.fa 27 x1 3) fun x21 =>
              opS P (S.ld 3 x21) fun x22 =>
              opS P (S.binI .leq x22 (.int .i64 4094)) fun x23 =>
              brn x23 (
                opS P (S.fa 27 x1 4) fun x24 =>
                opS P (S.ld 3 x24) fun x25 =>
                opS P (S.binI .geq x25 (.int .i64 0)) fun x26 =>
                brn x26 (
                  opS P (S.fa 27 x1 4) fun x27 =>
                  opS P (S.ld 3 x27) fun x28 =>
                  opS P (S.binI .leq x28 (.int .i64 7)) fun x29 =>
                  K x29
                ) (
                  K (.bool false)
                )
              ) (
                K (.bool false)
              )
            ) (
              K (.bool false)
            )
          )
        )
      )
    )
  )
instance fnb29 : FnB Try.prog 29 := ⟨Try.call29⟩
theorem e29 : p29 Try.prog = fun K x0 => denF Try.prog Try.f29 [x0] K := by kernel_rfl
theorem c29 {K : Value → World → Prop} {x0 : Value} {w : World} (h : p29 Try.prog K x0 w) : CallsR Try.prog 29 #[x0] K w := by
  rw [e29] at h
  exact denF_sound mixed Try.func29 h

-- gemel/gemelref02.Right
def p30 (P : Program) (K : Value → World → Prop) (x0 : Value) : World → Prop :=
  opS P (S.box 27 x0) fun x1 =>
  opS P (S.fa 27 x1 5) fun x2 =>
  opS P (S.ld 3 x2) fun x3 =>
  opS P (S.binI .lss x3 (.int .i64 1536)) fun x4 =>
  brn x4 (
    K (.bool false)
  ) (
    opS P (S.fa 27 x1 5) fun x5 =>
    opS P (S.ld 3 x5) fun x6 =>
    opS P (S.binI .gtr x6 (.int .i64 65535)) fun x7 =>
    brn x7 (
      K (.bool false)
    ) (
      opS P (S.fa 27 x1 5) fun x8 =>
      opS P (S.ld 3 x8) fun x9 =>
      opS P (S.binI .eql x9 (.int .i64 33024)) fun x10 =>
      brn x10 (
        K (.bool false)
      ) (
        opS P (S.fa 27 x1 6) fun x11 =>
        opS P (S.ld 25 x11) fun x12 =>
        opS P (S.len x12) fun x13 =>
        opS P (S.binI .gtr x13 (.int .i64 1500)) fun x14 =>
        brn x14 (
          K (.bool false)
        ) (
          opS P (S.fa 27 x1 2) fun x15 =>
          opS P (S.ld 4 x15) fun x16 =>
          opS P (S.un .not x16) fun x17 =>
          brn x17 (
            jnJ 1 (fun x18 =>
              K x18
            ) fun j0 =>
            opS P (S.fa 27 x1 3) fun x18 =>
            opS P (S.ld 3 x18) fun x19 =>
            opS P (S.binI .eql x19 (.int .i64 0)) fun x20 =>
            brn x20 (
              opS P (S.fa 27 x1 4) fun x21 =>
              opS P (S.ld 3 x21) fun x22 =>
              opS P (S.binI .eql x22 (.int .i64 0)) fun x23 =>
              j0 x23
            ) (
              j0 (.bool false)
            )
          ) (
            opS P (S.fa 27 x1 3) fun x18 =>
            opS P (S.ld 3 x18) fun x19 =>
            opS P (S.binI .geq x19 (.int .i64 0)) fun x20 =>
            brn x20 (
              opS P (S.fa 27 x1 3) fun x21 =>
              opS P (S.ld 3 x21) fun x22 =>
              opS P (S.binI .leq x22 (.int .i64 4094)) fun x23 =>
              brn x23 (
                opS P (S.fa 27 x1 4) fun x24 =>
                opS P (S.ld 3 x24) fun x25 =>
                opS P (S.binI .geq x25 (.int .i64 0)) fun x26 =>
                brn x26 (
                  opS P (S.fa 27 x1 4) fun x27 =>
                  opS P (S.ld 3 x27) fun x28 =>
                  opS P (S.binI .leq x28 (.int .i64 7)) fun x29 =>
                  K x29
                ) (
                  K (.bool false)
                )
              ) (
                K (.bool false)
              )
            ) (
              K (.bool false)
            )
          )
        )
      )
    )
  )
instance fnb30 : FnB Try.prog 30 := ⟨Try.call30⟩
theorem e30 : p30 Try.prog = fun K x0 => denF Try.prog Try.f30 [x0] K := by kernel_rfl
theorem c30 {K : Value → World → Prop} {x0 : Value} {w : World} (h : p30 Try.prog K x0 w) : CallsR Try.prog 30 #[x0] K w := by
  rw [e30] at h
  exact denF_sound mixed Try.func30 h

-- gemel/ether.Tag
def p33 (P : Program) (K : Value → World → Prop) (x0 : Value) (x1 : Value) (x2 : Value) : World → Prop :=
  opS P (S.box 27 x0) fun x3 =>
  opS P (S.alloc 27) fun x4 =>
  opS P (S.fa 27 x3 2) fun x5 =>
  opS P (S.st 4 x5 (.bool true)) fun x6 =>
  opS P (S.fa 27 x3 3) fun x7 =>
  opS P (S.st 3 x7 x1) fun x8 =>
  opS P (S.fa 27 x3 4) fun x9 =>
  opS P (S.st 3 x9 x2) fun x10 =>
  opS P (S.ld 27 x3) fun x11 =>
  opS P (S.cl 29 [x11]) fun x12 =>
  opS P (S.un .not x12) fun x13 =>
  brn x13 (
    opS P (S.build 27 []) fun x14 =>
    opS P (S.st 27 x4 x14) fun x15 =>
    opS P (S.ld 27 x4) fun x16 =>
    K (.tuple #[x16, (.int .i64 1)])
  ) (
    opS P (S.ld 27 x3) fun x14 =>
    opS P (S.st 27 x4 x14) fun x15 =>
    opS P (S.ld 27 x4) fun x16 =>
    K (.tuple #[x16, (.int .i64 0)])
  )
instance fnb33 : FnB Try.prog 33 := ⟨Try.call33⟩
theorem e33 : p33 Try.prog = fun K x0 x1 x2 => denF Try.prog Try.f33 [x0, x1, x2] K := by kernel_rfl
theorem c33 {K : Value → World → Prop} {x0 x1 x2 : Value} {w : World} (h : p33 Try.prog K x0 x1 x2 w) : CallsR Try.prog 33 #[x0, x1, x2] K w := by
  rw [e33] at h
  exact denF_sound mixed Try.func33 h

-- gemel/ether.Untag
def p34 (P : Program) (K : Value → World → Prop) (x0 : Value) : World → Prop :=
  opS P (S.box 27 x0) fun x1 =>
  opS P (S.alloc 27) fun x2 =>
  opS P (S.fa 27 x1 2) fun x3 =>
  opS P (S.st 4 x3 (.bool false)) fun x4 =>
  opS P (S.fa 27 x1 3) fun x5 =>
  opS P (S.st 3 x5 (.int .i64 0)) fun x6 =>
  opS P (S.fa 27 x1 4) fun x7 =>
  opS P (S.st 3 x7 (.int .i64 0)) fun x8 =>
  opS P (S.ld 27 x1) fun x9 =>
  opS P (S.st 27 x2 x9) fun x10 =>
  opS P (S.ld 27 x2) fun x11 =>
  K x11
instance fnb34 : FnB Try.prog 34 := ⟨Try.call34⟩
theorem e34 : p34 Try.prog = fun K x0 => denF Try.prog Try.f34 [x0] K := by kernel_rfl
theorem c34 {K : Value → World → Prop} {x0 : Value} {w : World} (h : p34 Try.prog K x0 w) : CallsR Try.prog 34 #[x0] K w := by
  rw [e34] at h
  exact denF_sound mixed Try.func34 h

-- gemel/gemelref02.Tag
def p36 (P : Program) (K : Value → World → Prop) (x0 : Value) (x1 : Value) (x2 : Value) : World → Prop :=
  opS P (S.box 27 x0) fun x3 =>
  opS P (S.alloc 27) fun x4 =>
  opS P (S.fa 27 x3 2) fun x5 =>
  opS P (S.st 4 x5 (.bool true)) fun x6 =>
  opS P (S.fa 27 x3 3) fun x7 =>
  opS P (S.st 3 x7 x1) fun x8 =>
  opS P (S.fa 27 x3 4) fun x9 =>
  opS P (S.st 3 x9 x2) fun x10 =>
  opS P (S.ld 27 x3) fun x11 =>
  opS P (S.cl 30 [x11]) fun x12 =>
  opS P (S.un .not x12) fun x13 =>
  brn x13 (
    opS P (S.build 27 []) fun x14 =>
    opS P (S.st 27 x4 x14) fun x15 =>
    opS P (S.ld 27 x4) fun x16 =>
    K (.tuple #[x16, (.int .i64 1)])
  ) (
    opS P (S.ld 27 x3) fun x14 =>
    opS P (S.st 27 x4 x14) fun x15 =>
    opS P (S.ld 27 x4) fun x16 =>
    K (.tuple #[x16, (.int .i64 0)])
  )
instance fnb36 : FnB Try.prog 36 := ⟨Try.call36⟩
theorem e36 : p36 Try.prog = fun K x0 x1 x2 => denF Try.prog Try.f36 [x0, x1, x2] K := by kernel_rfl
theorem c36 {K : Value → World → Prop} {x0 x1 x2 : Value} {w : World} (h : p36 Try.prog K x0 x1 x2 w) : CallsR Try.prog 36 #[x0, x1, x2] K w := by
  rw [e36] at h
  exact denF_sound mixed Try.func36 h

-- gemel/gemelref02.Untag
def p37 (P : Program) (K : Value → World → Prop) (x0 : Value) : World → Prop :=
  opS P (S.box 27 x0) fun x1 =>
  opS P (S.alloc 27) fun x2 =>
  opS P (S.fa 27 x1 2) fun x3 =>
  opS P (S.st 4 x3 (.bool false)) fun x4 =>
  opS P (S.fa 27 x1 3) fun x5 =>
  opS P (S.st 3 x5 (.int .i64 0)) fun x6 =>
  opS P (S.fa 27 x1 4) fun x7 =>
  opS P (S.st 3 x7 (.int .i64 0)) fun x8 =>
  opS P (S.ld 27 x1) fun x9 =>
  opS P (S.st 27 x2 x9) fun x10 =>
  opS P (S.ld 27 x2) fun x11 =>
  K x11
instance fnb37 : FnB Try.prog 37 := ⟨Try.call37⟩
theorem e37 : p37 Try.prog = fun K x0 => denF Try.prog Try.f37 [x0] K := by kernel_rfl
theorem c37 {K : Value → World → Prop} {x0 : Value} {w : World} (h : p37 Try.prog K x0 w) : CallsR Try.prog 37 #[x0] K w := by
  rw [e37] at h
  exact denF_sound mixed Try.func37 h

end Go.Gx.S
-- 29 30 33 36 34 37 16
