/- What the functions of this program ask. -/
import Derived.Test.YtebfekelonfcgaaDoorTy
set_option linter.unusedVariables false
set_option maxRecDepth 100000
namespace Go.Gx.S
open Go Go.Gx Go.Proofs
-- gemel/ether.Right
def p12 (P : Program) (K : Value → World → Prop) (x0 : Value) : World → Prop :=
  opS P (S.box 26 x0) fun x1 =>
  opS P (S.fa 26 x1 5) fun x2 =>
  opS P (S.ld 3 x2) fun x3 =>
  opS P (S.binI .lss x3 (.int .i64 1536)) fun x4 =>
  brn x4 (
    K (.bool false)
  ) (
    opS P (S.fa 26 x1 5) fun x5 =>
    opS P (S.ld 3 x5) fun x6 =>
    opS P (S.binI .gtr x6 (.int .i64 65535)) fun x7 =>
    brn x7 (
      K (.bool false)
    ) (
      opS P (S.fa 26 x1 5) fun x8 =>
      opS P (S.ld 3 x8) fun x9 =>
      opS P (S.binI .eql x9 (.int .i64 33024)) fun x10 =>
      brn x10 (
        K (.bool false)
      ) (
        opS P (S.fa 26 x1 6) fun x11 =>
        opS P (S.ld 24 x11) fun x12 =>
        opS P (S.len x12) fun x13 =>
        opS P (S.binI .gtr x13 (.int .i64 1500)) fun x14 =>
        brn x14 (
          K (.bool false)
        ) (
          opS P (S.fa 26 x1 2) fun x15 =>
          opS P (S.ld 4 x15) fun x16 =>
          opS P (S.un .not x16) fun x17 =>
          brn x17 (
            jnJ 1 (fun x18 =>
              K x18
            ) fun j0 =>
            opS P (S.fa 26 x1 3) fun x18 =>
            opS P (S.ld 3 x18) fun x19 =>
            opS P (S.binI .eql x19 (.int .i64 0)) fun x20 =>
            brn x20 (
              opS P (S.fa 26 x1 4) fun x21 =>
              opS P (S.ld 3 x21) fun x22 =>
              opS P (S.binI .eql x22 (.int .i64 0)) fun x23 =>
              j0 x23
            ) (
              j0 (.bool false)
            )
          ) (
            opS P (S.fa 26 x1 3) fun x18 =>
            opS P (S.ld 3 x18) fun x19 =>
            opS P (S.binI .geq x19 (.int .i64 0)) fun x20 =>
            brn x20 (
              opS P (S.fa 26 x1 3) fun x21 =>
              opS P (S.ld 3 x21) fun x22 =>
              opS P (S.binI .leq x22 (.int .i64 4094)) fun x23 =>
              brn x23 (
                opS P (S.fa 26 x1 4) fun x24 =>
                opS P (S.ld 3 x24) fun x25 =>
                opS P (S.binI .geq x25 (.int .i64 0)) fun x26 =>
                brn x26 (
                  opS P (S.fa 26 x1 4) fun x27 =>
                  opS P (S.ld 3 x27) fun x28 =>
                  opS P (S.binI .leq x28 (.int .i64 7)) fun x29 =>
                  K x29
                ) (
                  K (.bool false)
                )
              ) (
                K (.bool false)
              )
            ) (
              K (.bool false)
            )
          )
        )
      )
    )
  )
instance fnb12 : FnB Tryd.prog 12 := ⟨Tryd.call12⟩
theorem e12 : p12 Tryd.prog = fun K x0 => denF Tryd.prog Tryd.f12 [x0] K := by kernel_rfl
theorem c12 {K : Value → World → Prop} {x0 : Value} {w : World} (h : p12 Tryd.prog K x0 w) : CallsR Tryd.prog 12 #[x0] K w := by
  rw [e12] at h
  exact denF_sound mixed Tryd.func12 h

-- gemel/gemelref02.Right
def p13 (P : Program) (K : Value → World → Prop) (x0 : Value) : World → Prop :=
  opS P (S.box 26 x0) fun x1 =>
  opS P (S.fa 26 x1 5) fun x2 =>
  opS P (S.ld 3 x2) fun x3 =>
  opS P (S.binI .lss x3 (.int .i64 1536)) fun x4 =>
  brn x4 (
    K (.bool false)
  ) (
    opS P (S.fa 26 x1 5) fun x5 =>
    opS P (S.ld 3 x5) fun x6 =>
    opS P (S.binI .gtr x6 (.int .i64 65535)) fun x7 =>
    brn x7 (
      K (.bool false)
    ) (
      opS P (S.fa 26 x1 5) fun x8 =>
      opS P (S.ld 3 x8) fun x9 =>
      opS P (S.binI .eql x9 (.int .i64 33024)) fun x10 =>
      brn x10 (
        K (.bool false)
      ) (
        opS P (S.fa 26 x1 6) fun x11 =>
        opS P (S.ld 24 x11) fun x12 =>
        opS P (S.len x12) fun x13 =>
        opS P (S.binI .gtr x13 (.int .i64 1500)) fun x14 =>
        brn x14 (
          K (.bool false)
        ) (
          opS P (S.fa 26 x1 2) fun x15 =>
          opS P (S.ld 4 x15) fun x16 =>
          opS P (S.un .not x16) fun x17 =>
          brn x17 (
            jnJ 1 (fun x18 =>
              K x18
            ) fun j0 =>
            opS P (S.fa 26 x1 3) fun x18 =>
            opS P (S.ld 3 x18) fun x19 =>
            opS P (S.binI .eql x19 (.int .i64 0)) fun x20 =>
            brn x20 (
              opS P (S.fa 26 x1 4) fun x21 =>
              opS P (S.ld 3 x21) fun x22 =>
              opS P (S.binI .eql x22 (.int .i64 0)) fun x23 =>
              j0 x23
            ) (
              j0 (.bool false)
            )
          ) (
            opS P (S.fa 26 x1 3) fun x18 =>
            opS P (S.ld 3 x18) fun x19 =>
            opS P (S.binI .geq x19 (.int .i64 0)) fun x20 =>
            brn x20 (
              opS P (S.fa 26 x1 3) fun x21 =>
              opS P (S.ld 3 x21) fun x22 =>
              opS P (S.binI .leq x22 (.int .i64 4094)) fun x23 =>
              brn x23 (
                opS P (S.fa 26 x1 4) fun x24 =>
                opS P (S.ld 3 x24) fun x25 =>
                opS P (S.binI .geq x25 (.int .i64 0)) fun x26 =>
                brn x26 (
                  opS P (S.fa 26 x1 4) fun x27 =>
                  opS P (S.ld 3 x27) fun x28 =>
                  opS P (S.binI .leq x28 (.int .i64 7)) fun x29 =>
                  K x29
                ) (
                  K (.bool false)
                )
              ) (
                K (.bool false)
              )
            ) (
              K (.bool false)
            )
          )
        )
      )
    )
  )
instance fnb13 : FnB Tryd.prog 13 := ⟨Tryd.call13⟩
theorem e13 : p13 Tryd.prog = fun K x0 => denF Tryd.prog Tryd.f13 [x0] K := by kernel_rfl
theorem c13 {K : Value → World → Prop} {x0 : Value} {w : World} (h : p13 Tryd.prog K x0 w) : CallsR Tryd.prog 13 #[x0] K w := by
  rw [e13] at h
  exact denF_sound mixed Tryd.func13 h

-- gemel/gemelref02.Same
def p14 (P : Program) (K : Value → World → Prop) (x0 : Value) (x1 : Value) : World → Prop :=
  opS P (S.box 26 x0) fun x2 =>
  opS P (S.box 26 x1) fun x3 =>
  opS P (S.fa 26 x2 0) fun x4 =>
  opS P (S.ld 23 x4) fun x5 =>
  opS P (S.fa 26 x3 0) fun x6 =>
  opS P (S.ld 23 x6) fun x7 =>
  opS P (S.binG .eql 23 x5 x7) fun x8 =>
  brn x8 (
    opS P (S.fa 26 x2 1) fun x9 =>
    opS P (S.ld 23 x9) fun x10 =>
    opS P (S.fa 26 x3 1) fun x11 =>
    opS P (S.ld 23 x11) fun x12 =>
    opS P (S.binG .eql 23 x10 x12) fun x13 =>
    brn x13 (
      opS P (S.fa 26 x2 2) fun x14 =>
      opS P (S.ld 4 x14) fun x15 =>
      opS P (S.fa 26 x3 2) fun x16 =>
      opS P (S.ld 4 x16) fun x17 =>
      opS P (S.binB .eql x15 x17) fun x18 =>
      brn x18 (
        opS P (S.fa 26 x2 3) fun x19 =>
        opS P (S.ld 3 x19) fun x20 =>
        opS P (S.fa 26 x3 3) fun x21 =>
        opS P (S.ld 3 x21) fun x22 =>
        opS P (S.binI .eql x20 x22) fun x23 =>
        brn x23 (
          opS P (S.fa 26 x2 4) fun x24 =>
          opS P (S.ld 3 x24) fun x25 =>
          opS P (S.fa 26 x3 4) fun x26 =>
          opS P (S.ld 3 x26) fun x27 =>
          opS P (S.binI .eql x25 x27) fun x28 =>
          brn x28 (
            opS P (S.fa 26 x2 5) fun x29 =>
            opS P (S.ld 3 x29) fun x30 =>
            opS P (S.fa 26 x3 5) fun x31 =>
            opS P (S.ld 3 x31) fun x32 =>
            opS P (S.binI .eql x30 x32) fun x33 =>
            brn x33 (
              opS P (S.fa 26 x2 6) fun x34 =>
              opS P (S.ld 24 x34) fun x35 =>
              opS P (S.conv 24 9 x35) fun x36 =>
              opS P (S.fa 26 x3 6) fun x37 =>
              opS P (S.ld 24 x37) fun x38 =>
              opS P (S.conv 24 9 x38) fun x39 =>
              opS P (S.binS .eql x36 x39) fun x40 =>
              K x40
            ) (
              K (.bool false)
            )
          ) (
            K (.bool false)
          )
        ) (
          K (.bool false)
        )
      ) (
        K (.bool false)
      )
    ) (
      K (.bool false)
    )
  ) (
    K (.bool false)
  )
instance fnb14 : FnB Tryd.prog 14 := ⟨Tryd.call14⟩
theorem e14 : p14 Tryd.prog = fun K x0 x1 => denF Tryd.prog Tryd.f14 [x0, x1] K := by kernel_rfl
theorem c14 {K : Value → World → Prop} {x0 x1 : Value} {w : World} (h : p14 Tryd.prog K x0 x1 w) : CallsR Tryd.prog 14 #[x0, x1] K w := by
  rw [e14] at h
  exact denF_sound mixed Tryd.func14 h

-- gemel/ether.Tag
def p15 (P : Program) (K : Value → World → Prop) (x0 : Value) (x1 : Value) (x2 : Value) : World → Prop :=
  opS P (S.box 26 x0) fun x3 =>
  opS P (S.alloc 26) fun x4 =>
  opS P (S.fa 26 x3 2) fun x5 =>
  opS P (S.st 4 x5 (.bool true)) fun x6 =>
  opS P (S.fa 26 x3 3) fun x7 =>
  opS P (S.st 3 x7 x1) fun x8 =>
  opS P (S.fa 26 x3 4) fun x9 =>
  opS P (S.st 3 x9 x2) fun x10 =>
  opS P (S.ld 26 x3) fun x11 =>
  opS P (S.cl 12 [x11]) fun x12 =>
  opS P (S.un .not x12) fun x13 =>
  brn x13 (
    opS P (S.build 26 []) fun x14 =>
    opS P (S.st 26 x4 x14) fun x15 =>
    opS P (S.ld 26 x4) fun x16 =>
    K (.tuple #[x16, (.int .i64 1)])
  ) (
    opS P (S.ld 26 x3) fun x14 =>
    opS P (S.st 26 x4 x14) fun x15 =>
    opS P (S.ld 26 x4) fun x16 =>
    K (.tuple #[x16, (.int .i64 0)])
  )
instance fnb15 : FnB Tryd.prog 15 := ⟨Tryd.call15⟩
theorem e15 : p15 Tryd.prog = fun K x0 x1 x2 => denF Tryd.prog Tryd.f15 [x0, x1, x2] K := by kernel_rfl
theorem c15 {K : Value → World → Prop} {x0 x1 x2 : Value} {w : World} (h : p15 Tryd.prog K x0 x1 x2 w) : CallsR Tryd.prog 15 #[x0, x1, x2] K w := by
  rw [e15] at h
  exact denF_sound mixed Tryd.func15 h

-- gemel/gemelref02.Tag
def p16 (P : Program) (K : Value → World → Prop) (x0 : Value) (x1 : Value) (x2 : Value) : World → Prop :=
  opS P (S.box 26 x0) fun x3 =>
  opS P (S.alloc 26) fun x4 =>
  opS P (S.fa 26 x3 2) fun x5 =>
  opS P (S.st 4 x5 (.bool true)) fun x6 =>
  opS P (S.fa 26 x3 3) fun x7 =>
  opS P (S.st 3 x7 x1) fun x8 =>
  opS P (S.fa 26 x3 4) fun x9 =>
  opS P (S.st 3 x9 x2) fun x10 =>
  opS P (S.ld 26 x3) fun x11 =>
  opS P (S.cl 13 [x11]) fun x12 =>
  opS P (S.un .not x12) fun x13 =>
  brn x13 (
    opS P (S.build 26 []) fun x14 =>
    opS P (S.st 26 x4 x14) fun x15 =>
    opS P (S.ld 26 x4) fun x16 =>
    K (.tuple #[x16, (.int .i64 1)])
  ) (
    opS P (S.ld 26 x3) fun x14 =>
    opS P (S.st 26 x4 x14) fun x15 =>
    opS P (S.ld 26 x4) fun x16 =>
    K (.tuple #[x16, (.int .i64 0)])
  )
instance fnb16 : FnB Tryd.prog 16 := ⟨Tryd.call16⟩
theorem e16 : p16 Tryd.prog = fun K x0 x1 x2 => denF Tryd.prog Tryd.f16 [x0, x1, x2] K := by kernel_rfl
theorem c16 {K : Value → World → Prop} {x0 x1 x2 : Value} {w : World} (h : p16 Tryd.prog K x0 x1 x2 w) : CallsR Tryd.prog 16 #[x0, x1, x2] K w := by
  rw [e16] at h
  exact denF_sound mixed Tryd.func16 h

-- gemel/ether.Untag
def p17 (P : Program) (K : Value → World → Prop) (x0 : Value) : World → Prop :=
  opS P (S.box 26 x0) fun x1 =>
  opS P (S.alloc 26) fun x2 =>
  opS P (S.fa 26 x1 2) fun x3 =>
  opS P (S.st 4 x3 (.bool false)) fun x4 =>
  opS P (S.fa 26 x1 3) fun x5 =>
  opS P (S.st 3 x5 (.int .i64 0)) fun x6 =>
  opS P (S.fa 26 x1 4) fun x7 =>
  opS P (S.st 3 x7 (.int .i64 0)) fun x8 =>
  opS P (S.ld 26 x1) fun x9 =>
  opS P (S.st 26 x2 x9) fun x10 =>
  opS P (S.ld 26 x2) fun x11 =>
  K x11
instance fnb17 : FnB Tryd.prog 17 := ⟨Tryd.call17⟩
theorem e17 : p17 Tryd.prog = fun K x0 => denF Tryd.prog Tryd.f17 [x0] K := by kernel_rfl
theorem c17 {K : Value → World → Prop} {x0 : Value} {w : World} (h : p17 Tryd.prog K x0 w) : CallsR Tryd.prog 17 #[x0] K w := by
  rw [e17] at h
  exact denF_sound mixed Tryd.func17 h

-- gemel/gemelref02.Untag
def p18 (P : Program) (K : Value → World → Prop) (x0 : Value) : World → Prop :=
  opS P (S.box 26 x0) fun x1 =>
  opS P (S.alloc 26) fun x2 =>
  opS P (S.fa 26 x1 2) fun x3 =>
  opS P (S.st 4 x3 (.bool false)) fun x4 =>
  opS P (S.fa 26 x1 3) fun x5 =>
  opS P (S.st 3 x5 (.int .i64 0)) fun x6 =>
  opS P (S.fa 26 x1 4) fun x7 =>
  opS P (S.st 3 x7 (.int .i64 0)) fun x8 =>
  opS P (S.ld 26 x1) fun x9 =>
  opS P (S.st 26 x2 x9) fun x10 =>
  opS P (S.ld 26 x2) fun x11 =>
  K x11
instance fnb18 : FnB Tryd.prog 18 := ⟨Tryd.call18⟩
theorem e18 : p18 Tryd.prog = fun K x0 => denF Tryd.prog Tryd.f18 [x0] K := by kernel_rfl
theorem c18 {K : Value → World → Prop} {x0 : Value} {w : World} (h : p18 Tryd.prog K x0 w) : CallsR Tryd.prog 18 #[x0] K w := by
  rw [e18] at h
  exact denF_sound mixed Tryd.func18 h

end Go.Gx.S
-- 12 13 15 16 17 18 14
