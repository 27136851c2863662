/- What the functions of this program ask. -/
import Derived.Test.YtebfekelonfcgaaDoorTy
set_option linter.unusedVariables false
set_option maxRecDepth 100000
namespace Go.Gx.S
open Go Go.Gx Go.Proofs
-- gemel/gemellaw02.EtherEncodes
def p3 (P : Program) (K : Value → World → Prop) (x0 : Value) : World → Prop :=
  opS P (S.box 26 x0) fun x1 =>
  opS P (S.cl 9 []) fun x2 =>
  opS P (S.un .not x2) fun x3 =>
  brn x3 (
    K x2
  ) (
    opS P (S.fa 26 x1 6) fun x4 =>
    opS P (S.ld 24 x4) fun x5 =>
    opS P (S.len x5) fun x6 =>
    opS P (S.binI .gtr x6 (.int .i64 3000)) fun x7 =>
    brn x7 (
      K x2
    ) (
      opS P (S.ld 26 x1) fun x8 =>
      opS P (S.cl 10 [x8]) fun x9 =>
      opS P (S.ext x9 0) fun x10 =>
      opS P (S.ext x9 1) fun x11 =>
      opS P (S.ld 26 x1) fun x12 =>
      opS P (S.cl 11 [x12]) fun x13 =>
      opS P (S.ext x13 0) fun x14 =>
      opS P (S.ext x13 1) fun x15 =>
      drw <|
      allW (
        opS P (S.conv 24 9 x10) fun x16 =>
        opS P (S.conv 24 9 x14) fun x17 =>
        opS P (S.binS .eql x16 x17) fun x18 =>
        brn x18 (
          opS P (S.binI .eql x11 x15) fun x19 =>
          brn x19 (
            opS P (S.ld 26 x1) fun x20 =>
            allW (
              opS P (S.cl 12 [x20]) fun x21 =>
              opS P (S.ld 26 x1) fun x22 =>
              opS P (S.cl 13 [x22]) fun x23 =>
              opS P (S.binB .eql x21 x23) fun x24 =>
              K x24
            ) (
              opS P (S.ld 26 x1) fun x21 =>
              opS P (S.cl 12 [x20]) fun x22 =>
              opS P (S.cl 13 [x21]) fun x23 =>
              opS P (S.binB .eql x22 x23) fun x24 =>
              K x24
            )
          ) (
            allW (
              K (.bool false)
            ) (
              K (.bool false)
            )
          )
        ) (
          allW (
            K (.bool false)
          ) (
            K (.bool false)
          )
        )
      ) (
        opS P (S.conv 24 9 x14) fun x16 =>
        opS P (S.conv 24 9 x10) fun x17 =>
        opS P (S.binS .eql x17 x16) fun x18 =>
        brn x18 (
          opS P (S.binI .eql x11 x15) fun x19 =>
          brn x19 (
            opS P (S.ld 26 x1) fun x20 =>
            allW (
              opS P (S.cl 12 [x20]) fun x21 =>
              opS P (S.ld 26 x1) fun x22 =>
              opS P (S.cl 13 [x22]) fun x23 =>
              opS P (S.binB .eql x21 x23) fun x24 =>
              K x24
            ) (
              opS P (S.ld 26 x1) fun x21 =>
              opS P (S.cl 12 [x20]) fun x22 =>
              opS P (S.cl 13 [x21]) fun x23 =>
              opS P (S.binB .eql x22 x23) fun x24 =>
              K x24
            )
          ) (
            allW (
              K (.bool false)
            ) (
              K (.bool false)
            )
          )
        ) (
          allW (
            K (.bool false)
          ) (
            K (.bool false)
          )
        )
      )
    )
  )
instance fnb3 : FnB Tryd.prog 3 := ⟨Tryd.call3⟩
theorem e3 : p3 Tryd.prog = fun K x0 => denF Tryd.prog Tryd.f3 [x0] K := by kernel_rfl
theorem c3 {K : Value → World → Prop} {x0 : Value} {w : World} (h : p3 Tryd.prog K x0 w) : CallsR Tryd.prog 3 #[x0] K w := by
  rw [e3] at h
  exact denF_sound mixed Tryd.func3 h

-- gemel/gemellaw02.EtherOnce
def p4 (P : Program) (K : Value → World → Prop) (x0 : Value) (x1 : Value) : World → Prop :=
  opS P (S.box 26 x0) fun x2 =>
  opS P (S.box 26 x1) fun x3 =>
  opS P (S.cl 9 []) fun x4 =>
  opS P (S.un .not x4) fun x5 =>
  brn x5 (
    K x4
  ) (
    opS P (S.fa 26 x2 6) fun x6 =>
    opS P (S.ld 24 x6) fun x7 =>
    opS P (S.len x7) fun x8 =>
    opS P (S.binI .gtr x8 (.int .i64 3000)) fun x9 =>
    brn x9 (
      K x4
    ) (
      opS P (S.fa 26 x3 6) fun x10 =>
      opS P (S.ld 24 x10) fun x11 =>
      opS P (S.len x11) fun x12 =>
      opS P (S.binI .gtr x12 (.int .i64 3000)) fun x13 =>
      brn x13 (
        K x4
      ) (
        opS P (S.ld 26 x2) fun x14 =>
        opS P (S.cl 10 [x14]) fun x15 =>
        opS P (S.ext x15 0) fun x16 =>
        opS P (S.ext x15 1) fun x17 =>
        opS P (S.ld 26 x3) fun x18 =>
        opS P (S.cl 10 [x18]) fun x19 =>
        opS P (S.ext x19 0) fun x20 =>
        opS P (S.ext x19 1) fun x21 =>
        opS P (S.binI .neq x17 (.int .i64 0)) fun x22 =>
        brn x22 (
          K (.bool true)
        ) (
          opS P (S.binI .neq x21 (.int .i64 0)) fun x23 =>
          brn x23 (
            K (.bool true)
          ) (
            opS P (S.fa 26 x2 6) fun x24 =>
            opS P (S.ld 24 x24) fun x25 =>
            opS P (S.len x25) fun x26 =>
            opS P (S.binI .add (.int .i64 14) x26) fun x27 =>
            jnJ 1 (fun x28 =>
              opS P (S.ld 26 x2) fun x29 =>
              opS P (S.ld 26 x3) fun x30 =>
              opS P (S.cl 14 [x29, x30]) fun x31 =>
              opS P (S.len x16) fun x32 =>
              opS P (S.binI .eql x32 x28) fun x33 =>
              brn x33 (
                opS P (S.conv 24 9 x16) fun x34 =>
                opS P (S.conv 24 9 x20) fun x35 =>
                opS P (S.binS .eql x34 x35) fun x36 =>
                opS P (S.binB .eql x31 x36) fun x37 =>
                K x37
              ) (
                K (.bool false)
              )
            ) fun j0 =>
            opS P (S.fa 26 x2 2) fun x28 =>
            opS P (S.ld 4 x28) fun x29 =>
            brn x29 (
              opS P (S.binI .add x27 (.int .i64 4)) fun x30 =>
              j0 x30
            ) (
              j0 x27
            )
          )
        )
      )
    )
  )
instance fnb4 : FnB Tryd.prog 4 := ⟨Tryd.call4⟩
theorem e4 : p4 Tryd.prog = fun K x0 x1 => denF Tryd.prog Tryd.f4 [x0, x1] K := by kernel_rfl
theorem c4 {K : Value → World → Prop} {x0 x1 : Value} {w : World} (h : p4 Tryd.prog K x0 x1 w) : CallsR Tryd.prog 4 #[x0, x1] K w := by
  rw [e4] at h
  exact denF_sound mixed Tryd.func4 h

-- gemel/gemellaw02.EtherTags
def p5 (P : Program) (K : Value → World → Prop) (x0 : Value) (x1 : Value) (x2 : Value) : World → Prop :=
  opS P (S.box 26 x0) fun x3 =>
  opS P (S.cl 9 []) fun x4 =>
  opS P (S.un .not x4) fun x5 =>
  brn x5 (
    K x4
  ) (
    opS P (S.fa 26 x3 6) fun x6 =>
    opS P (S.ld 24 x6) fun x7 =>
    opS P (S.len x7) fun x8 =>
    opS P (S.binI .gtr x8 (.int .i64 3000)) fun x9 =>
    brn x9 (
      K x4
    ) (
      opS P (S.ld 26 x3) fun x10 =>
      opS P (S.cl 15 [x10, x1, x2]) fun x11 =>
      opS P (S.ext x11 0) fun x12 =>
      opS P (S.ext x11 1) fun x13 =>
      opS P (S.alloc 26) fun x14 =>
      opS P (S.st 26 x14 x12) fun x15 =>
      opS P (S.ld 26 x3) fun x16 =>
      opS P (S.cl 16 [x16, x1, x2]) fun x17 =>
      opS P (S.ext x17 0) fun x18 =>
      opS P (S.ext x17 1) fun x19 =>
      opS P (S.alloc 26) fun x20 =>
      opS P (S.st 26 x20 x18) fun x21 =>
      opS P (S.ld 26 x14) fun x22 =>
      opS P (S.ld 26 x20) fun x23 =>
      opS P (S.cl 14 [x22, x23]) fun x24 =>
      drw <|
      brn x24 (
        opS P (S.binI .eql x13 x19) fun x25 =>
        brn x25 (
          opS P (S.ld 26 x3) fun x26 =>
          allW (
            opS P (S.cl 17 [x26]) fun x27 =>
            opS P (S.ld 26 x3) fun x28 =>
            opS P (S.cl 18 [x28]) fun x29 =>
            opS P (S.cl 14 [x27, x29]) fun x30 =>
            K x30
          ) (
            opS P (S.ld 26 x3) fun x27 =>
            opS P (S.cl 17 [x26]) fun x28 =>
            opS P (S.cl 18 [x27]) fun x29 =>
            opS P (S.cl 14 [x28, x29]) fun x30 =>
            K x30
          )
        ) (
          allW (
            K (.bool false)
          ) (
            K (.bool false)
          )
        )
      ) (
        allW (
          K (.bool false)
        ) (
          K (.bool false)
        )
      )
    )
  )
instance fnb5 : FnB Tryd.prog 5 := ⟨Tryd.call5⟩
theorem e5 : p5 Tryd.prog = fun K x0 x1 x2 => denF Tryd.prog Tryd.f5 [x0, x1, x2] K := by kernel_rfl
theorem c5 {K : Value → World → Prop} {x0 x1 x2 : Value} {w : World} (h : p5 Tryd.prog K x0 x1 x2 w) : CallsR Tryd.prog 5 #[x0, x1, x2] K w := by
  rw [e5] at h
  exact denF_sound mixed Tryd.func5 h

-- gemel/gemellaw02.EtherOff
def p6 (P : Program) (K : Value → World → Prop) (x0 : Value) (x1 : Value) (x2 : Value) : World → Prop :=
  opS P (S.box 26 x0) fun x3 =>
  opS P (S.cl 9 []) fun x4 =>
  opS P (S.un .not x4) fun x5 =>
  brn x5 (
    K x4
  ) (
    opS P (S.fa 26 x3 6) fun x6 =>
    opS P (S.ld 24 x6) fun x7 =>
    opS P (S.len x7) fun x8 =>
    opS P (S.binI .gtr x8 (.int .i64 3000)) fun x9 =>
    brn x9 (
      K x4
    ) (
      opS P (S.fa 26 x3 2) fun x10 =>
      opS P (S.ld 4 x10) fun x11 =>
      brn x11 (
        K x4
      ) (
        opS P (S.ld 26 x3) fun x12 =>
        opS P (S.cl 15 [x12, x1, x2]) fun x13 =>
        opS P (S.ext x13 0) fun x14 =>
        opS P (S.ext x13 1) fun x15 =>
        opS P (S.alloc 26) fun x16 =>
        opS P (S.st 26 x16 x14) fun x17 =>
        opS P (S.binI .neq x15 (.int .i64 0)) fun x18 =>
        brn x18 (
          K (.bool true)
        ) (
          opS P (S.ld 26 x3) fun x19 =>
          opS P (S.cl 10 [x19]) fun x20 =>
          opS P (S.ext x20 0) fun x21 =>
          opS P (S.ext x20 1) fun x22 =>
          opS P (S.ld 26 x16) fun x23 =>
          opS P (S.cl 10 [x23]) fun x24 =>
          opS P (S.ext x24 0) fun x25 =>
          opS P (S.ext x24 1) fun x26 =>
          jnJ 1 (fun x27 =>
            opS P (S.binI .neq x22 (.int .i64 0)) fun x28 =>
            brn x28 (
              jnJ 1 (fun x29 =>
                K x29
              ) fun j0 =>
              brn x27 (
                opS P (S.binI .eql x26 (.int .i64 0)) fun x29 =>
                brn x29 (
                  opS P (S.ld 26 x3) fun x30 =>
                  opS P (S.cl 12 [x30]) fun x31 =>
                  opS P (S.un .not x31) fun x32 =>
                  j0 x32
                ) (
                  j0 (.bool false)
                )
              ) (
                j0 (.bool false)
              )
            ) (
              brn x27 (
                opS P (S.binI .eql x26 (.int .i64 0)) fun x29 =>
                brn x29 (
                  opS P (S.len x25) fun x30 =>
                  opS P (S.len x21) fun x31 =>
                  opS P (S.binI .add x31 (.int .i64 4)) fun x32 =>
                  opS P (S.binI .eql x30 x32) fun x33 =>
                  K x33
                ) (
                  K (.bool false)
                )
              ) (
                K (.bool false)
              )
            )
          ) fun j0 =>
          drw <|
          opS P (S.ld 26 x16) fun x27 =>
          allW (
            opS P (S.cl 17 [x27]) fun x28 =>
            opS P (S.ld 26 x3) fun x29 =>
            opS P (S.cl 17 [x29]) fun x30 =>
            opS P (S.cl 14 [x28, x30]) fun x31 =>
            j0 x31
          ) (
            opS P (S.ld 26 x3) fun x28 =>
            opS P (S.cl 17 [x27]) fun x29 =>
            opS P (S.cl 17 [x28]) fun x30 =>
            opS P (S.cl 14 [x29, x30]) fun x31 =>
            j0 x31
          )
        )
      )
    )
  )
instance fnb6 : FnB Tryd.prog 6 := ⟨Tryd.call6⟩
theorem e6 : p6 Tryd.prog = fun K x0 x1 x2 => denF Tryd.prog Tryd.f6 [x0, x1, x2] K := by kernel_rfl
theorem c6 {K : Value → World → Prop} {x0 x1 x2 : Value} {w : World} (h : p6 Tryd.prog K x0 x1 x2 w) : CallsR Tryd.prog 6 #[x0, x1, x2] K w := by
  rw [e6] at h
  exact denF_sound mixed Tryd.func6 h

-- gemel/gemellaw02.awake
def p9 (P : Program) (K : Value → World → Prop) : World → Prop :=
  opS P (S.build 23 [(0, (.int .u8 1))]) fun x0 =>
  opS P (S.build 23 [(0, (.int .u8 2))]) fun x1 =>
  opS P (S.buildS 24 1 [(0, (.int .u8 5))]) fun x2 =>
  opS P (S.build 26 [(0, x0), (1, x1), (5, (.int .i64 2048)), (6, x2)]) fun x3 =>
  opS P (S.cl 10 [x3]) fun x4 =>
  opS P (S.ext x4 0) fun x5 =>
  opS P (S.ext x4 1) fun x6 =>
  opS P (S.binI .eql x6 (.int .i64 0)) fun x7 =>
  brn x7 (
    opS P (S.len x5) fun x8 =>
    opS P (S.binI .eql x8 (.int .i64 15)) fun x9 =>
    brn x9 (
      opS P (S.ia 24 x5 (.int .i64 12)) fun x10 =>
      opS P (S.ld 5 x10) fun x11 =>
      opS P (S.binI .eql x11 (.int .u8 8)) fun x12 =>
      brn x12 (
        opS P (S.ia 24 x5 (.int .i64 14)) fun x13 =>
        opS P (S.ld 5 x13) fun x14 =>
        opS P (S.binI .eql x14 (.int .u8 5)) fun x15 =>
        K x15
      ) (
        K (.bool false)
      )
    ) (
      K (.bool false)
    )
  ) (
    K (.bool false)
  )
instance fnb9 : FnB Tryd.prog 9 := ⟨Tryd.call9⟩
theorem e9 : p9 Tryd.prog = fun K => denF Tryd.prog Tryd.f9 [] K := by kernel_rfl
theorem c9 {K : Value → World → Prop} {w : World} (h : p9 Tryd.prog K w) : CallsR Tryd.prog 9 #[] K w := by
  rw [e9] at h
  exact denF_sound mixed Tryd.func9 h

end Go.Gx.S
-- 9 3 4 5 6
